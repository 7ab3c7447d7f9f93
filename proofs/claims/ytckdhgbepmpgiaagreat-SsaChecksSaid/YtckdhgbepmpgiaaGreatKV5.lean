/-
  Contracts and the mathematics that the proof needs. Nothing here is a claim.
-/
import Derived.Test.YtckdhgbepmpgiaaGreatKV4
namespace Go.Proofs.YtckdhgbepmpgiaaGreat
open Go.GL
theorem zej (xs ys:List Int) (u v:Value) (D D':Nat->Prop) (w:World) (hx:SlR 1 yj D w u xs) (hy:SlR 1 yj D' w v ys):Calls Tryz.prog 69 #[u,v] w (Ret fun r w'=>r=.bool (decide (xs=ys))/\Ext w w'):=by
 obtain⟨ao,cx,rfl,hxc,hxm,hxe⟩:=hx
 obtain⟨bo,cy,rfl,hyc,hym,hye⟩:=hy
 refine zmv Tryz.func69 O Tryz.ntmps69 O (Gs 15 O (zmj O (fun hne=>?_) (fun heq=>?_)))
 ·
  refine Gs 7 O ?_
  have:¬ xs=ys:=fun h=>hne (by rw [h])
  refine zkV Tryz.results69 O ⟨_,rfl,by rw [zow this],Keep.refl _ _⟩
 ·
  have hl:xs.length=ys.length:=by omega
  refine Gs 11 O (G.loop (σ:=Nat) (fun k=>[(0,.slice ao xs.length cx),(1,.slice bo ys.length cy),(11,.slice ao xs.length cx),(12,.int .i64 xs.length),(13,.int .i64 k)]) (fun k=>fun w'=>k<=xs.length/\xs.take k=ys.take k/\Ext w w') (fun k=>xs.length - k) (0) (Sub.of O) (⟨zoy _,rfl,Keep.refl _ _⟩) ?_)
  rintro k w1 ⟨hkl,htk,hk1⟩
  refine Gs 6 O (zmj O (fun hlt=>?_) (fun hge=>?_))
  ·
   obtain⟨x,hx⟩:∃ x,xs[k]?=some x:=⟨_,zoj (by omega)⟩
   obtain⟨y,hy⟩:∃ y,ys[k]?=some y:=⟨_,zoj (by omega)⟩
   obtain⟨b1,o1,c1,hao,_,hcl1,hcs1,rfl⟩:=hxe k x hx
   obtain⟨b2,o2,c2,hbo,_,hcl2,hcs2,rfl⟩:=hye k y hy
   have hcs1':=hk1.cells hcs1 (fun h=>h)
   have hcs2':=hk1.cells hcs2 (fun h=>h)
   refine Gs 11 O (Qt (by kernel_rfl) (Gs 2 O (zmn O O (fun w1 hw1=>zlh tR27 ts3 O O hao (by omega)) (zmp O tg3 (fun w1 hw1=>(hw1.cell (hcs1' 0 _ O) (fun h=>h))) (Gs 2 O (zmn O O (fun w1 hw1=>zlh tR27 ts3 O O hbo (by omega)) (zmp O tg3 (fun w1 hw1=>(hw1.cell (hcs2' 0 _ O) (fun h=>h))) (Gs 1 O (zmr (fun w2 hk2=>?_))))))))))
   refine Gs 1 O (zmj O (fun hd=>?_) (fun he=>?_))
   ·
    have:¬ xs=ys:=by
     rintro rfl
     rw [hx] at hy
     exact hd (Option.some.inj hy)
    refine Gs 11 O (zkV Tryz.results69 O ⟨_,rfl,by rw [zow this],hk1.ext hk2⟩)
   ·
    have hxy:x=y:=zos.1 he
    refine Ga 7 O (by omega) (G.back (k+1) (Sub.of O) (⟨by omega,?_,hk1.ext hk2⟩) (by first | omega | (dsimp only;omega)))
    obtain⟨h1,h2⟩:=zox.1 hx
    obtain⟨h3,h4⟩:=zox.1 hy
    rw [List.take_succ_eq_append_getElem h1,List.take_succ_eq_append_getElem h3,htk,h2,h4,hxy]
  ·
   have hkk:k=xs.length:=by omega
   have:xs=ys:=by
    rw [hkk,zoo] at htk
    rw [hl,zoo] at htk
    exact htk
   refine Gs 11 O (zkV Tryz.results69 O ⟨_,rfl,by rw [zov this],hk1⟩)
theorem zcZ {α:Type} {c:Nat} {enc:α->List Value} (hc:∀ x,(enc x).length=c) {v:Value} {j:Nat} {x y:α} (hj:j<c) (hy:enc y=(enc x).set j v):∀ (L:List α) (k:Nat) (sp:List Value),L[k]?=some x->(L.flatMap enc++sp).set (k*c+j) v=(L.set k y).flatMap enc++sp
 | [],k,sp,h=>by simp at h
 | z::r,0,sp,h=>by
  simp at h
  subst h
  simp only [Nat.zero_mul,Nat.zero_add,List.flatMap_cons,List.set_cons_zero,List.append_assoc]
  rw [List.set_append_left _ _ (by rw [hc];exact hj),<- hy]
 | z::r,k+1,sp,h=>by
  simp only [List.getElem?_cons_succ] at h
  simp only [List.flatMap_cons,List.set_cons_succ,List.append_assoc]
  rw [List.set_append_right _ _ (by rw [hc,Nat.succ_mul];omega),hc]
  rw [show (k+1)*c+j - c=k*c+j from by rw [Nat.succ_mul];omega,zcZ hc hj hy r k sp h]
theorem zjP (m:Nat):Builtin.zeroCells (Value.int .i64 0).cells m=(List.replicate (m*1) (.int .i64 0)).toArray:=by
 apply Array.ext
 . simp [Builtin.zeroCells,Value.cells]
 ·
  intro i h1 h2
  have:i % 1=0:=by omega
  simp [Builtin.zeroCells,Value.cells,this]
theorem zdJ (es:List Int) (v:Value) (n:Nat) (w:World) (hown:w.ownsRow 0 3 1 v n (es.flatMap zbg)) (hlen:es.length<=1048576):Calls Tryz.prog 117 #[v] w (Ret fun u w'=>w'.ownsRow 0 3 1 u (Gr.compactL es).length ((Gr.compactL es).flatMap zbg)/\u.ownBlock=v.ownBlock/\Keep (fun q=>v.ownBlock=some q) w w'):=by
 have hn:n=es.length:=by
  have:=hown.1
  rw [jM] at this
  omega
 subst hn
 by_cases h0:es=[]
 ·
  subst h0
  obtain⟨l,c,hv⟩:∃ ao c,v=.slice ao 0 c:=by
   rcases hown.2 with⟨rfl,_⟩ | ⟨g,cap,cur,rfl,_⟩ <;> exact⟨_,_,rfl⟩
  subst hv
  refine zmu Tryz.func117 O Tryz.ntmps117 O (Gs 13 O (G.tt O (rfl) (Gs 8 O (zkV tr117 O ⟨_,rfl,hown,rfl,Keep.refl _ _⟩))))
 obtain⟨g,cap,sp,rfl,_,hnc,hcm,hB,hcl⟩:=jx xa (by omega) hown h0
 refine zmu Tryz.func117 O Tryz.ntmps117 O (Gs 13 O (zmj O (fun h2=>?_) (fun h2=>?_)))
 ·
  refine Gs 8 O ?_
  have e1:Gr.compactL es=es:=by
   match es,h0,h2 with
   | [x],_,_=>rfl
   | x::y::r,_,h=>simp at h;omega
  refine zkV tr117 O ⟨_,rfl,by rw [e1];exact hown,rfl,Keep.refl _ _⟩
 ·
  refine Gs 9 O ?_
  have e1:Gr.compactL (es.take 1)=es.take 1:=by
   match es,h0 with
   | x::r,_=>rfl
  refine G.loop (σ:=Nat) (fun k=>[(0,.slice (some ⟨g,0,none⟩) es.length cap),(3,.int .i64 k)]) (fun k=>fun w'=>1<=k/\k<=es.length/\Gr.compactL (es.take k)=es.take k/\Ext w w') (fun k=>es.length - k) (1) (Sub.of O) (⟨by omega,by omega,e1,Keep.refl _ _⟩) ?_
  rintro k w2 ⟨hk1,hkn,hck,hk2⟩
  have hB2:=hk2.blk hB (fun h=>h)
  refine Gs 9 O (zmj O (fun hlt=>?_) (fun hge=>?_))
  ·
   refine Gs 5 O (Qt (by kernel_rfl) (Gs 2 O ?_))
   obtain⟨x,hx⟩:∃ e,es[k]?=some e:=⟨_,zoj (by omega)⟩
   obtain⟨y,hy⟩:∃ e,es[k - 1]?=some e:=⟨_,zoj (by omega)⟩
   refine Ga 1 O (by omega) (zmp O tg3 (fun w1 hw1=>(hw1.cell (qP xa hB2 hx 0 _ O) (fun h=>h))) (Ga 4 O (by omega) (zmp O tg3 (fun w1 hw1=>((show Cells w2 g (0+((k:Int) - 1).toNat*1) (zbg y) from by rw [show ((k:Int) - 1).toNat=k - 1 from by omega];exact qP xa hB2 hy) 0 _ O |> fun h=>hw1.cell h (fun h=>h))) (Gs 1 O (zmr (fun w3 hw3=>?_))))))
   have hB3:=hw3.blk hB2 (fun h=>h)
   have hlast:(Gr.compactL (es.take k)).getLast?=some y:=by
    have:=Gr.compactL_last hy
    rwa [show k - 1+1=k from by omega] at this
   refine Gs 1 O (zmj O (fun heq=>?_) (fun hne=>?_))
   ·
    refine Gs 4 O ?_
    have hxy:x=y:=heq
    refine zmk O O (zlP tR27 ts3 O O O (by omega) (by omega)) (Gs 10 O ?_)
    have hs0:Gr.compactL (es.take (k+1))=es.take k:=by
     rw [Gr.compactL_take hx]
     unfold Gr.cstep
     rw [zou (by rw [hlast,hxy]),hck]
    refine G.loop (σ:=Nat × Nat × List Int) (fun⟨q,k2,L⟩=>[(0,.slice (some ⟨g,0,none⟩) es.length cap),(3,.int .i64 q),(4,.slice (some ⟨g,0+k*1,none⟩) (es.length - k) (cap - k)),(5,.int .i64 k2)]) (fun⟨q,k2,L⟩=>fun w'=>Blk w' g (L.flatMap zbg++sp) 3/\L.length=es.length/\k<=q/\q+1<=k+k2/\1<=k2/\k2<=es.length - k/\L.take q=Gr.compactL (es.take (k+k2))/\L.drop (k+k2 - 1)=es.drop (k+k2 - 1)/\Keep (fun b=>b=g) w w') (fun⟨q,k2,L⟩=>es.length - k - k2) ((k,1,es)) (Sub.of O) (⟨hB3,rfl,zoI _,by omega,by omega,by omega,hs0.symm,rfl,(hk2.ext hw3).mono (fun _ _ h=>h.elim)⟩) ?_
    rintro⟨q,k2,L⟩ w4 ⟨hB4,hL,hq1,hq2,hk21,hk22,htk,hdr,hK4⟩
    show G _ _ _ _ _ [(0,.slice (some ⟨g,0,none⟩) es.length cap),(3,.int .i64 q),(4,.slice (some ⟨g,0+k*1,none⟩) (es.length - k) (cap - k)),(5,.int .i64 k2)] _
    have hclL:(L.flatMap zbg++sp).length=cap*1:=by rw [<- hcl,zor,zor,jM,jM,hL]
    refine Gs 9 O (zmj O (fun hlt2=>?_) (fun hge2=>?_))
    ·
     refine Gs 5 O (Qt (by kernel_rfl) (Gs 2 O ?_))
     obtain⟨x2,hx2⟩:∃ e,es[k+k2]?=some e:=⟨_,zoj (by omega)⟩
     obtain⟨y2,hy2⟩:∃ e,es[k+k2 - 1]?=some e:=⟨_,zoj (by omega)⟩
     have hLx:L[k+k2]?=some x2:=by
      have:=congrArg (fun l=>l[1]?) hdr
      simp only [List.getElem?_drop] at this
      rw [show k+k2 - 1+1=k+k2 from by omega] at this
      rw [this];exact hx2
     have hLy:L[k+k2 - 1]?=some y2:=by
      have:=congrArg (fun l=>l[0]?) hdr
      simp only [List.getElem?_drop,Nat.add_zero] at this
      rw [this];exact hy2
     have hcx:Cells w4 g (0+k*1+(k2:Int).toNat*1) (zbg x2):=by
      have:=qP xa hB4 hLx
      rwa [show 0+(k+k2)*1=0+k*1+(k2:Int).toNat*1 from by rw [zoF];omega] at this
     have hcy:Cells w4 g (0+k*1+((k2:Int) - 1).toNat*1) (zbg y2):=by
      have:=qP xa hB4 hLy
      rwa [show 0+(k+k2 - 1)*1=0+k*1+((k2:Int) - 1).toNat*1 from by omega] at this
     refine Ga 1 O (by omega) (zmp O tg3 (fun w1 hw1=>(hw1.cell (hcx 0 _ O) (fun h=>h))) (Ga 4 O (by omega) (zmp O tg3 (fun w1 hw1=>(hw1.cell (hcy 0 _ O) (fun h=>h))) (Gs 1 O (zmr (fun w5 hw5=>?_))))))
     have hB5:=hw5.blk hB4 (fun h=>h)
     have hlast2:(Gr.compactL (es.take (k+k2))).getLast?=some y2:=by
      have:=Gr.compactL_last hy2
      rwa [show k+k2 - 1+1=k+k2 from by omega] at this
     refine Gs 1 O (zmj O (fun hne2=>?_) (fun heq2=>?_))
     ·
      refine Ga 7 O (by omega) (zmo O tg3 (hw5.cell (hcx 0 _ O) (fun h=>h)) (Ga 1 O (by omega) (zlw O (M.store ts3 O O O O hB5 (by rw [zoF,hclL];omega)) ?_)))
      rintro w6 ⟨hs6,hB6,hk6⟩
      obtain⟨z,hz⟩:∃ z,L[q]?=some z:=⟨_,zoj (by omega)⟩
      rw [zoF,Nat.zero_add,<- Nat.add_zero (q*1),zcZ xa (y:=x2) (by decide) rfl L q sp hz] at hB6
      refine Ga 14 O (by omega) (G.back ((q+1,k2+1,L.set q x2)) (Sub.of O) (⟨hB6,by simp [hL],by omega,by omega,by omega,by omega,?_,?_,(hK4.ext hw5).trans hk6 (fun _ _ h=>h)⟩) (by first | omega | (dsimp only;omega)))
      ·
       rw [show k+(k2+1)=k+k2+1 from by omega,Gr.compactL_take hx2,<- htk]
       unfold Gr.cstep
       rw [zot (by rw [htk,hlast2];intro h;exact hne2 (by cases h;rfl))]
       rw [List.take_succ_eq_append_getElem (by simp;omega)]
       simp [List.take_set_of_le]
      ·
       rw [List.drop_set_of_lt (by omega)]
       have:=congrArg (List.drop 1) hdr
       simp only [List.drop_drop] at this
       rw [show k+(k2+1) - 1=k+k2 - 1+1 from by omega]
       exact this
     ·
      refine Ga 8 O (by omega) (G.back ((q,k2+1,L)) (Sub.of O) (⟨hB5,hL,by omega,by omega,by omega,by omega,?_,?_,hK4.ext hw5⟩) (by first | omega | (dsimp only;omega)))
      ·
       rw [show k+(k2+1)=k+k2+1 from by omega,Gr.compactL_take hx2,<- htk]
       unfold Gr.cstep
       have:x2=y2:=by
        have:=heq2
        simp only [ne_eq,zos] at this
        exact this
       rw [zou (by rw [htk,hlast2,this])]
      ·
       have:=congrArg (List.drop 1) hdr
       simp only [List.drop_drop] at this
       rw [show k+(k2+1) - 1=k+k2 - 1+1 from by omega]
       exact this
    ·
     refine Gs 9 O (zmk O O (zlP tR27 ts3 O O O (by omega) (by omega)) (zlt O (M.clear (k:=1) (zs:=List.replicate ((es.length - q)*1) (.int .i64 0)) tR27 tz3 O (by omega) (zjP _) (by simp) (by intro u hu;rw [List.eq_of_mem_replicate hu];rfl) hB4 (by rw [zoF,hclL];omega)) ?_))
     rintro _ w6 ⟨rfl,hs6,hB6,hk6⟩
     refine Gs 6 O (zmk O O (zlO tR27 ts3 O O (by omega)) (Gs 9 O (zkV tr117 O ⟨_,rfl,?_,rfl,(hK4.trans hk6 (fun _ _ h=>h)).mono (fun q _ h=>by rw [h];rfl)⟩)))
     have hk2e:k+k2=es.length:=by omega
     rw [hk2e,zoo] at htk
     have hlq:(Gr.compactL es).length=q:=by rw [<- htk,zoN];omega
     have hql:q*1<=(L.flatMap zbg++sp).length:=by rw [hclL];omega
     rw [hlq]
     rw [zoF,Nat.zero_add] at hB6
     have h7:=ym (k:=1) (n:=q) (cap:=cap) hB6 (by omega) hcm (by simp only [zor,zoN,List.length_drop,List.length_replicate] at *;omega)
     rw [List.append_assoc,List.take_append_of_le_length (by rw [zoN];omega),List.take_take,Nat.min_self,List.take_append_of_le_length (by rw [jM];omega),jw xa,htk] at h7
     exact h7
   ·
    refine Ga 8 O (by omega) (G.back (k+1) (Sub.of O) (⟨by omega,by omega,?_,hk2.ext hw3⟩) (by first | omega | (dsimp only;omega)))
    rw [Gr.compactL_take hx]
    unfold Gr.cstep
    rw [zot (by rw [hlast];intro h;exact hne (by cases h;rfl)),hck]
    rw [List.take_succ_eq_append_getElem (by omega)]
    rw [zoj (by omega)] at hx
    cases hx
    rfl
  ·
   refine Gs 12 O ?_
   have:k=es.length:=by omega
   subst this
   rw [zoo] at hck
   refine zkV tr117 O ⟨_,rfl,by rw [hck];exact zj hown hk2 (fun _ _ h=>h),rfl,hk2.mono (fun _ _ h=>h.elim)⟩
theorem zj9 {w:World} (u:Value) (l:List Int) (h:(qq u l).holds w) (hl:l.length<=1048576):Calls Tryz.prog 116 #[u] w (Ret fun r w'=>∃ _:Unit,r=.tuple #[]/\(qq u (kE l)).holds w'/\Keep (qq u l).S w w'/\∀ q,(qq u (kE l)).S q->((qq u l).S q\/w.heap.size<=q)/\q<w'.heap.size):=by
 refine (zhA l u l.length w h hl).mono ?_
 rintro _ w' ⟨_,rfl,rfl,h1,h2⟩
 have h1':(qq u (kE l)).holds w':=by rw [<- qI l] at h1;exact h1
 exact⟨_,rfl,(),rfl,h1',h2,fun q hq=>⟨.inl hq,qt h1 hq⟩⟩
theorem zeT {w:World} (u:Value) (l:List Int) (h:(qq u l).holds w) (hl:l.length<=1048576):Calls Tryz.prog 117 #[u] w (Ret fun r w'=>∃ x:Value,r=x/\(qq x (Gr.compactL l)).holds w'/\Keep (qq u l).S w w'/\∀ q,(qq x (Gr.compactL l)).S q->((qq u l).S q\/w.heap.size<=q)/\q<w'.heap.size):=by
 have he:∀ l:List Int,l.map zc=l.flatMap zbg:=fun l=>by rw [List.map_eq_flatMap];rfl
 have h':w.ownsRow 0 3 1 u l.length (l.flatMap zbg):=by rw [<- he];exact h
 refine (zdJ l u l.length w h' hl).mono ?_
 rintro _ w' ⟨x,rfl,h1,h2,h3⟩
 rw [<- he] at h1
 exact⟨_,rfl,x,rfl,h1,h3,fun q hq=>⟨.inl (show u.ownBlock=some q from h2 ▸ hq),qt h1 hq⟩⟩
theorem zgd (f:Fl) (g:List Nd) (hk:GOk f g) (i:Nat) (hi:i<g.length) (b:Nat) (D:Nat->Prop) (W:World) (hG:GrO D W f g b) :
  Calls Tryz.prog 81 #[.pointer (some ⟨b,0,none⟩),.int .i64 i] W (Ret fun r w'=>SlR 1 yj (fun q=>W.heap.size<=q) w' r (rdV f g i)/\Ext W w'):=by
 obtain⟨v1,v2,v3,gv,sv,pv,hD,hcell,hf,hg,hs,hp⟩:=hG
 obtain⟨as_,cs_,rfl⟩:=hs.form
 obtain⟨ag,cg,rfl⟩:=hg.form
 have hsl:(g.map (stN f)).length=g.length:=zoD _
 have hsx:=hs.max
 refine zmv Tryz.func81 O Tryz.ntmps81 O (zmE ?_)
 refine znb 900 0 O O (fun h=>h) hcell ?_
 refine zmL 0 900 0 O O ?_
 refine Vs 12 O ?_
 obtain⟨st,he_st,hm_st⟩:=gE_ (g.map (stN f)) (i) (by omega)
 obtain⟨b_st,o_st,c_st,ha_st,_,hc_st,hR_st⟩:=hs.at he_st
 obtain⟨v1_st,v2_st,v3_st,v4_st,rfl,hk_st,ht_st,hs_st,hb_st⟩:=hR_st.get
 obtain⟨a1_st,n1_st,rfl⟩:=hk_st.form
 obtain⟨a2_st,n2_st,rfl⟩:=ht_st.form
 obtain⟨a3_st,n3_st,rfl⟩:=hs_st.form
 obtain⟨a4_st,n4_st,rfl⟩:=hb_st.form
 refine zna 1000 0 O O hc_st ?_
 refine zmN 1000 tR24 ts72 O ha_st (by omega) (_) (rfl) O ?_
 refine Vs 1 O ?_
 refine V.alloc 5 tz72 O O (fun b5=>?_)
 refine Vs 11 O ?_
 obtain⟨x,he_x,hm_x⟩:=gE_ g (i) (by omega)
 obtain⟨b_x,o_x,c_x,ha_x,_,hc_x,hR_x⟩:=hg.at he_x
 obtain rfl:=hR_x
 refine zna 2000 0 O O hc_x ?_
 refine zmN 2000 tR34 ts65 O ha_x (by omega) (_) (rfl) O ?_
 have hx:=xd he_x
 have hst:st=stN f x:=by rw [zoA,he_x] at he_st;exact (Option.some.inj he_st).symm
 have hrd:rdV f g i=rdN f x:=by unfold rdV;rw [hx]
 have hno:rdB f x=false->SlR 1 yj (fun q=>W.heap.size<=q) W (.slice none 0 0) (rdV f g i):=fun h=>by rw [hrd];unfold rdN;rw [h];exact SlR.nil
 refine Vs 4 O ?_
 refine zne (σ:=Unit) [5] [5] [5] O (fun e u=>e) (fun e u=>e) (fun u=>rdB f x=true) (fun _=>rfl) (fun _=>rfl) ?_ ?_
 ·
  refine Vs 8 O ?_
  refine zkG O (fun k3=>?_) (fun k3=>?_)
  ·
   refine Vs 5 O ?_
   refine zkT (()) (Sub.of O) (Has.of O) (by unfold rdB;simp [k3]) 0 O O
  ·
   refine Vs 5 O ?_
   refine zkG O (fun k5=>?_) (fun k5=>?_)
   ·
    refine Vs 2 O ?_
    refine zkT (()) (Sub.of O) (Has.of O) (by unfold rdB;simp [k5]) 0 O O
   ·
    refine Vs 6 O ?_
    refine zkG O (fun k2=>?_) (fun k2=>?_)
    ·
     have h0:=(hk.at he_x (.inl k2)).1
     have hst2:st=zU f x.at_:=by rw [hst];exact zou h0
     refine Vs 6 O ?_
     refine V.sp 30 O (fun a0=>?_) (fun a0=>?_)
     ·
      refine Vs 6 O ?_
      refine zkG O (fun a1=>?_) (fun a1=>?_)
      ·
       refine Vs 9 O ?_
       refine zkW Tryz.results81 O (fun w hI=>⟨_,rfl,Tr1 hI.k0 (hno (by unfold rdB;rw [<- hst2];simp [k2,a0,a1])),hI.k0⟩)
      ·
       refine Vs 2 O ?_
       refine zkT (()) (Sub.of O) (Has.of O) (by unfold rdB;rw [<- hst2];simp [k2,zos.1 a1]) 0 O O
     ·
      refine Vs 9 O ?_
      refine zkT (()) (Sub.of O) (Has.of O) (by unfold rdB;rw [<- hst2];simp [k2,zos.1 a0]) 0 O O
    ·
     refine Vs 9 O ?_
     refine zkW Tryz.results81 O (fun w hI=>⟨_,rfl,Tr1 hI.k0 (hno (by unfold rdB;simp [k2,k3,k5])),hI.k0⟩)
 rintro u hrb
 have hkk:x.kind=2\/x.kind=3\/x.kind=5:=by unfold rdB at hrb;simp at hrb;omega
 obtain⟨h0,h1,h2⟩:=hk.at he_x hkk
 have hst2:st=zU f x.at_:=by rw [hst];exact zou h0
 rw [<- hst2] at h2
 have hrd2:rdV f g i=Gr.compactL (kE (xm st.term)):=by rw [hrd];unfold rdN;rw [zou hrb,<- hst2]
 refine Vs 2 O ?_
 refine zmR 901 3 1 O ?_
 refine Vs 3 O ?_
 refine zn4 901 (E:=fun x=>qq x ([]++xm st.term)) Tryz.call127 O (fun _=>⟨trivial,fun _ h=>h⟩) (fun w hI=>zhK st.term _ _ [] (fun q=>D q/\q<W.heap.size) w ((hk_st.narrow (by omega) zam).ext zo hI.k0) (hI.at 901 O) (fun q hq=>⟨Nat.lt_of_lt_of_le hq.2 (hI.k0).size,fun h=>by cases h⟩) (by simp;omega)) ?_
 rintro u2 _ rfl
 rw [List.nil_append]
 refine Vs 6 O ?_
 refine zn4 901 (E:=fun _:Unit=>qq u2 (kE (xm st.term))) Tryz.call116 O (fun _=>⟨trivial,fun _ h=>h⟩) (fun w hI=>zj9 u2 (xm st.term) (hI.at 901 O) (by omega)) ?_
 rintro _ _ rfl
 refine Vs 5 O ?_
 refine zn4 901 (E:=fun x=>qq x (Gr.compactL (kE (xm st.term)))) Tryz.call117 O (fun _=>⟨trivial,fun _ h=>h⟩) (fun w hI=>zeT u2 (kE (xm st.term)) (hI.at 901 O) (by rw [qI];omega)) ?_
 rintro u3 _ rfl
 refine Vs 4 O ?_
 refine zkW Tryz.results81 O (fun w hI=>⟨_,rfl,by rw [hrd2];exact zlM zc (fun _ _=>rfl) (hI.at 901 O) (fun g hg=>hI.own 901 0 O O g hg),hI.k0⟩)
theorem zge (l:List St):plainL l=true->∀ (a n e:Nat) (G:List Nd) (P:List St),CtxG G n (layL l a n e)->CtxP P a (preL l)->∀ x ∈ layL l a n e,
  (x.kind=2->∃ s,P[x.at_.toNat]?=some s/\s.act ≠ 3/\s.act ≠ 4)/\(x.kind=4->0<=x.next/\∃ y,G[x.next.toNat]?=some y/\y.kind=5/\y.at_=x.at_)/\(x.kind=5->∃ s,P[x.at_.toNat]?=some s/\s.act=4):=by
 induction l using zm4 with
 | h l ih =>
 intro hp
 have key:∀ r:List St,(∀ x ∈ r,x ∈ l)->∀ (a n e:Nat) (G:List Nd) (P:List St),CtxG G n (layL r a n e)->CtxP P a (preL r)->∀ x ∈ layL r a n e,
   (x.kind=2->∃ s,P[x.at_.toNat]?=some s/\s.act ≠ 3/\s.act ≠ 4)/\(x.kind=4->0<=x.next/\∃ y,G[x.next.toNat]?=some y/\y.kind=5/\y.at_=x.at_)/\(x.kind=5->∃ s,P[x.at_.toNat]?=some s/\s.act=4):=by
  intro r
  induction r with
  | nil=>intro _ a n e G P _ _ x hx;simp [layL] at hx
  | cons s r ihr =>
   intro hm a n e G P hG hP x hx
   have hs:=yF hp s (hm s (zon ..))
   have hps:=hs
   rw [s.plainB_eq,Bool.and_eq_true,Bool.and_eq_true] at hs
   have h1:=(ih s (hm s (zon ..))).1 hs.1.2
   have h2:=(ih s (hm s (zon ..))).2 hs.2
   have hw:=s.wid_eq
   rw [layL] at hG hx
   rw [preL] at hP
   have hlen:(s.lay a n (if r.isEmpty then e else n+s.wid)).length=s.wid:=by
    have h1:=zQ [s] (by rw [plainL,hps];rfl) a n (if r.isEmpty then e else n+s.wid)
    simpa [layL,widL] using h1
   have hpl:s.pre.length=s.size:=by
    have:=zZ [s]
    simpa [preL,ssize] using this
   rw [zoC] at hx
   rcases hx with hx | hx
   ·
    replace hG:=hG.left
    replace hP:=hP.left
    generalize (if r.isEmpty then e else n+s.wid)=e' at hG hx hlen
    rw [s.lay_eq] at hG hx
    rw [s.pre_eq] at hP
    have hpl1:=zZ s.thn
    split at hx
    ·
     rename_i a3
     rw [zou a3] at hG
     have hl1:=zQ s.thn hs.1.2 (a+1) (n+1) e'
     rw [zoz,zoC] at hx
     rcases hx with rfl | hx | hx
     . exact⟨fun h=>by (cases h),fun h=>by (cases h),fun h=>by (cases h)⟩
     . exact h1 _ _ _ G P hG.tail.left hP.tail.left x hx
     . exact h2 _ _ _ G P (hG.tail.right (by omega)) (hP.tail.right (by omega)) x hx
    ·
     rename_i a3
     split at hx
     ·
      rename_i a4
      rw [zot a3,zou a4] at hG
      rw [zoz,zoz] at hx
      rcases hx with rfl | rfl | hx
      . exact⟨fun h=>by (cases h),fun _=>⟨Int.natCast_nonneg _,⟨5,a,if s.thn.isEmpty then (n+1:Nat) else (n+2:Nat),e'⟩,by dsimp only;rw [zoF];exact hG.tail.head,rfl,rfl⟩,fun h=>by (cases h)⟩
      . exact⟨fun h=>by (cases h),fun h=>by (cases h),fun _=>⟨s,by dsimp only;rw [zoF];exact hP.head,a4⟩⟩
      . exact h1 _ _ _ G P hG.tail.tail hP.tail.left x hx
     ·
      rename_i a4
      rw [zoB] at hx
      subst hx
      exact⟨fun _=>⟨s,by dsimp only;rw [zoF];exact hP.head,a3,a4⟩,fun h=>by (cases h),fun h=>by (cases h)⟩
   . exact ihr (fun y hy=>hm y (zom _ hy)) _ _ _ G P (hG.right (by omega)) (hP.right (by omega)) x hx
 exact key l (fun x h=>h)
theorem zgf (l:List St):plainL l=true->∀ a n e:Nat,(layL l a n e).Pairwise fun x y=>x.kind=y.kind->x.at_ ≠ y.at_:=by
 induction l using zm4 with
 | h l ih =>
 intro hp
 have key:∀ r:List St,(∀ x ∈ r,x ∈ l)->∀ a n e:Nat,(layL r a n e).Pairwise fun x y=>x.kind=y.kind->x.at_ ≠ y.at_:=by
  intro r
  induction r with
  | nil=>intro _ a n e;simp [layL]
  | cons s r ihr =>
   intro hm a n e
   have hs:=yF hp s (hm s (zon ..))
   have hr:plainL r=true:=zaB fun y hy=>yF hp y (hm y (zom _ hy))
   have hsl:=(qU [s] (by rw [plainL,hs];rfl) a n (if r.isEmpty then e else n+s.wid)).range
   have hrl:=(qU r hr (a+s.size) (n+s.wid) e).range
   rw [s.plainB_eq,Bool.and_eq_true,Bool.and_eq_true] at hs
   have h1:=(ih s (hm s (zon ..))).1 hs.1.2
   have h2:=(ih s (hm s (zon ..))).2 hs.2
   simp only [layL,List.isEmpty_nil,if_true,List.append_nil,ssize,Nat.add_zero] at hsl
   rw [layL,List.pairwise_append]
   refine⟨?_,ihr (fun y hy=>hm y (zom _ hy)) _ _ _,fun x hx y hy _=>by have:=hsl x hx;have:=hrl y hy;omega⟩
   generalize (if r.isEmpty then e else n+s.wid)=e'
   rw [s.lay_eq]
   split
   ·
    have n1:=(qU s.thn hs.1.2 (a+1) (n+1) e').range
    have n2:=(qU s.els hs.2 (a+1+ssize s.thn) (n+1+widL s.thn) e').range
    exact List.Pairwise.cons (fun y hy _=>by
     rcases zoC.1 hy with hy | hy
     . have:=n1 y hy;dsimp only;omega
     ·
      have:=n2 y hy;dsimp only;omega) (List.pairwise_append.2 ⟨h1 _ _ _,h2 _ _ _,fun x hx y hy _=>by have:=n1 x hx;have:=n2 y hy;omega⟩)
   ·
    split
    ·
     have n1:=(qU s.thn hs.1.2 (a+1) (n+2) (n+1)).range
     exact List.Pairwise.cons (fun y hy h=>by
      rcases zoz.1 hy with rfl | hy
      . cases h
      ·
       have:=n1 y hy;dsimp only;omega) (List.Pairwise.cons (fun y hy _=>by have:=n1 y hy;dsimp only;omega) (h1 _ _ _))
    . exact List.Pairwise.cons (fun y hy=>by cases hy) List.Pairwise.nil
 exact key l (fun x h=>h)
theorem Valid.part {f:Fl} (V:Valid f) {i:Nat} {x:Nd} (hx:(zh f)[i]?=some x) :
  (x.kind=2->(zU f x.at_).act ≠ 3/\(zU f x.at_).act ≠ 4)/\(x.kind=4->0<=x.next/\∃ y,(zh f)[x.next.toNat]?=some y/\y.kind=5/\y.at_=x.at_)/\(x.kind=5->(zU f x.at_).act=4):=by
 have hm:=zok hx
 have hG:CtxG (zh f) 1 (layL f.body 0 1 (1+widL f.body)):=by
  intro i x hx
  have hi:=(zox.1 hx).1
  unfold zh
  rw [show 1+i=i+1 by omega,List.getElem?_cons_succ,zoJ hi];exact hx
 unfold zh at hm
 rw [zoz,zoC,zoB] at hm
 rcases hm with rfl | hm | rfl
 . exact⟨fun h=>by (cases h),fun h=>by (cases h),fun h=>by (cases h)⟩
 ·
  obtain⟨p1,p2,p3⟩:=zge f.body V.plain 0 1 (1+widL f.body) (zh f) (preL f.body) hG (fun i x hx=>by rw [Nat.zero_add];exact hx) x hm
  refine⟨fun h=>?_,p2,fun h=>?_⟩
  ·
   obtain⟨s,h1,h2⟩:=p1 h
   unfold zU
   rw [h1];exact h2
  ·
   obtain⟨s,h1,h2⟩:=p3 h
   unfold zU
   rw [h1];exact h2
 . exact⟨fun h=>by (cases h),fun h=>by (cases h),fun h=>by (cases h)⟩
theorem Valid.same {f:Fl} (V:Valid f) {i j:Nat} {x y:Nd} (hx:(zh f)[i]?=some x) (hy:(zh f)[j]?=some y) (hk:x.kind=y.kind) (he:x.at_=y.at_):i=j:=by
 have hP:(zh f).Pairwise fun x y=>x.kind=y.kind->x.at_ ≠ y.at_:=by
  have hkd:=jT f.body 0 1 (1+widL f.body)
  unfold zh
  refine List.Pairwise.cons (fun y hy h=>?_) (List.pairwise_append.2 ⟨zgf f.body V.plain _ _ _,by simp,fun x hx y hy h=>?_⟩)
  ·
   rcases zoC.1 hy with hy | hy
   . have:=hkd y hy;dsimp only at h;omega
   . rw [zoB] at hy;subst hy;cases h
  ·
   rw [zoB] at hy
   have:=hkd x hx
   subst hy
   dsimp only at h
   omega
 obtain⟨hi,rfl⟩:=zox.1 hx
 obtain⟨hj,rfl⟩:=zox.1 hy
 rcases Nat.lt_trichotomy i j with h | h | h
 . exact absurd he (List.pairwise_iff_getElem.1 hP i j hi hj h hk)
 . exact h
 . exact absurd he.symm (List.pairwise_iff_getElem.1 hP j i hj hi h hk.symm)
theorem Valid.heads {f:Fl} (V:Valid f) {i j:Nat} {x y:Nd} (hx:(zh f)[i]?=some x) (hy:(zh f)[j]?=some y) (kx:x.kind=5) (ky:y.kind=5) (he:x.at_=y.at_):i=j:=V.same hx hy (kx.trans ky.symm) he
end Go.Proofs.YtckdhgbepmpgiaaGreat
namespace Go.GL
theorem jV:xM RNd:=fun _ _ _ _ h=>h
end Go.GL
namespace Go.Proofs.YtckdhgbepmpgiaaGreat
open Go.GL
theorem zgg (l:List St):∀ (a n e N:Nat),n+widL l<=N->e<N->∀ x ∈ layL l a n e,(-1<=x.next/\x.next<N)/\(-1<=x.other/\x.other<N):=by
 induction l using zm4 with
 | h l ih =>
 have wpos:∀ r:List St,r.isEmpty=false->1<=widL r:=by
  intro r hr
  cases r with
  | nil=>simp at hr
  | cons s t=>have:=s.wid_eq;simp only [widL];omega
 have key:∀ r:List St,(∀ x ∈ r,x ∈ l)->∀ (a n e N:Nat),n+widL r<=N->e<N->∀ x ∈ layL r a n e,(-1<=x.next/\x.next<N)/\(-1<=x.other/\x.other<N):=by
  intro r
  induction r with
  | nil=>intro _ a n e N _ _ x hx;simp [layL] at hx
  | cons s r ihr =>
   intro hm a n e N hN he x hx
   have h1:=(ih s (hm s (zon ..))).1
   have h2:=(ih s (hm s (zon ..))).2
   have hw:=s.wid_eq
   simp only [widL] at hN
   rw [layL,zoC] at hx
   rcases hx with hx | hx
   ·
    have he':(if r.isEmpty then e else n+s.wid)<N:=by
     cases hr:r.isEmpty
     . have:=wpos r hr;simp;omega
     . simpa using he
    generalize (if r.isEmpty then e else n+s.wid)=e' at hx he'
    rw [s.lay_eq] at hx
    split at hx
    ·
     rename_i a3
     rw [zot (show ¬ s.act=4 by omega)] at hw
     rw [zoz,zoC] at hx
     rcases hx with rfl | hx | hx
     ·
      dsimp only
      refine⟨?_,?_⟩
      ·
       cases hr:s.thn.isEmpty
       . have:=wpos _ hr;simp;omega
       . simp;omega
      ·
       cases hr:s.els.isEmpty
       . have:=wpos _ hr;simp;omega
       . simp;omega
     . exact h1 _ _ _ N (by omega) he' x hx
     . exact h2 _ _ _ N (by omega) he' x hx
    ·
     split at hx
     ·
      rename_i a4
      rw [zou a4] at hw
      rw [zoz,zoz] at hx
      rcases hx with rfl | rfl | hx
      . dsimp only;omega
      ·
       dsimp only
       refine⟨?_,by omega⟩
       cases hr:s.thn.isEmpty
       . have:=wpos _ hr;simp;omega
       . simp;omega
      . exact h1 _ _ _ N (by omega) (by omega) x hx
     ·
      rw [zoB] at hx
      subst hx
      dsimp only;omega
   . exact ihr (fun y hy=>hm y (zom _ hy)) _ _ _ N (by omega) he x hx
 exact key l (fun x h=>h)
theorem Valid.edge {f:Fl} (V:Valid f) {i:Nat} {x:Nd} (hx:(zh f)[i]?=some x):(∀ to,to=x.next\/to=x.other -> -1<=to/\to<(zh f).length)/\(x.kind=2->0<=x.at_/\x.at_<(preL f.body).length):=by
 have hlen:=yz f V.plain
 have hi:=(zox.1 hx).1
 refine⟨?_,fun k2=>?_⟩
 ·
  have hm:=zok hx
  unfold zh at hm
  rw [zoz,zoC,zoB] at hm
  rcases hm with rfl | hm | rfl
  . dsimp only;intro to h;omega
  ·
   have:=zgg f.body 0 1 (1+widL f.body) (zh f).length (by omega) (by omega) x hm
   intro to h
   rcases h with rfl | rfl <;> omega
  . dsimp only;intro to h;omega
 ·
  by_cases hl:i<(zh f).length - 1
  ·
   obtain⟨h1,h2⟩:=V.node (k:=(i:Int)) (by omega) (by omega)
   rw [zoF,hx] at h1
   have e:=Option.some.inj h1
   rw [<- e] at h2
   obtain⟨h3,h4,_⟩:=h2.step (by omega)
   have:=(zox.1 h4).1
   omega
  ·
   have hx2:=hx
   unfold zh at hx2
   obtain⟨j,rfl⟩:∃ j,i=j+1:=⟨i - 1,by omega⟩
   rw [List.getElem?_cons_succ,zoK (by rw [zQ _ V.plain];omega),zQ _ V.plain] at hx2
   rw [show j - widL f.body=0 by omega] at hx2
   simp at hx2
   subst hx2
   cases k2
theorem zhL (l:List St) (v:Value) (D:Nat->Prop) (w:World) (k:Int) (s:St) (hl:SlR 10 RSt D w v l) (h0:0<=k) (hs:(preL l)[k.toNat]?=some s) (hz:ssize l<=10000) :
  Calls Tryz.prog 25 #[v,.int .i64 k] w (Ret fun r w'=>(∃ a1 c1 a2 c2 a3 c3 a4 c4,r=.tuple #[.agg #[.int .i64 s.act,.int .i64 s.cost,.int .i64 s.var,.int .i64 s.n,.int .i64 s.term.op,.int .i64 s.term.n,.slice a1 s.term.kids.length c1,.slice a2 s.thn.length c2,.slice a3 s.els.length c3,.slice a4 s.bounds.length c4],.bool true]/\RSt D w' s [.int .i64 s.act,.int .i64 s.cost,.int .i64 s.var,.int .i64 s.n,.int .i64 s.term.op,.int .i64 s.term.n,.slice a1 s.term.kids.length c1,.slice a2 s.thn.length c2,.slice a3 s.els.length c3,.slice a4 s.bounds.length c4]/\SlR 3 RTm D w' (.slice a1 s.term.kids.length c1) s.term.kids)/\Ext w w'):=by
 obtain⟨k,rfl⟩:=Int.eq_ofNat_of_zero_le h0
 refine (zj8 l v D w k s hl hs hz).mono fun e w'=>?_
 rintro⟨_,rfl,⟨cs,rfl,_,hR⟩,hk⟩
 have hR0:=hR
 obtain⟨u1,u2,u3,u4,rfl,h1,h2,h3,h4⟩:=hR.get
 obtain⟨a1,c1,rfl⟩:=h1.form
 obtain⟨a2,c2,rfl⟩:=h2.form
 obtain⟨a3,c3,rfl⟩:=h3.form
 obtain⟨a4,c4,rfl⟩:=h4.form
 exact⟨_,rfl,⟨a1,c1,a2,c2,a3,c3,a4,c4,rfl,hR0,h1⟩,hk⟩
abbrev yB (f:Fl) (r:Ins) (j:Nat):Mc:=zbl f (zY f r) (zh f) j (zkt f r)
theorem zgh {f:Fl} {r:Ins} (vd:Valid f) (e0:zB f.vars r=0) {K:Nat} (hg:GoesAll f r K):∀ j,j<=K->MInv f j (yB f r j)
 | 0,_=>⟨zb1 e0,by show (0:Int)<=0/\(0:Int)<=_;omega,zoI _,fun k=>by show (0:Int)<=0/\(0:Int)<=_;omega⟩
 | j+1,h=>by
  have h3:0<=(yB f r j).at_/\(yB f r j).at_<((zh f).length:Int) - 1:=by
   obtain⟨_,_,h2⟩:=hg
   exact h2 j (by omega)
  rw [show yB f r (j+1)=jb f (zY f r) (zh f) (yB f r j) from zbx _ _ _ _ _]
  exact zfW vd.good (vd.node h3.1 h3.2).2 (zgh vd e0 hg j (by omega))
def CtOk (f:Fl) (cl:List Int) (rd:Int->Int):Prop:=∀ (i:Nat) x,(zh f)[i]?=some x->x.kind=5->cl[i]?=some (rd x.at_)
theorem CtOk.set {f:Fl} (vd:Valid f) {cl:List Int} {rd:Int->Int} (h:CtOk f cl rd) (hl:cl.length=(zh f).length) {i:Nat} {x:Nd} (hx:(zh f)[i]?=some x) (hk:x.kind=5) (v:Int):CtOk f (cl.set i v) (zcn rd x.at_ v):=by
 intro q y hy ky
 have hi:=(zox.1 hx).1
 unfold zcn
 by_cases e:y.at_=x.at_
 ·
  obtain rfl:q=i:=vd.heads hy hx ky hk e
  rw [zou e,List.getElem?_set_self (by omega)]
 ·
  rw [zot e,List.getElem?_set_ne (fun h=>e (by subst h;rw [hx] at hy;cases hy;rfl))]
  exact h q y hy ky
theorem zja {f:Fl} (vd:Valid f) {i:Nat} {x:Nd} (hx:(zh f)[i]?=some x):(i+1=(zh f).length->x=⟨1,-1,-1,-1⟩)/\(x.kind=0->x.at_=-1):=by
 have hlen:=yz f vd.plain
 have hi:=(zox.1 hx).1
 unfold zh at hx
 cases i with
 | zero=>simp at hx;subst hx;exact⟨fun h=>by omega,fun _=>rfl⟩
 | succ i =>
  rw [List.getElem?_cons_succ] at hx
  by_cases hi2:i<widL f.body
  ·
   rw [zoJ (by rw [zQ _ vd.plain];omega)] at hx
   refine⟨fun h=>by omega,fun h=>?_⟩
   rcases jT _ _ _ _ x (zok hx) with h' | h' | h' | h' <;> omega
  ·
   rw [zoK (by rw [zQ _ vd.plain];omega),zQ _ vd.plain,show i - widL f.body=0 by omega] at hx
   simp at hx;subst hx
   exact⟨fun _=>rfl,fun h=>by (cases h)⟩
end Go.Proofs.YtckdhgbepmpgiaaGreat
namespace Go.GL
open Go.RowKit
section
variable {P:Program} {n:Nat} {Q:Exit->Act->World->Prop} {ks:List Fr} {pos:Pos} {env:Env} {A:Tgs} {H Hs:Hp} {Bs B0:zG} {ops:Array Oper} {rest:List Oper} {v:Value} {L:List Nat} {fuel:Nat} {listed:Array Bool}
variable {d:Nat} {op:Op} {ty:TypeId} {ps:String} {aft:Array Edge} {g:Option (Nat × Bool)}
theorem V.opM (k:Nat) {e e':HE} {r:Value} (hn:(Nat.blt d n,gd ops env g,hget H k,qR H k)=(true,some true,some e,none)) (hl:e'.loc) (hz:∀ b,¬ e'.fz b) (hm:∀ w,VI Bs H w->yC P ⟨some d,op,ty,ps,aft,g⟩ env w (fun u w'=>u=r/\e'.holds w'/\Keep e.S w w'/\∀ q,e'.S q->(e.S q\/w.heap.size<=q)/\q<w'.heap.size))
  (h:V P n Q ks (.o ops rest) ((d,r)::env) ((d,none)::A) (yw H k e') Bs):V P n Q ks (.o ops (⟨some d,op,ty,ps,aft,g⟩::rest)) env A H Bs:=by
 simp only [Prod.mk.injEq] at hn
 refine fun hA w hI=>zlr hn.1 hn.2.1 (hm w hI) ?_
 rintro _ w' ⟨rfl,hh,hk,hS⟩
 exact h (TgOk.none (hA.res hn.2.2.1 hn.2.2.2)) w' (hI.set hn.2.2.1 hk hh hl hz hS)
end
section
variable {P:Program} {n:Nat} {Q:Exit->Act->World->Prop} {ks:List Fr} {env:Env} {A:Tgs} {H Hs:Hp} {Bs B0:zG} {ops:Array Oper} {L:List Nat} {fuel:Nat} {listed:Array Bool}
variable {d:Nat} {ty:TypeId} {ps:String} {aft:Array Edge}
theorem znW (i i2 k2 j:Nat) (kk:List Nat) {f:FuncId} {xs:Array Operand} {ts:Array TypeId} {vs:List Value} {α:Type} {Hn:α->Hp} {Φ:Value->α->Prop} (A1:Tgs) {e2 ty2:TypeId} {ps2:String} {aft2:Array Edge} {d2:Nat} {z:Value} {cs:List Value} (hf:∀ args w,(callFunc f args).run P w=.ok (.enter f args) w)
  (hi:(ops[i]?,ops[i2]?)=(some ⟨some d,.call ⟨.value (.func f),xs,ts⟩,ty,ps,aft,none⟩,some ⟨some d2,.alloc e2,ty2,ps2,aft2,none⟩)) (hr:Region.ready .any ops listed=[i,i2]) (hn:(Nat.blt d n,Nat.blt d2 n,qy env xs.toList,(hget H k2).isNone,qd (Hs.map (·.1)))=(true,true,some vs,true,true)) (hB:Bs.drop j=B0)
  (hHs:∀ x,Hs.map (fun y=>hget (Hn x++yQ kk H) y.1)=Hs.map (fun y=>some y.2))
  (hA1:∀ r x,A1.map (fun p=>zdk ((d,r)::env) p.1)=A1.map (fun p=>jC (Hn x++yQ kk H) p.2)) (hA2:∀ x,A1.all (fun p=>(jC (Hn x++yQ kk H) p.2).isSome)=true)
  (hz:∀ w,(zeroValue e2).run P w=.ok z w) (hzc:z.cells=cs.toArray)
  (hc:∀ w,VI Bs H w->Calls P f vs.toArray w (Ret fun r w'=>∃ x,Φ r x/\Hands H kk (Hn x) w w'))
  (h:∀ r x,Φ r x->VD P n Q ks ops Hs B0 L fuel (listed.setIfInBounds i true) ((d,r)::env) A1 (Hn x++yQ kk H) Bs)
  (h2:∀ b,VD P n Q ks ops Hs B0 L fuel (listed.setIfInBounds i2 true) ((d2,.pointer (some ⟨b,0,none⟩))::env) ((d2,some (k2,0))::A) ((k2,.own b cs e2)::H) Bs):VD P n Q ks ops Hs B0 L (fuel+1) listed env A H Bs:=by
 simp only [Prod.mk.injEq,Option.isNone_iff_eq_none] at hi hn
 subst hB
 obtain⟨hi1,hi2⟩:=hi
 obtain⟨hb1,hb2,hv,hk2,hu0⟩:=hn
 intro hH hA w hI
 refine zlJ i i2 (R:=fun r w'=>∃ x,Φ r x/\Hands H kk (Hn x) w w') (Rj:=fun r w'=>∃ b,r=.pointer (some ⟨b,0,none⟩)/\New w cs e2 b w') hi1 hi2 hr O O hb1 O O hb2 (.inr ⟨f,_,F.call hf (yL hv),hc w hI⟩) (.inl (M.alloc hz hzc)) ?_ ?_
 ·
  rintro r w1 ⟨x,hP,hh⟩
  have hI':=hI.hands hh
  exact⟨fun _=>(hI'.drop j).pick (Has.of (hHs x)) hu0,h r x hP (Has.of (hHs x)) (TgOk.of (hA1 r x) (hA2 x)) w1 hI'⟩
 ·
  rintro _ w1 ⟨b,rfl,hb,hs,hB,hk⟩
  have hI1:VI Bs ((k2,.own b cs e2)::H) w1:=hI.new hk k2 hB trivial (fun _ h=>h) (fun q hq=>by have hq:q=b:=hq;omega)
  have hH1:Has Hs ((k2,.own b cs e2)::H):=hH.new hk2
  refine⟨fun _=>(hI1.drop j).pick hH1 hu0,h2 b hH1 ((hA.new hk2).push fun k' off hg=>?_) w1 hI1⟩
  cases hg
  exact⟨b,0,by simp [qR,hget,Nat.beq_refl],rfl⟩
end
end Go.GL
namespace Go.Proofs.YtckdhgbepmpgiaaGreat
open Go.GL
abbrev FQ:=(Option Addr × Nat) × (Option Addr × Nat) × (Option Addr × Nat) × (Option Addr × Nat)
abbrev zkf (s:St) (y:FQ):Value:=.agg #[.int .i64 s.act,.int .i64 s.cost,.int .i64 s.var,.int .i64 s.n,.int .i64 s.term.op,.int .i64 s.term.n,.slice y.1.1 s.term.kids.length y.1.2,.slice y.2.1.1 s.thn.length y.2.1.2,.slice y.2.2.1.1 s.els.length y.2.2.1.2,.slice y.2.2.2.1 s.bounds.length y.2.2.2.2]
theorem zgi {H:Hp} (l:List St) (v:Value) (D:Nat->Prop) (w:World) (k:Int) (s:St) (hl:SlR 10 RSt D w v l) (h0:0<=k) (hs:(preL l)[k.toNat]?=some s) (hz:ssize l<=10000) :
  Calls Tryz.prog 25 #[v,.int .i64 k] w (Ret fun r w'=>∃ y:FQ,r=.tuple #[zkf s y,.bool true]/\Hands H [] [] w w'):=by
 refine (zhL l v D w k s hl h0 hs hz).mono ?_
 rintro _ w' ⟨_,rfl,⟨a1,c1,a2,c2,a3,c3,a4,c4,rfl,_,_⟩,hk⟩
 exact⟨_,rfl,((a1,c1),(a2,c2),(a3,c3),(a4,c4)),rfl,hk.mono fun q _ h=>h.elim,fun x hx=>(by cases hx),List.Pairwise.nil⟩
theorem jW {f:Fl} {k:Int} (h0:0<=k) (h1:k<((preL f.body).length:Int)):(preL f.body)[k.toNat]?=some (zU f k):=by
 unfold zU
 rw [zoj (show k.toNat<(preL f.body).length by omega)]
 rfl
theorem zjb (f:Fl) (g:List Nd) (hk:GOk f g) (hz:ssize f.body<=10000) (i:Nat) (hi:i<g.length) (v1 v2 v3 gv:Value) (D D':Nat->Prop) (W:World) (hf:RFl D W f v1 v2 v3) (hg:SlR 4 RNd D' W gv g) :
  Calls Tryz.prog 23 #[.agg #[v1,v2,v3],.agg #[gv],.int .i64 i] W (Ret fun r w'=>r=.int .i64 (jp f g i)/\Ext W w'):=by
 obtain⟨ag,cg,rfl⟩:=hg.form
 have hgm:=hg.max
 refine zmw Tryz.func23 O Tryz.ntmps23 O (zmE ?_)
 refine Vs 2 O ?_
 refine V.box 3 O O (fun b3=>?_)
 refine V.box 4 O O (fun b4=>?_)
 refine Vs 9 O ?_
 obtain⟨x,he_x,hm_x⟩:=gE_ g (i) (by omega)
 obtain⟨b_x,o_x,c_x,ha_x,_,hc_x,hR_x⟩:=hg.at he_x
 obtain rfl:=hR_x
 refine zna 1000 0 O O hc_x ?_
 refine zmN 1000 tR34 ts65 O ha_x (by omega) (_) (rfl) O ?_
 have hx:=xd he_x
 refine Vs 5 O ?_
 refine zkG O (fun k2=>?_) (fun k2=>?_)
 ·
  refine Vs 7 O ?_
  refine zkW tr23 O (fun w hI=>⟨_,rfl,by unfold jp zdG;rw [hx,zot (by simp [k2])],hI.k0⟩)
 ·
  have k2:=zos.1 k2
  obtain⟨h0,h1,h2⟩:=hk.at he_x (.inl k2)
  have hdef:jp f g i=if (zU f x.at_).act=0\/(zU f x.at_).act=5 then (zU f x.at_).var else -1:=by
   unfold jp zdG
   rw [hx]
   by_cases e:(zU f x.at_).act=0\/(zU f x.at_).act=5
   . rw [zou e,zou (by simpa [k2] using e)]
   . rw [zot e,zot (by simpa [k2] using e)]
  generalize hse:zU f x.at_=s at *
  refine Vs 3 O ?_
  refine Vw [3,4,1000] [] O ?_
  refine Vd [0,1,2,3,4] 0 (by kernel_rfl) O O O ?_
  refine zmO 5 1000 tR34 ts65 O (by kernel_rfl) O ha_x (by omega) (_) (rfl) O ?_
  refine Vd [6,7] 0 (by kernel_rfl) O O O ?_
  refine znW 8 12 7 0 [] (Hn:=fun y:FQ=>[]) [(3,some (3,0)),(4,some (4,0)),(9,some (4,0)),(12,some (1000,0)),(13,some (1000,0)),(17,some (3,2)),(19,some (4,0)),(22,some (1000,0)),(23,some (1000,1))] Tryz.call25 O (by kernel_rfl) O O (fun _=>rfl) (fun _ _=>rfl) (fun _=>rfl) tz72 O (fun w hI=>zgi f.body v3 D w x.at_ s (Tr1 hI.k0 hf.body) h0 (hse ▸ jW h0 h1) hz) ?_ (fun b7=>?_)
  ·
   rintro _ ⟨⟨a1,c1⟩,⟨a2,c2⟩,⟨a3,c3⟩,⟨a4,c4⟩⟩ rfl
   refine Vd [9,10,11] 0 (by kernel_rfl) O O O ?_
   refine zmK 12 7 0 O (by kernel_rfl) O O (fun _ _=>M.alloc tz72 O) (fun b7=>?_)
   refine Ve 13 0 O (by kernel_rfl) O O O ?_
   refine Vd [14] 0 (by kernel_rfl) O O O ?_
   refine VD.done (by kernel_rfl) ?_
   refine Vs 8 O ?_
   refine V.sp 31 O (fun a0=>?_) (fun a0=>?_)
   ·
    refine Vs 16 O ?_
    refine zkW tr23 O (fun w hI=>⟨_,rfl,by rw [hdef,zou (.inl a0)],hI.k0⟩)
   ·
    refine Vs 6 O ?_
    refine zkG O (fun a5=>?_) (fun a5=>?_)
    ·
     refine Vs 9 O ?_
     refine zkW tr23 O (fun w hI=>⟨_,rfl,by rw [hdef,zou (.inr a5)],hI.k0⟩)
    ·
     refine Vs 8 O ?_
     refine zkW tr23 O (fun w hI=>⟨_,rfl,by rw [hdef,zot (fun h=>h.elim a0 a5)],hI.k0⟩)
  ·
   refine znR 8 0 [] (Hn:=fun y:FQ=>[]) [(3,some (3,0)),(4,some (4,0)),(7,some (7,0)),(9,some (4,0)),(12,some (1000,0)),(13,some (1000,0)),(17,some (3,2)),(19,some (4,0)),(22,some (1000,0)),(23,some (1000,1))] Tryz.call25 O (by kernel_rfl) O O (fun _=>rfl) (fun _ _=>rfl) (fun _=>rfl) (fun w hI=>zgi f.body v3 D w x.at_ s (Tr1 hI.k0 hf.body) h0 (hse ▸ jW h0 h1) hz) ?_
   rintro _ ⟨⟨a1,c1⟩,⟨a2,c2⟩,⟨a3,c3⟩,⟨a4,c4⟩⟩ rfl
   refine Vd [9,10,11] 0 (by kernel_rfl) O O O ?_
   refine Ve 13 0 O (by kernel_rfl) O O O ?_
   refine Vd [14] 0 (by kernel_rfl) O O O ?_
   refine VD.done (by kernel_rfl) ?_
   refine Vs 8 O ?_
   refine V.sp 31 O (fun a0=>?_) (fun a0=>?_)
   ·
    refine Vs 16 O ?_
    refine zkW tr23 O (fun w hI=>⟨_,rfl,by rw [hdef,zou (.inl a0)],hI.k0⟩)
   ·
    refine Vs 6 O ?_
    refine zkG O (fun a5=>?_) (fun a5=>?_)
    ·
     refine Vs 9 O ?_
     refine zkW tr23 O (fun w hI=>⟨_,rfl,by rw [hdef,zou (.inr a5)],hI.k0⟩)
    ·
     refine Vs 8 O ?_
     refine zkW tr23 O (fun w hI=>⟨_,rfl,by rw [hdef,zot (fun h=>h.elim a0 a5)],hI.k0⟩)
theorem verB_nat {f:Fl} {s:Sf} {n:Nat} {v:Int} {b:Bool}:zaa f s (n:Int) v b ↔ s.of_[n]?=some v/\(b=true->f.vars.length<=n):=by
 unfold zaa
 rw [zoF]
 constructor
 . exact fun h=>⟨h.2.1,fun hb=>by have:=h.2.2 hb;omega⟩
 . exact fun h=>⟨by omega,h.1,fun hb=>by have:=h.2 hb;omega⟩
theorem zhM {f:Fl} {s:Sf} {k v:Int} {b:Bool} (h:¬ 0<=k):¬ zaa f s k v b:=fun h2=>h h2.1
abbrev chk (gb:Nat) (ofv nv bv dv:Value):List Value:=[.pointer (some ⟨gb,0,none⟩),ofv,nv,bv,dv]
theorem zek (f:Fl) (s:Sf) (k v:Int) (b gb:Nat) (ofv nv bv dv:Value) (D:Nat->Prop) (W:World) (hc:Cells W b 0 (chk gb ofv nv bv dv)) (hof:SlR 1 yj D W ofv s.of_) :
  Calls Tryz.prog 82 #[.pointer (some ⟨b,0,none⟩),.int .i64 k,.int .i64 v] W (Ret fun r w'=>r=.bool (decide (zaa f s k v false))/\Ext W w'):=by
 obtain⟨ao,co,rfl⟩:=hof.form
 have hmx:=hof.max
 refine zmw Tryz.func82 O Tryz.ntmps82 O (zmE ?_)
 refine znb 900 0 O O (fun h=>h) hc ?_
 refine zmL 0 900 0 O O ?_
 refine Vs 10 O ?_
 refine V.sp 9 O (fun g0=>?_) (fun g0=>?_)
 ·
  obtain⟨n,rfl⟩:=Int.eq_ofNat_of_zero_le g0
  refine Vs 10 O ?_
  refine V.sp 19 O (fun g1=>?_) (fun g1=>?_)
  ·
   refine Vs 6 O ?_
   obtain⟨x,he_x,hm_x⟩:=gE_ s.of_ (n) (by omega)
   obtain⟨b_x,o_x,c_x,ha_x,_,hc_x,hR_x⟩:=hof.at he_x
   obtain rfl:=hR_x
   refine zna 1000 0 O O hc_x ?_
   refine zmN 1000 tR27 ts3 O ha_x (by omega) (_) (rfl) O ?_
   refine Vs 8 O ?_
   refine zkW Tryz.results82 O (fun w hI=>⟨_,rfl,by rw [zoL.2 (show zaa f s (n:Int) v false ↔ x=v by rw [verB_nat,he_x];simp)],hI.k0⟩)
  ·
   refine Vs 15 O ?_
   refine zkW Tryz.results82 O (fun w hI=>⟨_,rfl,by rw [zow (fun h=>g1 (by have:=(zox.1 (verB_nat.1 h).1).1;omega))],hI.k0⟩)
 ·
  refine Vs 25 O ?_
  refine zkW Tryz.results82 O (fun w hI=>⟨_,rfl,by rw [zow (zhM g0)],hI.k0⟩)
theorem zb3 (f:Fl) (g:List Nd) (s:Sf) (k v:Int) (b gb:Nat) (ofv nv bv dv:Value) (D D':Nat->Prop) (W:World) (hc:Cells W b 0 (chk gb ofv nv bv dv)) (hof:SlR 1 yj D W ofv s.of_) (hG:GrO D' W f g gb) :
  Calls Tryz.prog 80 #[.pointer (some ⟨b,0,none⟩),.int .i64 k,.int .i64 v] W (Ret fun r w'=>r=.bool (decide (zaa f s k v true))/\Ext W w'):=by
 obtain⟨v1,v2,v3,gv,sv,pv,hD,hcell,hf,hg,hs,hp⟩:=hG
 obtain⟨a1,c1,rfl⟩:=hf.vars.form
 obtain⟨ao,co,rfl⟩:=hof.form
 refine zmw Tryz.func80 O Tryz.ntmps80 O (zmE ?_)
 refine znb 900 0 O O (fun h=>h) hc ?_
 refine znb 901 0 O O (fun h=>h) hcell ?_
 refine zmL 0 900 0 O O ?_
 refine Vs 12 O ?_
 refine zmL 11 901 0 O O ?_
 refine Vs 7 O ?_
 refine V.sp 18 O (fun g0=>?_) (fun g0=>?_)
 ·
  refine Vs 3 O ?_
  refine zmZ Tryz.call82 O (fun w hI=>zek f s k v b gb _ _ _ _ D w (Tr1 hI.k0 hc) (Tr1 hI.k0 hof)) ?_
  refine Vs 5 O ?_
  refine zkW Tryz.results80 O (fun w hI=>⟨_,rfl,by rw [zoL.2 (show zaa f s k v true ↔ zaa f s k v false by unfold zaa;simp;omega)],hI.k0⟩)
 ·
  refine Vs 9 O ?_
  refine zkW Tryz.results80 O (fun w hI=>⟨_,rfl,by rw [zow (fun h=>g0 (by have:=h.2.2 rfl;omega))],hI.k0⟩)
def VOk (f:Fl) (j:Nat) (v:Int):Prop:=(j<f.vars.length->v=(j:Int))/\(f.vars.length<=j->0<=v/\∃ x,f.vars[v.toNat]?=some x/\x.kind=0)
theorem ofF_iff {f:Fl} {s:Sf}:OfF f s ↔ f.vars.length<=s.of_.length/\∀ (j:Nat) v,s.of_[j]?=some v->VOk f j v :=
 ⟨fun h=>⟨h.len,fun j v hv=>⟨fun hj=>h.ini j v hv hj,fun hj=>h.new j v hv hj⟩⟩,fun h=>⟨h.1,fun j v hv hj=>(h.2 j v hv).1 hj,fun j v hv hj=>(h.2 j v hv).2 hj⟩⟩
theorem xe {α:Type} {l:List α} {P:Nat->α->Prop} {i:Nat} {x:α} (h:∀ (j:Nat) y,j<i->l[j]?=some y->P j y) (hx:l[i]?=some x) (hp:P i x):∀ (j:Nat) y,j<i+1->l[j]?=some y->P j y:=fun j y hj hy=>by
 by_cases e:j=i
 . subst e;rw [hx] at hy;cases hy;exact hp
 . exact h j y (by omega) hy
theorem jX {α:Type} {l:List α} {P:Nat->α->Prop} (h:∀ (j:Nat) y,j<l.length->l[j]?=some y->P j y):∀ (j:Nat) y,l[j]?=some y->P j y:=fun j y hy=>h j y (zox.1 hy).1 hy
theorem zd0 (f:Fl) (g:List Nd) (s:Sf) (b gb:Nat) (ofv nv bv dv:Value) (D D':Nat->Prop) (W:World) (hc:Cells W b 0 (chk gb ofv nv bv dv)) (hof:SlR 1 yj D W ofv s.of_) (hG:GrO D' W f g gb) :
  Calls Tryz.prog 38 #[.pointer (some ⟨b,0,none⟩)] W (Ret fun r w'=>(∃ q:Bool,r=.bool q/\(q=true ↔ OfF f s))/\Ext W w'):=by
 obtain⟨v1,v2,v3,gv,sv,pv,hD,hcell,hf,hg,hs,hp⟩:=hG
 have hfv:=hf.vars
 obtain⟨a1,c1,rfl⟩:=hfv.form
 obtain⟨ao,co,rfl⟩:=hof.form
 have hmx:=hof.max
 have hno:∀ (j:Nat) v,s.of_[j]?=some v->¬ VOk f j v->((false:Bool)=true ↔ OfF f s):=fun j v hv hn=>⟨fun h=>(by cases h),fun h=>absurd ((ofF_iff.1 h).2 j v hv) hn⟩
 refine zmu Tryz.func38 O Tryz.ntmps38 O (zmE ?_)
 refine znb 900 0 O O (fun h=>h) hc ?_
 refine znb 901 0 O O (fun h=>h) hcell ?_
 refine zmL 0 900 0 O O ?_
 refine Vs 11 O ?_
 refine zmL 9 901 0 O O ?_
 refine Vs 21 O ?_
 refine zkG O (fun l0=>?_) (fun l0=>?_)
 ·
  refine Vs 7 O ?_
  refine zkW tr38 O (fun w hI=>⟨_,rfl,⟨_,rfl,⟨fun h=>(by cases h),fun h=>absurd h.len (by omega)⟩⟩,hI.k0⟩)
 ·
  refine Vs 15 O ?_
  refine znd (σ:=Nat) [0,3,27,28] [900,901] [0] O (fun e i=>(29,.int .i64 i)::e) (fun e i=>e) (fun i=>i<=s.of_.length/\∀ (j:Nat) v,j<i->s.of_[j]?=some v->VOk f j v) (fun i=>s.of_.length - i) (0) (Sub.of O) (Has.of O) (fun _=>rfl) (fun _=>rfl) (fun _=>rfl) (⟨zoy _,fun j v h=>absurd h (Nat.not_lt_zero _)⟩) ?_
  rintro i ⟨hi,hall⟩
  refine Vs 6 O ?_
  refine zkG O (fun lt=>?_) (fun lt=>?_)
  ·
   refine Vs 7 O ?_
   obtain⟨v,he_v,hm_v⟩:=gE_ s.of_ (i) (by omega)
   obtain⟨b_v,o_v,c_v,ha_v,_,hc_v,hR_v⟩:=hof.at he_v
   obtain rfl:=hR_v
   refine zna 1000 0 O O hc_v ?_
   refine zmN 1000 tR27 ts3 O ha_v (by omega) (_) (rfl) O ?_
   refine Vs 12 O ?_
   refine V.sp 37 O (fun a1=>?_) (fun a1=>?_)
   ·
    refine Vs 6 O ?_
    refine zkG O (fun a2=>?_) (fun a2=>?_)
    ·
     refine Vs 12 O ?_
     refine zkW tr38 O (fun w hI=>⟨_,rfl,⟨_,rfl,hno i v he_v fun h=>a2 (h.1 (by omega))⟩,hI.k0⟩)
    ·
     have hnx:=xe hall he_v ⟨fun _=>zos.1 a2,fun h=>by omega⟩
     refine Vs 8 O ?_
     refine V.sp 45 O (fun b1=>?_) (fun b1=>?_)
     . omega
     ·
      refine Va 33 O (by omega) ?_
      refine V.back (i+1) (Sub.of O) (Has.of O) (⟨by omega,hnx⟩) (by first | omega | (dsimp only;omega)) 0 O O
   ·
    refine Vs 15 O ?_
    refine V.sp 45 O (fun b1=>?_) (fun b1=>?_)
    ·
     refine Vs 3 O ?_
     refine V.sp 48 O (fun b2=>?_) (fun b2=>?_)
     ·
      refine Vs 34 O ?_
      refine zkW tr38 O (fun w hI=>⟨_,rfl,⟨_,rfl,hno i v he_v fun h=>by have:=(h.2 (by omega)).1;omega⟩,hI.k0⟩)
     ·
      obtain⟨m,rfl⟩:=Int.eq_ofNat_of_zero_le (show 0<=v by omega)
      refine Vs 5 O ?_
      refine V.sp 53 O (fun b3=>?_) (fun b3=>?_)
      ·
       refine Vs 29 O ?_
       have hb:¬ VOk f i (m:Int):=fun h=>by
        obtain⟨_,x,hx,_⟩:=h.2 (by omega)
        have:=(zox.1 hx).1
        omega
       refine zkW tr38 O (fun w hI=>⟨_,rfl,⟨_,rfl,hno i m he_v hb⟩,hI.k0⟩)
      ·
       refine Vs 4 O ?_
       refine zmL 57 901 0 O O ?_
       refine Vs 5 O ?_
       obtain⟨vr,he_vr,hm_vr⟩:=gE_ f.vars (m) (by omega)
       obtain⟨b_vr,o_vr,c_vr,ha_vr,_,hc_vr,hR_vr⟩:=hfv.at he_vr
       obtain rfl:=hR_vr
       refine zna 2000 0 O O hc_vr ?_
       refine zmN 2000 tR22 ts142 O ha_vr (by omega) (_) (rfl) O ?_
       refine Vs 7 O ?_
       refine zkG O (fun b4=>?_) (fun b4=>?_)
       ·
        have hb:¬ VOk f i (m:Int):=fun h=>by
         obtain⟨_,x,hx,h0⟩:=h.2 (by omega)
         rw [zoF,he_vr] at hx
         cases hx
         exact b4 h0
        refine Vs 11 O ?_
        refine zkW tr38 O (fun w hI=>⟨_,rfl,⟨_,rfl,hno i m he_v hb⟩,hI.k0⟩)
       ·
        have hnx:=xe hall he_v ⟨fun h=>by omega,fun _=>⟨by omega,vr,he_vr,zos.1 b4⟩⟩
        refine Va 7 O (by omega) ?_
        refine V.back (i+1) (Sub.of O) (Has.of O) (⟨by omega,hnx⟩) (by first | omega | (dsimp only;omega)) 0 O O
    . omega
  ·
   obtain rfl:i=s.of_.length:=by omega
   refine Vs 11 O ?_
   refine zkW tr38 O (fun w hI=>⟨_,rfl,⟨_,rfl,⟨fun _=>ofF_iff.2 ⟨by omega,jX hall⟩,fun _=>rfl⟩⟩,hI.k0⟩)
structure PhOne (f:Fl) (g:List Nd) (s:Sf) (n:Nat) (p:Phn):Prop where
 ver:zaa f s p.ver p.var true
 frm:p.frm=zca g n
 len:p.args.length=p.frm.length
 args:∀ a ∈ p.args,zaa f s a p.var false
structure PhTo (f:Fl) (g:List Nd) (s:Sf) (n:Nat) (l:List Phn) (i:Nat):Prop where
 asc:(l.take i).Pairwise fun p q=>p.var<q.var
 one:∀ p ∈ l.take i,PhOne f g s n p
theorem znz {f:Fl} {g:List Nd} {s:Sf} {n:Nat} {l:List Phn}:PhTo f g s n l 0:=⟨List.Pairwise.nil,fun p h=>by cases h⟩
theorem PhTo.next {f:Fl} {g:List Nd} {s:Sf} {n:Nat} {l:List Phn} {i:Nat} {p:Phn} (h:PhTo f g s n l i) (hp:l[i]?=some p) (hv:0<i->∃ q,l[i - 1]?=some q/\q.var<p.var) (h1:PhOne f g s n p):PhTo f g s n l (i+1):=by
 refine⟨?_,fun q hq=>?_⟩
 ·
  rw [zd hp]
  refine List.pairwise_append.2 ⟨h.asc,List.pairwise_singleton _ _,fun x hx y hy=>?_⟩
  rw [zoB] at hy
  subst hy
  obtain⟨k,hk⟩:=List.mem_iff_getElem?.1 hx
  have hkl:=(zox.1 hk).1
  rw [zoN] at hkl
  obtain⟨q,hq,hqp⟩:=hv (by omega)
  by_cases e:k=i - 1
  ·
   subst e
   rw [List.getElem?_take_of_lt (by omega),hq] at hk
   cases hk
   exact hqp
  ·
   have hq2:(l.take i)[i - 1]?=some q:=by rw [List.getElem?_take_of_lt (by omega)];exact hq
   have:=List.pairwise_iff_getElem.1 h.asc k (i - 1) (by rw [zoN];omega) (by have:=(zox.1 hq2).1;exact this) (by omega)
   rw [(zox.1 hk).2,(zox.1 hq2).2] at this
   omega
 ·
  rw [zd hp,zoC,zoB] at hq
  rcases hq with hq | rfl
  . exact h.one q hq
  . exact h1
theorem PhTo.done {f:Fl} {g:List Nd} {s:Sf} {n:Nat} {l:List Phn} (h:PhTo f g s n l l.length) (h0:n=0->l=[]):PhiF f g s n l:=by
 have ha:=h.asc
 have ho:=h.one
 rw [zoo] at ha ho
 exact⟨h0,ha,fun p hp=>(ho p hp).ver,fun p hp=>(ho p hp).frm,fun p hp=>(ho p hp).len,fun p hp=>(ho p hp).args⟩
theorem PhiF.bad {f:Fl} {g:List Nd} {s:Sf} {n:Nat} {l:List Phn} {p:Phn} (h:PhiF f g s n l) (hp:p ∈ l):PhOne f g s n p:=⟨h.ver p hp,h.frm p hp,h.len p hp,h.args p hp⟩
theorem zhN (f:Fl) (g:List Nd) (s:Sf) (n:Nat) (hn:n<g.length) (l:List Phn) (b gb:Nat) (lv ofv nv bv dv:Value) (D D' Dl:Nat->Prop) (W:World) (hc:Cells W b 0 (chk gb ofv nv bv dv)) (hof:SlR 1 yj D W ofv s.of_) (hG:GrO D' W f g gb) (hl:SlR 4 zhI Dl W lv l) :
  Calls Tryz.prog 78 #[.pointer (some ⟨b,0,none⟩),.int .i64 n,lv] W (Ret fun r w'=>(∃ q:Bool,r=.bool q/\(q=true ↔ PhiF f g s n l))/\Ext W w'):=by
 have hG0:=hG
 obtain⟨v1,v2,v3,gv,sv,pv,hD,hcell,hf,hg,hs,hpr⟩:=hG0
 obtain⟨apr,cpr,rfl⟩:=hpr.form
 obtain⟨al,cl,rfl⟩:=hl.form
 have hprl:(zdI g).length=g.length:=by simp [zdI]
 have hprm:=hpr.max
 have hlm:=hl.max
 have hofm:=hof.max
 have hno:∀ p ∈ l,¬ PhOne f g s n p->((false:Bool)=true ↔ PhiF f g s n l):=fun p hp hb=>⟨fun h=>(by cases h),fun h=>absurd (h.bad hp) hb⟩
 refine zmw Tryz.func78 O Tryz.ntmps78 O (zmE ?_)
 refine znb 900 0 O O (fun h=>h) hc ?_
 refine znb 901 0 O O (fun h=>h) hcell ?_
 refine zmL 0 900 0 O O ?_
 refine Vs 6 O ?_
 refine zne (σ:=Unit) [0,1,2] [900,901] [0] O (fun e u=>e) (fun e u=>e) (fun u=>n=0->l=[]) (fun _=>rfl) (fun _=>rfl) ?_ ?_
 ·
  refine Vs 5 O ?_
  refine V.sp 13 O (fun z1=>?_) (fun z1=>?_)
  ·
   refine Vs 6 O ?_
   refine zkG O (fun z2=>?_) (fun z2=>?_)
   ·
    refine Vs 8 O ?_
    refine zkW tr78 O (fun w hI=>⟨_,rfl,⟨_,rfl,⟨fun h=>(by cases h),fun h=>absurd (h.zero (by omega)) (fun e=>by rw [e] at z2;simp at z2)⟩⟩,hI.k0⟩)
   ·
    refine Vs 1 O ?_
    refine zkT (()) (Sub.of O) (Has.of O) (fun _=>List.length_eq_zero_iff.1 (by omega)) 0 O O
  ·
   refine Vs 8 O ?_
   refine zkT (()) (Sub.of O) (Has.of O) (fun e=>absurd (by rw [e];rfl) z1) 0 O O
 rintro u h0
 refine Vs 10 O ?_
 refine znd (σ:=Nat) [0,1,2,18,19] [900,901] [0] O (fun e i=>(20,.int .i64 i)::e) (fun e i=>e) (fun i=>i<=l.length/\PhTo f g s n l i) (fun i=>l.length - i) (0) (Sub.of O) (Has.of O) (fun _=>rfl) (fun _=>rfl) (fun _=>rfl) (⟨zoy _,znz⟩) ?_
 rintro i ⟨hi,hin⟩
 refine Vs 6 O ?_
 refine zkG O (fun lt=>?_) (fun lt=>?_)
 ·
  refine Vs 7 O ?_
  obtain⟨p,he_p,hm_p⟩:=gE_ l (i) (by omega)
  obtain⟨b_p,o_p,c_p,ha_p,_,hc_p,hR_p⟩:=hl.at he_p
  obtain⟨v1_p,v2_p,rfl,hf_p,hg_p⟩:=hR_p
  obtain⟨a1_p,n1_p,rfl⟩:=hf_p.form
  obtain⟨a2_p,n2_p,rfl⟩:=hg_p.form
  refine zna 1000 0 O O hc_p ?_
  refine zmN 1000 tR56 ts88 O ha_p (by omega) (_) (rfl) O ?_
  have hgpm:=hg_p.max
  have hfpm:=hf_p.max
  obtain⟨pr,he_pr,hm_pr⟩:=gE_ (zdI g) (n) (by omega)
  obtain⟨b_pr,o_pr,c_pr,ha_pr,_,hc_pr,hR_pr⟩:=hpr.at he_pr
  obtain⟨v1_pr,rfl,hs_pr⟩:=hR_pr
  obtain⟨a1_pr,n1_pr,rfl⟩:=hs_pr.form
  refine zna 2000 0 O O hc_pr ?_
  have hprd:pr=zca g n:=by rw [zei hn] at he_pr;exact (Option.some.inj he_pr).symm
  refine Vs 1 O ?_
  refine V.alloc 8 tz88 O O (fun b8=>?_)
  refine Vs 6 O ?_
  refine zmF (p:=0<i) (fun ci=>?_) (fun ci=>?_)
  ·
   obtain⟨q,he_q,hm_q⟩:=gE_ l ((i-1)) (by omega)
   obtain⟨b_q,o_q,c_q,ha_q,_,hc_q,hR_q⟩:=hl.at he_q
   obtain⟨v1_q,v2_q,rfl,hf_q,hg_q⟩:=hR_q
   obtain⟨a1_q,n1_q,rfl⟩:=hf_q.form
   obtain⟨a2_q,n2_q,rfl⟩:=hg_q.form
   refine zna 3000 0 O O hc_q ?_
   refine Vw [900,901,1000,2000,8,3000] [] O ?_
   refine Vd [0,1,2] 0 (by kernel_rfl) O O O ?_
   refine VD.sp 27 O (fun c1=>?_) (fun c1=>?_)
   ·
    refine Vb [3,4,5,6,7] 0 (by kernel_rfl) O O O (by omega) ?_
    refine zmO 8 3000 tR56 ts88 O (by kernel_rfl) O ha_q (by omega) (i - 1) (by omega) O ?_
    refine Vd [9,10,11,12,13] 0 (by kernel_rfl) O O O ?_
    refine VD.sp 38 O (fun c2=>?_) (fun c2=>?_)
    ·
     have hbad:¬ PhiF f g s n l:=fun h=>by
      have:=List.pairwise_iff_getElem.1 h.asc (i - 1) i (zox.1 he_q).1 (zox.1 he_p).1 (by omega)
      rw [(zox.1 he_q).2,(zox.1 he_p).2] at this
      omega
     refine Vd [14,15,16,17,18] 0 (by kernel_rfl) O O O ?_
     refine VD.skip 19 0 O (by kernel_rfl) O O ?_
     refine Vd [20,21,22,23,24,25,26,27,28,29,30,31,32,33,34] 0 (by kernel_rfl) O O O ?_
     refine VD.skip 35 0 O (by kernel_rfl) O O ?_
     refine Vd [36,37,38,39,40,41,42,43,44,45,46] 0 (by kernel_rfl) O O O ?_
     refine VD.done (by kernel_rfl) ?_
     refine Vs 14 O ?_
     refine zkW tr78 O (fun w hI=>⟨_,rfl,⟨_,rfl,⟨fun h=>(by cases h),fun h=>absurd h hbad⟩⟩,hI.k0⟩)
    ·
     have hlt:0<i->∃ q,l[i - 1]?=some q/\q.var<p.var:=fun _=>⟨q,he_q,by omega⟩
     refine Vd [14,15,16,17,18] 0 (by kernel_rfl) O O O ?_
     refine zn0 19 0 Tryz.call80 O (by kernel_rfl) O O (fun w hI=>zb3 f g s p.ver p.var b gb _ _ _ _ D D' w (Tr1 hI.k0 hc) (Tr1 hI.k0 hof) (Tr1 hI.k0 hG)) ?_
     refine zmm 20 0 O (by kernel_rfl) O O (fun w hI=>zlV O za) ?_
     refine Vd [21,22] 0 (by kernel_rfl) O O O ?_
     refine VD.sp 47 O (fun c3=>?_) (fun c3=>?_)
     ·
      refine Vd [23,24,25,26,27,28,29,30,31,32,33,34] 0 (by kernel_rfl) O O O ?_
      refine VD.skip 35 0 O (by kernel_rfl) O O ?_
      refine Vd [36,37,38,39,40,41,42,43,44,45,46] 0 (by kernel_rfl) O O O ?_
      refine VD.done (by kernel_rfl) ?_
      refine Vs 14 O ?_
      refine zkW tr78 O (fun w hI=>⟨_,rfl,⟨_,rfl,hno p hm_p fun h=>c3 h.ver⟩,hI.k0⟩)
     ·
      have c3:=zos.1 c3
      refine Vd [23,24,25,26,27,28] 0 (by kernel_rfl) O O O ?_
      refine zmM 53 901 0 O O ?_
      refine Vd [29,30,31,32] 0 (by kernel_rfl) O O O ?_
      refine zmO 33 2000 tR89 ts27 O (by kernel_rfl) O ha_pr (by omega) (n) (by omega) O ?_
      refine Vd [34] 0 (by kernel_rfl) O O O ?_
      refine zn0 35 0 Tryz.call69 O (by kernel_rfl) O O (fun w hI=>zej p.frm pr _ _ _ _ w (Tr1 hI.k0 hf_p) (Tr1 hI.k0 hs_pr)) ?_
      refine zmm 36 0 O (by kernel_rfl) O O (fun w hI=>zlV O za) ?_
      refine Vd [37,38] 0 (by kernel_rfl) O O O ?_
      refine VD.sp 63 O (fun c4=>?_) (fun c4=>?_)
      ·
       refine Vd [39,40,41,42,43,44,45,46] 0 (by kernel_rfl) O O O ?_
       refine VD.done (by kernel_rfl) ?_
       refine Vs 14 O ?_
       refine zkW tr78 O (fun w hI=>⟨_,rfl,⟨_,rfl,hno p hm_p fun h=>c4 (by rw [hprd];exact h.frm)⟩,hI.k0⟩)
      ·
       have c4:=zos.1 c4
       refine Vd [39,40,41,42,43,44,45,46] 0 (by kernel_rfl) O O O ?_
       refine VD.done (by kernel_rfl) ?_
       refine Vs 1 O ?_
       refine zkG O (fun c5=>?_) (fun c5=>?_)
       ·
        refine Vs 12 O ?_
        refine zkW tr78 O (fun w hI=>⟨_,rfl,⟨_,rfl,hno p hm_p fun h=>c5 (by have:=h.len;omega)⟩,hI.k0⟩)
       ·
        refine Vs 11 O ?_
        refine znd (σ:=Nat) [0,1,2,8,18,19,20,73,74] [8,900,901] [0,8] O (fun e j=>(75,.int .i64 j)::e) (fun e j=>e) (fun j=>j<=p.args.length/\∀ (q:Nat) a,q<j->p.args[q]?=some a->zaa f s a p.var false) (fun j=>p.args.length - j) (0) (Sub.of O) (Has.of O) (fun _=>rfl) (fun _=>rfl) (fun _=>rfl) (⟨zoy _,fun q a h=>absurd h (Nat.not_lt_zero _)⟩) ?_
        rintro j ⟨hj,hall⟩
        refine Vs 6 O ?_
        refine zkG O (fun lj=>?_) (fun lj=>?_)
        ·
         refine Vs 6 O ?_
         obtain⟨a,he_a,hm_a⟩:=gE_ p.args (j) (by omega)
         obtain⟨b_a,o_a,c_a,ha_a,_,hc_a,hR_a⟩:=hg_p.at he_a
         obtain rfl:=hR_a
         refine zna 4000 0 O O hc_a ?_
         refine zmN 4000 tR27 ts3 O ha_a (by omega) (_) (rfl) O ?_
         refine Vs 10 O ?_
         refine zmZ Tryz.call82 O (fun w hI=>zek f s a p.var b gb _ _ _ _ D w (Tr1 hI.k0 hc) (Tr1 hI.k0 hof)) ?_
         refine zml O (fun w hI=>zlV O (by first | exact za | rfl)) ?_
         refine Vs 2 O ?_
         refine zkG O (fun c6=>?_) (fun c6=>?_)
         ·
          refine Vs 15 O ?_
          refine zkW tr78 O (fun w hI=>⟨_,rfl,⟨_,rfl,hno p hm_p fun h=>c6 (h.args a hm_a)⟩,hI.k0⟩)
         ·
          have hnx:=xe hall he_a (zos.1 c6)
          refine Va 7 O (by omega) ?_
          refine V.back (j+1) (Sub.of O) (Has.of O) (⟨by omega,hnx⟩) (by first | omega | (dsimp only;omega)) 0 O O
        ·
         obtain rfl:j=p.args.length:=by omega
         have h1:PhOne f g s n p:=⟨c3,by rw [c4,hprd],by omega,fun a ha=>by obtain⟨q,hq⟩:=List.mem_iff_getElem?.1 ha;exact jX hall q a hq⟩
         have hnx:=hin.next he_p hlt h1
         refine Va 10 O (by omega) ?_
         refine V.back (i+1) (Sub.of O) (Has.of O) (⟨by omega,hnx⟩) (by first | omega | (dsimp only;omega)) 0 O O
   . omega
  ·
   refine Vw [900,901,1000,2000,8] [] O ?_
   refine Vd [0,1,2] 0 (by kernel_rfl) O O O ?_
   refine VD.sp 27 O (fun c1=>?_) (fun c1=>?_)
   . omega
   ·
    have hlt:0<i->∃ q,l[i - 1]?=some q/\q.var<p.var:=fun h=>by omega
    refine Vd [3,4,5,6,7,8,9,10,11,12,13,14,15,16,17,18] 0 (by kernel_rfl) O O O ?_
    refine zn0 19 0 Tryz.call80 O (by kernel_rfl) O O (fun w hI=>zb3 f g s p.ver p.var b gb _ _ _ _ D D' w (Tr1 hI.k0 hc) (Tr1 hI.k0 hof) (Tr1 hI.k0 hG)) ?_
    refine zmm 20 0 O (by kernel_rfl) O O (fun w hI=>zlV O za) ?_
    refine Vd [21,22] 0 (by kernel_rfl) O O O ?_
    refine VD.sp 47 O (fun c3=>?_) (fun c3=>?_)
    ·
     refine Vd [23,24,25,26,27,28,29,30,31,32,33,34] 0 (by kernel_rfl) O O O ?_
     refine VD.skip 35 0 O (by kernel_rfl) O O ?_
     refine Vd [36,37,38,39,40,41,42,43,44,45,46] 0 (by kernel_rfl) O O O ?_
     refine VD.done (by kernel_rfl) ?_
     refine Vs 14 O ?_
     refine zkW tr78 O (fun w hI=>⟨_,rfl,⟨_,rfl,hno p hm_p fun h=>c3 h.ver⟩,hI.k0⟩)
    ·
     have c3:=zos.1 c3
     refine Vd [23,24,25,26,27,28] 0 (by kernel_rfl) O O O ?_
     refine zmM 53 901 0 O O ?_
     refine Vd [29,30,31,32] 0 (by kernel_rfl) O O O ?_
     refine zmO 33 2000 tR89 ts27 O (by kernel_rfl) O ha_pr (by omega) (n) (by omega) O ?_
     refine Vd [34] 0 (by kernel_rfl) O O O ?_
     refine zn0 35 0 Tryz.call69 O (by kernel_rfl) O O (fun w hI=>zej p.frm pr _ _ _ _ w (Tr1 hI.k0 hf_p) (Tr1 hI.k0 hs_pr)) ?_
     refine zmm 36 0 O (by kernel_rfl) O O (fun w hI=>zlV O za) ?_
     refine Vd [37,38] 0 (by kernel_rfl) O O O ?_
     refine VD.sp 63 O (fun c4=>?_) (fun c4=>?_)
     ·
      refine Vd [39,40,41,42,43,44,45,46] 0 (by kernel_rfl) O O O ?_
      refine VD.done (by kernel_rfl) ?_
      refine Vs 14 O ?_
      refine zkW tr78 O (fun w hI=>⟨_,rfl,⟨_,rfl,hno p hm_p fun h=>c4 (by rw [hprd];exact h.frm)⟩,hI.k0⟩)
     ·
      have c4:=zos.1 c4
      refine Vd [39,40,41,42,43,44,45,46] 0 (by kernel_rfl) O O O ?_
      refine VD.done (by kernel_rfl) ?_
      refine Vs 1 O ?_
      refine zkG O (fun c5=>?_) (fun c5=>?_)
      ·
       refine Vs 12 O ?_
       refine zkW tr78 O (fun w hI=>⟨_,rfl,⟨_,rfl,hno p hm_p fun h=>c5 (by have:=h.len;omega)⟩,hI.k0⟩)
      ·
       refine Vs 11 O ?_
       refine znd (σ:=Nat) [0,1,2,8,18,19,20,73,74] [8,900,901] [0,8] O (fun e j=>(75,.int .i64 j)::e) (fun e j=>e) (fun j=>j<=p.args.length/\∀ (q:Nat) a,q<j->p.args[q]?=some a->zaa f s a p.var false) (fun j=>p.args.length - j) (0) (Sub.of O) (Has.of O) (fun _=>rfl) (fun _=>rfl) (fun _=>rfl) (⟨zoy _,fun q a h=>absurd h (Nat.not_lt_zero _)⟩) ?_
       rintro j ⟨hj,hall⟩
       refine Vs 6 O ?_
       refine zkG O (fun lj=>?_) (fun lj=>?_)
       ·
        refine Vs 6 O ?_
        obtain⟨a,he_a,hm_a⟩:=gE_ p.args (j) (by omega)
        obtain⟨b_a,o_a,c_a,ha_a,_,hc_a,hR_a⟩:=hg_p.at he_a
        obtain rfl:=hR_a
        refine zna 5000 0 O O hc_a ?_
        refine zmN 5000 tR27 ts3 O ha_a (by omega) (_) (rfl) O ?_
        refine Vs 10 O ?_
        refine zmZ Tryz.call82 O (fun w hI=>zek f s a p.var b gb _ _ _ _ D w (Tr1 hI.k0 hc) (Tr1 hI.k0 hof)) ?_
        refine zml O (fun w hI=>zlV O (by first | exact za | rfl)) ?_
        refine Vs 2 O ?_
        refine zkG O (fun c6=>?_) (fun c6=>?_)
        ·
         refine Vs 15 O ?_
         refine zkW tr78 O (fun w hI=>⟨_,rfl,⟨_,rfl,hno p hm_p fun h=>c6 (h.args a hm_a)⟩,hI.k0⟩)
        ·
         have hnx:=xe hall he_a (zos.1 c6)
         refine Va 7 O (by omega) ?_
         refine V.back (j+1) (Sub.of O) (Has.of O) (⟨by omega,hnx⟩) (by first | omega | (dsimp only;omega)) 0 O O
       ·
        obtain rfl:j=p.args.length:=by omega
        have h1:PhOne f g s n p:=⟨c3,by rw [c4,hprd],by omega,fun a ha=>by obtain⟨q,hq⟩:=List.mem_iff_getElem?.1 ha;exact jX hall q a hq⟩
        have hnx:=hin.next he_p hlt h1
        refine Va 10 O (by omega) ?_
        refine V.back (i+1) (Sub.of O) (Has.of O) (⟨by omega,hnx⟩) (by first | omega | (dsimp only;omega)) 0 O O
 ·
  obtain rfl:i=l.length:=by omega
  have hdone:=hin.done h0
  refine Vs 11 O ?_
  refine zkW tr78 O (fun w hI=>⟨_,rfl,⟨_,rfl,⟨fun _=>hdone,fun _=>rfl⟩⟩,hI.k0⟩)
theorem zeU (f:Fl) (g:List Nd) (s:Sf) (hk:GOk f g) (hlen:s.nodes.length=g.length) (b gb:Nat) (ofv nv bv dv:Value) (D D':Nat->Prop) (W:World) (hc:Cells W b 0 (chk gb ofv nv bv dv)) (hS:RSf D W s ofv nv) (hG:GrO D' W f g gb) :
  Calls Tryz.prog 39 #[.pointer (some ⟨b,0,none⟩)] W (Ret fun r w'=>(∃ q:Bool,r=.bool q/\(q=true ↔ ∀ (n:Nat) x,s.nodes[n]?=some x->NodF f g s (rdV f g) n x))/\Ext W w'):=by
 have hof:=hS.of_
 have hnd:=hS.nodes
 have hnm:=hnd.max
 obtain⟨an,cn,rfl⟩:=hnd.form
 have hno:∀ (n:Nat) x,s.nodes[n]?=some x->¬ NodF f g s (rdV f g) n x->((false:Bool)=true ↔ ∀ (n:Nat) x,s.nodes[n]?=some x->NodF f g s (rdV f g) n x):=fun n x hx hb=>⟨fun h=>(by cases h),fun h=>absurd (h n x hx) hb⟩
 refine zmu Tryz.func39 O Tryz.ntmps39 O (zmE ?_)
 refine znb 900 0 O O (fun h=>h) hc ?_
 refine zmL 0 900 0 O O ?_
 refine Vs 18 O ?_
 refine znd (σ:=Nat) [0,13,14] [900] [0] O (fun e n=>(15,.int .i64 n)::e) (fun e n=>e) (fun n=>n<=s.nodes.length/\∀ (j:Nat) x,j<n->s.nodes[j]?=some x->NodF f g s (rdV f g) j x) (fun n=>s.nodes.length - n) (0) (Sub.of O) (Has.of O) (fun _=>rfl) (fun _=>rfl) (fun _=>rfl) (⟨zoy _,fun j x h=>absurd h (Nat.not_lt_zero _)⟩) ?_
 rintro n ⟨hn,hall⟩
 refine Vs 6 O ?_
 refine zkG O (fun lt=>?_) (fun lt=>?_)
 ·
  refine Vs 7 O ?_
  obtain⟨x,he_x,hm_x⟩:=gE_ s.nodes (n) (by omega)
  obtain⟨b_x,o_x,c_x,ha_x,_,hc_x,hR_x⟩:=hnd.at he_x
  obtain⟨v1_x,v2_x,rfl,hp_x,hu_x⟩:=hR_x
  obtain⟨a1_x,n1_x,rfl⟩:=hp_x.form
  obtain⟨a2_x,n2_x,rfl⟩:=hu_x.form
  refine zna 1000 0 O O hc_x ?_
  refine zmN 1000 tR28 ts59 O ha_x (by omega) (_) (rfl) O ?_
  have hum:=hu_x.max
  have hng:n<g.length:=by omega
  refine Vs 1 O ?_
  refine V.alloc 4 tz59 O O (fun b4=>?_)
  refine Vs 11 O ?_
  refine zn1 Tryz.call78 O (fun w hI=>zhN f g s n hng x.phis b gb _ _ _ _ _ D D' D w (Tr1 hI.k0 hc) (Tr1 hI.k0 hof) (Tr1 hI.k0 hG) (Tr1 hI.k0 hp_x)) ?_
  rintro r1 w1 w2 hI1 hk12 ⟨q,rfl,hq⟩ hlow
  refine zml O (fun w hI=>zlV O (by first | exact za | rfl)) ?_
  refine Vs 2 O ?_
  refine V.bool O (fun p1=>?_) (fun p1=>?_)
  ·
   have hb:¬ PhiF f g s n x.phis:=fun h=>by have:=hq.2 h;rw [this] at p1;cases p1
   refine Vs 12 O ?_
   refine zkW tr39 O (fun w hI=>⟨_,rfl,⟨_,rfl,hno n x he_x fun h=>hb h.phi⟩,hI.k1⟩)
  ·
   have hphi:=hq.1 (by simpa using p1)
   refine Vs 9 O ?_
   refine zmZ Tryz.call79 O (fun w hI=>zb2 f g hk n hng gb D' w (Tr1 hI.k1 hG)) ?_
   refine Vs 4 O ?_
   refine zne (σ:=Unit) [0,3,4,13,14,15] [4,900] [0,4] O (fun e u=>e) (fun e u=>e) (fun u=>(jp f g n<0->x.dfn=-1)/\(0<=jp f g n->zaa f s x.dfn (jp f g n) true)) (fun _=>rfl) (fun _=>rfl) ?_ ?_
   ·
    refine Vs 5 O ?_
    refine V.sp 34 O (fun d1=>?_) (fun d1=>?_)
    ·
     refine Vs 5 O ?_
     refine V.sp 39 O (fun d2=>?_) (fun d2=>?_)
     ·
      refine Vs 27 O ?_
      refine zkW tr39 O (fun w hI=>⟨_,rfl,⟨_,rfl,hno n x he_x fun h=>d2 (h.no d1)⟩,hI.k1⟩)
     ·
      refine Vs 3 O ?_
      refine V.sp 42 O (fun d3=>?_) (fun d3=>?_)
      . omega
      ·
       refine Vs 12 O ?_
       refine zkT (()) (Sub.of O) (Has.of O) (⟨fun _=>zos.1 d2,fun h=>by omega⟩) 0 O O
    ·
     refine Vs 8 O ?_
     refine V.sp 42 O (fun d3=>?_) (fun d3=>?_)
     ·
      refine Vs 4 O ?_
      refine zmZ Tryz.call80 O (fun w hI=>zb3 f g s x.dfn (jp f g n) b gb _ _ _ _ D D' w (Tr1 hI.k1 hc) (Tr1 hI.k1 hof) (Tr1 hI.k1 hG)) ?_
      refine zml O (fun w hI=>zlV O (by first | exact za | rfl)) ?_
      refine Vs 4 O ?_
      refine zkG O (fun d4=>?_) (fun d4=>?_)
      ·
       refine Vs 13 O ?_
       refine zkW tr39 O (fun w hI=>⟨_,rfl,⟨_,rfl,hno n x he_x fun h=>d4 (h.yes d3)⟩,hI.k1⟩)
      ·
       refine Vs 1 O ?_
       refine zkT (()) (Sub.of O) (Has.of O) (⟨fun h=>by omega,fun _=>zos.1 d4⟩) 0 O O
     . omega
   rintro u ⟨hd1,hd2⟩
   refine Vs 8 O ?_
   refine zn1 Tryz.call81 O (fun w hI=>zgd f g hk n hng gb D' w (Tr1 hI.k1 hG)) ?_
   rintro r2 w3 w4 hI3 hk34 hrd hlow2
   obtain⟨ar,cr,rfl⟩:=hrd.form
   have hrm:=hrd.max
   refine Vs 14 O ?_
   refine zkG O (fun e0=>?_) (fun e0=>?_)
   ·
    refine Vs 12 O ?_
    refine zkW tr39 O (fun w hI=>⟨_,rfl,⟨_,rfl,hno n x he_x fun h=>e0 (by rw [<- h.use,zoD])⟩,hI.k2⟩)
   ·
    refine Vs 11 O ?_
    refine znd (σ:=Nat) [0,6,13,14,15,64,65] [900] [0] O (fun e k=>(66,.int .i64 k)::e) (fun e k=>e) (fun k=>k<=x.uses.length/\∀ (q:Nat) u,q<k->x.uses[q]?=some u->(rdV f g n)[q]?=some u.1/\zaa f s u.2 u.1 false) (fun k=>x.uses.length - k) (0) (Sub.of O) (Has.of O) (fun _=>rfl) (fun _=>rfl) (fun _=>rfl) (⟨zoy _,fun q u h=>absurd h (Nat.not_lt_zero _)⟩) ?_
    rintro k ⟨hk2,hall2⟩
    refine Vs 6 O ?_
    refine zkG O (fun lk=>?_) (fun lk=>?_)
    ·
     refine Vs 7 O ?_
     obtain⟨u,he_u,hm_u⟩:=gE_ x.uses (k) (by omega)
     obtain⟨b_u,o_u,c_u,ha_u,_,hc_u,hR_u⟩:=hu_x.at he_u
     obtain rfl:=hR_u
     refine zna 2000 2 O O hc_u ?_
     refine zmN 2000 tR57 ts85 O ha_u (by omega) (_) (rfl) O ?_
     obtain⟨rk,he_rk,hm_rk⟩:=gE_ (rdV f g n) (k) (by omega)
     obtain⟨b_rk,o_rk,c_rk,ha_rk,hd_rk,hc_rk,hR_rk⟩:=hrd.atD he_rk
     obtain rfl:=hR_rk
     refine znb 3000 0 O O (fun h_=>by have h1_:=hlow2 _ h_;have h2_:=hd_rk;first | omega | exact h1_ h2_) hc_rk ?_
     refine Vs 1 O ?_
     refine V.alloc 8 tz85 O O (fun b8=>?_)
     refine Vs 5 O ?_
     refine Vw [900,2000,3000,8] [] O ?_
     refine Vd [0,1,2,3] 0 (by kernel_rfl) O O O ?_
     refine zmO 4 3000 tR27 ts3 O (by kernel_rfl) O ha_rk (by omega) (k) (by omega) O ?_
     refine Vd [5,6,7] 0 (by kernel_rfl) O O O ?_
     refine VD.sp 78 O (fun e1=>?_) (fun e1=>?_)
     ·
      have hb:¬ NodF f g s (rdV f g) n x:=fun h=>e1 (by
       have:=congrArg (fun l:List Int=>l[k]?) h.use
       rw [zoA,he_u,he_rk] at this
       exact Option.some.inj this)
      refine Vd [8,9,10,11,12] 0 (by kernel_rfl) O O O ?_
      refine VD.skip 13 0 O (by kernel_rfl) O O ?_
      refine Vd [14,15] 0 (by kernel_rfl) O O O ?_
      refine VD.done (by kernel_rfl) ?_
      refine Vs 17 O ?_
      refine zkW tr39 O (fun w hI=>⟨_,rfl,⟨_,rfl,hno n x he_x hb⟩,hI.k2⟩)
     ·
      have e1:=zos.1 e1
      refine Vd [8,9,10,11,12] 0 (by kernel_rfl) O O O ?_
      refine zn0 13 0 Tryz.call82 O (by kernel_rfl) O O (fun w hI=>zek f s u.2 u.1 b gb _ _ _ _ D w (Tr1 hI.k2 hc) (Tr1 hI.k2 hof)) ?_
      refine zmm 14 0 O (by kernel_rfl) O O (fun w hI=>zlV O za) ?_
      refine Vd [15] 0 (by kernel_rfl) O O O ?_
      refine VD.done (by kernel_rfl) ?_
      refine Vs 1 O ?_
      refine zkG O (fun e2=>?_) (fun e2=>?_)
      ·
       refine Vs 15 O ?_
       refine zkW tr39 O (fun w hI=>⟨_,rfl,⟨_,rfl,hno n x he_x fun h=>e2 (h.ver u hm_u)⟩,hI.k2⟩)
      ·
       have hnx:=xe hall2 he_u ⟨by rw [he_rk,e1],zos.1 e2⟩
       refine Va 7 O (by omega) ?_
       refine V.back (k+1) (Sub.of O) (Has.of O) (⟨by omega,hnx⟩) (by first | omega | (dsimp only;omega)) 0 O O
    ·
     obtain rfl:k=x.uses.length:=by omega
     have hall3:=jX hall2
     have huse:x.uses.map (·.1)=rdV f g n:=by
      apply List.ext_getElem?
      intro q
      rw [zoA]
      by_cases hql:q<x.uses.length
      . rw [(hall3 q _ (zoj hql)).1,zoj hql];rfl
      . rw [zoH (by omega),zoH (by omega)];rfl
     have hnode:NodF f g s (rdV f g) n x:=⟨hphi,hd1,hd2,huse,fun u hu=>by obtain⟨q,hq⟩:=List.mem_iff_getElem?.1 hu;exact (hall3 q u hq).2⟩
     have hnx:=xe hall he_x hnode
     refine Va 10 O (by omega) ?_
     refine V.back (n+1) (Sub.of O) (Has.of O) (⟨by omega,hnx⟩) (by first | omega | (dsimp only;omega)) 2 O O
 ·
  obtain rfl:n=s.nodes.length:=by omega
  refine Vs 11 O ?_
  refine zkW tr39 O (fun w hI=>⟨_,rfl,⟨_,rfl,⟨fun _=>jX hall,fun _=>rfl⟩⟩,hI.k0⟩)
end Go.Proofs.YtckdhgbepmpgiaaGreat
namespace Go.GL
open Go.RowKit
section
variable {P:Program} {n:Nat} {Q:Exit->Act->World->Prop} {ks:List Fr} {env:Env} {A:Tgs} {H Hs:Hp} {Bs B0:zG} {ops:Array Oper} {L:List Nat} {fuel:Nat} {listed:Array Bool} {d d2:Nat} {ty ty2:TypeId} {ps ps2:String} {aft aft2:Array Edge} {g g2:Option (Nat × Bool)}
theorem znX {n:Nat} {Q:Exit->Act->World->Prop} {pos:Pos} (k:Nat) {e:HE} {p:World->Prop} (hn:(hget H k,qR H k)=(some e,none)) (hl:(HE.dat e.S p).loc) (hp:∀ w,VI Bs H w->p w)
  (h:∀ w,p w->(∀ b,HS (yw H k (.dat e.S p)) b->¬ e.S b)->V P n Q ks pos env A (yw H k (.dat e.S p)) ((w,HS (yw H k (.dat e.S p)))::Bs)):V P n Q ks pos env A H Bs:=by
 simp only [Prod.mk.injEq] at hn
 intro hA w hI
 have he:(HE.dat e.S p).holds w:=⟨hp w hI,fun q hq=>hI.low _ (zx hn.1) q hq⟩
 have hF:=hI.freeze hn.1 he hl (fun q h=>h) (fun b hb=>hb)
 have hg:hget (yw H k (.dat e.S p)) k=some (.dat e.S p):=by rw [jB hn.1,Nat.beq_refl];rfl
 exact h w (hp w hI) (fun b hb hs=>hF.offF k hg b hs hb) (hA.res hn.1 hn.2) w hF.here
end
end Go.GL
namespace Go.Proofs.YtckdhgbepmpgiaaGreat
open Go.GL
def zcd (L:List Int) (m:Nat):List Int:=(List.range m).map fun k:Nat=>((L.count (k:Int):Nat):Int)
theorem qr (L:List Int) (m:Nat):(zcd L m).length=m:=by simp [zcd]
theorem jY {L:List Int} {m k:Nat} (h:k<m):(zcd L m)[k]?=some ((L.count (k:Int):Nat):Int):=by unfold zcd;rw [zoA,List.getElem?_range h];rfl
theorem zhO (m:Nat):zcd [] m=List.replicate m 0:=by
 rw [List.eq_replicate_iff]
 refine⟨qr _ _,fun x hx=>?_⟩
 obtain⟨k,_,rfl⟩:=List.mem_map.1 hx
 rfl
theorem zd1 {L:List Int} {m k:Nat} (h:k<m):(zcd L m).set k (((L.count (k:Int):Nat):Int)+1)=zcd (L++[(k:Int)]) m:=by
 apply List.ext_getElem?
 intro j
 by_cases hj:j<m
 ·
  rw [jY hj,List.count_append]
  by_cases e:j=k
  ·
   subst e
   rw [List.getElem?_set_self (by rw [qr];exact hj),List.count_singleton_self];rfl
  ·
   rw [List.getElem?_set_ne (fun h=>e h.symm),jY hj,List.count_singleton]
   rw [zot (by simp;omega)]
   simp
 . rw [zoH (by rw [List.length_set,qr];omega),zoH (by rw [qr];omega)]
def dP (x:Sn):List Int:=if 0<=x.dfn then [x.dfn] else []
def LP (s:Sf) (n:Nat):List Int:=(List.range n).flatMap fun i=>dP (zk s i)++(zk s i).phis.map (·.ver)
theorem zdK {s:Sf} {n:Nat} {x:Sn} (h:s.nodes[n]?=some x):LP s (n+1)=LP s n++dP x++x.phis.map (·.ver):=by
 unfold LP
 rw [List.range_succ,List.flatMap_append,List.flatMap_singleton,yO h,List.append_assoc]
theorem zhP {f:Fl} {g:List Nd} {s:Sf} {rd:Nat->List Int} (hlen:s.nodes.length=g.length) (hN:∀ (n:Nat) x,s.nodes[n]?=some x->NodF f g s rd n x) (a:Int):(LP s g.length).count a=(xG f g s).count a:=by
 have main:∀ n,n<=g.length->(LP s n).count a=((List.range n).flatMap (dfL f g s)).count a:=by
  intro n
  induction n with
  | zero=>exact fun _=>rfl
  | succ n ih =>
   intro hn
   have e:=zoj (show n<s.nodes.length by omega)
   have hx:=hN n _ e
   rw [zdK e,List.range_succ,List.flatMap_append,List.flatMap_singleton,List.count_append,List.count_append,List.count_append,ih (by omega)]
   unfold dfL dP
   rw [yO e,List.count_append]
   by_cases hd:0<=jp f g n
   ·
    have:=(hx.yes hd).1
    rw [zou hd,zou this];omega
   ·
    have:=hx.no (by omega)
    rw [zot hd,zot (by omega)];omega
 exact main _ (zoI _)
theorem qJ {f:Fl} {s:Sf} {k v:Int} {b:Bool} (h:zaa f s k v b):∃ n:Nat,k=(n:Int)/\n<s.of_.length:=⟨k.toNat,by have:=h.1;omega,(zox.1 h.2.1).1⟩
theorem zhQ (f:Fl) (g:List Nd) (s:Sf) (rd:Nat->List Int) (hlen:s.nodes.length=g.length) (hN:∀ (n:Nat) x,s.nodes[n]?=some x->NodF f g s rd n x) (hvl:f.vars.length<=s.of_.length) (hbig:s.of_.length<=1000000/\(LP s g.length).length<=1000000) (b gb:Nat) (ofv nv bv dv:Value) (D D':Nat->Prop) (W:World) (hc:Cells W b 0 (chk gb ofv nv bv dv)) (hS:RSf D W s ofv nv) (hG:GrO D' W f g gb) :
  Calls Tryz.prog 40 #[.pointer (some ⟨b,0,none⟩)] W (Ret fun r w'=>(∃ q:Bool,r=.bool q/\(q=true ↔ ∀ k:Nat,f.vars.length<=k->k<s.of_.length->(xG f g s).count (k:Int)=1))/\Ext W w'):=by
 obtain⟨v1,v2,v3,gv,sv,pv,hD,hcell,hf,hg,hs,hp⟩:=hG
 have hfv:=hf.vars
 obtain⟨a1,c1,rfl⟩:=hfv.form
 have hof:=hS.of_
 have hnd:=hS.nodes
 have hnm:=hnd.max
 obtain⟨ao,co,rfl⟩:=hof.form
 obtain⟨an,cn,rfl⟩:=hnd.form
 generalize hm:s.of_.length=m at *
 have hcb:∀ (L:List Int) (k:Int),L.count k<=L.length:=fun L k=>List.count_le_length
 refine zmu Tryz.func40 O Tryz.ntmps40 O (zmE ?_)
 refine znb 900 0 O O (fun h=>h) hc ?_
 refine znb 901 0 O O (fun h=>h) hcell ?_
 refine zmL 0 900 0 O O ?_
 refine Vs 13 O ?_
 refine zlz 16 tu27 Tryz.el3 O (by omega) (by omega) (zs:=List.replicate m (.int .i64 0)) (qw _ _ O) (by simp) (fun b16=>?_)
 refine znc 16 O (e':=.row 3 1 (.slice (some ⟨b16,0,none⟩) m m) m ((zcd (LP s 0) m).map zc)) (by rw [show LP s 0=[] from rfl,zhO,List.map_replicate]) ?_
 refine Vs 16 O ?_
 refine znd (σ:=Nat) [0,3,21,22] [900,901] [0] O (fun e n=>(23,.int .i64 n)::e) (fun e n=>(16,.row 3 1 (.slice (some ⟨b16,0,none⟩) m m) m ((zcd (LP s n) m).map zc))::e) (fun n=>n<=s.nodes.length) (fun n=>s.nodes.length - n) (0) (Sub.of O) (Has.of O) (fun _=>rfl) (fun _=>rfl) (fun _=>rfl) (zoy _) ?_
 rintro n hn
 have hlp:∀ j,j<=g.length->(LP s j).length<=(LP s g.length).length:=fun j hj=>by
  have:LP s g.length=LP s j++(List.range' j (g.length - j)).flatMap fun i=>dP (zk s i)++(zk s i).phis.map (·.ver):=by
   unfold LP
   rw [<- List.flatMap_append,List.range_eq_range',List.range_eq_range']
   congr 1
   rw [show g.length=j+(g.length - j) by omega,<- List.range'_append_1]
   simp
  rw [this,zor]
  omega
 refine Vs 6 O ?_
 refine zkG O (fun lt=>?_) (fun lt=>?_)
 ·
  refine Vs 6 O ?_
  obtain⟨x,he_x,hm_x⟩:=gE_ s.nodes (n) (by omega)
  obtain⟨b_x,o_x,c_x,ha_x,_,hc_x,hR_x⟩:=hnd.at he_x
  obtain⟨v1_x,v2_x,rfl,hp_x,hu_x⟩:=hR_x
  obtain⟨a1_x,n1_x,rfl⟩:=hp_x.form
  obtain⟨a2_x,n2_x,rfl⟩:=hu_x.form
  refine zna 1000 0 O O hc_x ?_
  refine zmN 1000 tR28 ts59 O ha_x (by omega) (_) (rfl) O ?_
  have hx:=hN n x he_x
  have hpm:=hp_x.max
  have hnx:=zdK he_x
  have hl1:=hlp (n+1) (by omega)
  rw [hnx,zor,zor,zoD] at hl1
  refine Vs 1 O ?_
  refine V.alloc 5 tz59 O O (fun b5=>?_)
  refine Vs 4 O ?_
  refine zne (σ:=Unit) [0,3,5,21,22,23] [5,900,901] [0,5] O (fun e u=>e) (fun e u=>(16,.row 3 1 (.slice (some ⟨b16,0,none⟩) m m) m ((zcd (LP s n++dP x) m).map zc))::e) (fun u=>True) (fun _=>rfl) (fun _=>rfl) ?_ ?_
  ·
   refine Vs 7 O ?_
   refine zkG O (fun d0=>?_) (fun d0=>?_)
   ·
    have hdp:dP x=[x.dfn]:=zou d0
    have hd1:0<=jp f g n:=by
     by_cases e:0<=jp f g n
     . exact e
     . have:=hx.no (by omega);omega
    obtain⟨k,hk,hkm⟩:=qJ (hx.yes hd1)
    rw [hm] at hkm
    have hck:=hcb (LP s n) (k:Int)
    refine Va 5 O (by omega) ?_
    refine zmW 16 (k) tg3 O (by omega) (show _=some (Value.int .i64 (((LP s n).count (k:Int):Nat):Int)) by rw [zoA,jY hkm];rfl) ?_
    refine Va 2 O (by omega) ?_
    refine zmX 16 (k) ts3 O (by omega) (by simp [qr];omega) ?_
    refine znc 16 O (e':=.row 3 1 (.slice (some ⟨b16,0,none⟩) m m) m ((zcd (LP s n++dP x) m).map zc)) (by rw [hdp,hk,<- zd1 hkm,List.map_set]) ?_
    refine Vs 1 O ?_
    refine zkT (()) (Sub.of O) (Has.of O) (True.intro) 0 O O
   ·
    have hdp:dP x=[]:=zot d0
    refine znc 16 O (e':=.row 3 1 (.slice (some ⟨b16,0,none⟩) m m) m ((zcd (LP s n++dP x) m).map zc)) (by rw [hdp,List.append_nil]) ?_
    refine Vs 1 O ?_
    refine zkT (()) (Sub.of O) (Has.of O) (True.intro) 0 O O
  rintro u -
  refine Vs 9 O ?_
  refine znc 16 O (e':=.row 3 1 (.slice (some ⟨b16,0,none⟩) m m) m ((zcd (LP s n++dP x++(x.phis.take 0).map (·.ver)) m).map zc)) (by rw [List.take_zero,List.map_nil,List.append_nil]) ?_
  refine Vs 1 O ?_
  refine znd (σ:=Nat) [0,3,21,22,23,38,39] [900,901] [0] O (fun e j=>(40,.int .i64 j)::e) (fun e j=>(16,.row 3 1 (.slice (some ⟨b16,0,none⟩) m m) m ((zcd (LP s n++dP x++(x.phis.take j).map (·.ver)) m).map zc))::e) (fun j=>j<=x.phis.length) (fun j=>x.phis.length - j) (0) (Sub.of O) (Has.of O) (fun _=>rfl) (fun _=>rfl) (fun _=>rfl) (zoy _) ?_
  rintro j hj
  refine Vs 6 O ?_
  refine zkG O (fun lj=>?_) (fun lj=>?_)
  ·
   refine Vs 6 O ?_
   obtain⟨p,he_p,hm_p⟩:=gE_ x.phis (j) (by omega)
   obtain⟨b_p,o_p,c_p,ha_p,_,hc_p,hR_p⟩:=hp_x.at he_p
   obtain⟨v1_p,v2_p,rfl,hf_p,hg_p⟩:=hR_p
   obtain⟨a1_p,n1_p,rfl⟩:=hf_p.form
   obtain⟨a2_p,n2_p,rfl⟩:=hg_p.form
   refine zna 2000 0 O O hc_p ?_
   refine zmN 2000 tR56 ts88 O ha_p (by omega) (_) (rfl) O ?_
   obtain⟨k,hk,hkm⟩:=qJ (hx.phi.ver p hm_p)
   rw [hm] at hkm
   have hck:=hcb (LP s n++dP x++(x.phis.take j).map (·.ver)) (k:Int)
   rw [zor,zor,zoD,zoN] at hck
   refine Vs 1 O ?_
   refine V.alloc 7 tz88 O O (fun b7=>?_)
   refine Va 8 O (by omega) ?_
   refine zmW 16 (k) tg3 O (by omega) (show _=some (Value.int .i64 (((LP s n++dP x++(x.phis.take j).map (·.ver)).count (k:Int):Nat):Int)) by rw [zoA,jY hkm];rfl) ?_
   refine Va 2 O (by omega) ?_
   refine zmX 16 (k) ts3 O (by omega) (by simp [qr];omega) ?_
   refine znc 16 O (e':=.row 3 1 (.slice (some ⟨b16,0,none⟩) m m) m ((zcd (LP s n++dP x++(x.phis.take (j+1)).map (·.ver)) m).map zc)) (by rw [zd he_p,List.map_append,<- List.append_assoc,show [p].map (·.ver)=[(k:Int)] by rw [<- hk];rfl,<- zd1 hkm,List.map_set]) ?_
   refine Va 7 O (by omega) ?_
   refine V.back (j+1) (Sub.of O) (Has.of O) (by omega) (by first | omega | (dsimp only;omega)) 0 O O
  ·
   obtain rfl:j=x.phis.length:=by omega
   refine znc 16 O (e':=.row 3 1 (.slice (some ⟨b16,0,none⟩) m m) m ((zcd (LP s (n+1)) m).map zc)) (by rw [zoo,hnx]) ?_
   refine Va 10 O (by omega) ?_
   refine V.back (n+1) (Sub.of O) (Has.of O) (by omega) (by first | omega | (dsimp only;omega)) 0 O O
 ·
  obtain rfl:n=s.nodes.length:=by omega
  have hall:∀ a,(LP s s.nodes.length).count a=(xG f g s).count a:=fun a=>by rw [hlen];exact zhP hlen hN a
  refine Vs 7 O ?_
  refine znX 16 O (p:=fun w=>SlR 1 yj (fun q=>(Value.slice (some ⟨b16,0,none⟩) m m).ownBlock=some q) w (.slice (some ⟨b16,0,none⟩) m m) (zcd (LP s s.nodes.length) m)) (fun w w' T h hk hT=>h.keep ze hk fun b hb _=>hT b hb) (fun w hI=>zlM zc (fun _ _=>rfl) (show w.ownsRow 0 3 1 _ m _ from hI.at 16 O) (fun g hg=>hg)) (fun wp hpin hap=>?_)
  have hcl:=qr (LP s s.nodes.length) m
  have hdr:=hpin.drop f.vars.length (by omega)
  have hdl:((zcd (LP s s.nodes.length) m).drop f.vars.length).length=m - f.vars.length:=by rw [List.length_drop,hcl]
  refine Vs 6 O ?_
  refine zmL 57 901 0 O O ?_
  refine Vs 5 O ?_
  refine zml O (fun w hI=>zlk tR27 ts3 O O (by omega)) ?_
  refine Vs 5 O ?_
  refine znd (σ:=Nat) [63,64] [16] [] O (fun e j=>(65,.int .i64 j)::e) (fun e j=>e) (fun j=>j<=m - f.vars.length/\∀ k:Nat,f.vars.length<=k->k<f.vars.length+j->(xG f g s).count (k:Int)=1) (fun j=>m - f.vars.length - j) (0) (Sub.of O) (Has.of O) (fun _=>rfl) (fun _=>rfl) (fun _=>rfl) (⟨zoy _,fun k h1 h2=>by omega⟩) ?_
  rintro j ⟨hj,hone⟩
  refine Vs 6 O ?_
  refine zkG O (fun lj=>?_) (fun lj=>?_)
  ·
   refine Vs 6 O ?_
   obtain⟨c,he_c,hm_c⟩:=gE_ ((zcd (LP s s.nodes.length) m).drop f.vars.length) (j) (by omega)
   obtain⟨b_c,o_c,c_c,ha_c,hd_c,hc_c,hR_c⟩:=hdr.atD he_c
   obtain rfl:=hR_c
   refine znb 3000 0 O O (fun h_=>by have h1_:=hap _ h_;have h2_:=hd_c;first | omega | exact h1_ h2_) hc_c ?_
   refine zmN 3000 tR27 ts3 O ha_c (by omega) (_) (rfl) O ?_
   have hcc:c=(((xG f g s).count ((f.vars.length+j:Nat):Int):Nat):Int):=by
    rw [List.getElem?_drop,jY (by omega),hall] at he_c
    exact (Option.some.inj he_c).symm
   refine Vs 10 O ?_
   refine zkG O (fun e1=>?_) (fun e1=>?_)
   ·
    have hb:¬ ∀ k:Nat,f.vars.length<=k->k<m->(xG f g s).count (k:Int)=1:=fun h=>e1 (by rw [hcc,h _ (by omega) (by omega)];rfl)
    refine Vs 11 O ?_
    refine zkW Tryz.results40 O (fun w hI=>⟨_,rfl,⟨_,rfl,⟨fun h=>(by cases h),fun h=>absurd h hb⟩⟩,hI.k1⟩)
   ·
    have hnx:∀ k:Nat,f.vars.length<=k->k<f.vars.length+(j+1)->(xG f g s).count (k:Int)=1:=fun k h1 h2=>by
     by_cases e:k=f.vars.length+j
     . subst e;omega
     . exact hone k h1 (by omega)
    refine Va 7 O (by omega) ?_
    refine V.back (j+1) (Sub.of O) (Has.of O) (⟨by omega,hnx⟩) (by first | omega | (dsimp only;omega)) 0 O O
  ·
   refine Vs 11 O ?_
   refine zkW Tryz.results40 O (fun w hI=>⟨_,rfl,⟨_,rfl,⟨fun _ k h1 h2=>hone k h1 (by omega),fun _=>rfl⟩⟩,hI.k1⟩)
def wPh (p:Phn):Nat:=1+p.frm.length+p.args.length
def wPs (l:List Phn):Nat:=(l.map wPh).sum
def wSn (x:Sn):Nat:=x.uses.length+wPs x.phis
def wNs (l:List Sn):Nat:=(l.map wSn).sum
theorem zhR {l:List Phn} {i:Nat} {p:Phn} (h:l[i]?=some p):wPs (l.take (i+1))=wPs (l.take i)+wPh p:=by unfold wPs;rw [zd h,List.map_append,List.sum_append];simp
theorem zel {l:List Sn} {i:Nat} {x:Sn} (h:l[i]?=some x):wNs (l.take (i+1))=wNs (l.take i)+wSn x:=by unfold wNs;rw [zd h,List.map_append,List.sum_append];simp
structure FewS (s:Sf):Prop where
 of_:s.of_.length<=200
 nodes:s.nodes.length<=100
 all:wNs s.nodes<=600
theorem zjc (l:List Phn):l.length<=wPs l:=by
 induction l with
 | nil=>simp
 | cons p l ih =>
  have h1:1<=wPh p:=by unfold wPh;omega
  unfold wPs at *
  rw [List.map_cons,List.sum_cons,zoM]
  omega
theorem zkg (s:Sf) (n:Nat) (hn:n<=s.nodes.length):(LP s n).length<=n+wNs (s.nodes.take n):=by
 induction n with
 | zero=>simp [LP]
 | succ n ih =>
  have e:=zoj (show n<s.nodes.length by omega)
  have h1:=ih (by omega)
  rw [zdK e,zel e,zor,zor,zoD]
  have h2:=zjc s.nodes[n].phis
  have h3:(dP s.nodes[n]).length<=1:=by unfold dP;split <;> simp
  unfold wSn
  omega
theorem FewS.lp {s:Sf} (h:FewS s):(LP s s.nodes.length).length<=700:=by
 have h1:=zkg s s.nodes.length (zoI _)
 rw [zoo] at h1
 have:=h.all
 have:=h.nodes
 omega
def zku (s:Sf):Prop:=∀ x ∈ s.nodes,x.uses.length<=1152921504606846976/\∀ p ∈ x.phis,p.frm.length<=1152921504606846976/\p.args.length<=1152921504606846976
theorem zkh (s:Sf) (hsm:zku s) (ofv nodv:Value) (D:Nat->Prop) (W:World) (hS:RSf D W s ofv nodv) :
  Calls Tryz.prog 13 #[.agg #[ofv,nodv]] W (Ret fun r w'=>(∃ q:Bool,r=.bool q/\(q=true->FewS s))/\Ext W w'):=by
 have hof:=hS.of_
 have hnd:=hS.nodes
 obtain⟨ao,co,rfl⟩:=hof.form
 obtain⟨an,cn,rfl⟩:=hnd.form
 have hnm:=hnd.max
 refine zmu Tryz.func13 O Tryz.ntmps13 O (zmE ?_)
 refine Vs 2 O ?_
 refine V.box 1 O O (fun b1=>?_)
 refine Vs 4 O ?_
 refine zne (σ:=Unit) [1] [1] [1] O (fun e u=>e) (fun e u=>e) (fun u=>s.of_.length<=200/\s.nodes.length<=100) (fun _=>rfl) (fun _=>rfl) ?_ ?_
 ·
  refine Vs 7 O ?_
  refine V.sp 11 O (fun l0=>?_) (fun l0=>?_)
  ·
   refine Vs 16 O ?_
   refine zkW tr13 O (fun w hI=>⟨_,rfl,⟨_,rfl,fun h=>by cases h⟩,hI.k0⟩)
  ·
   refine Vs 7 O ?_
   refine zkG O (fun l1=>?_) (fun l1=>?_)
   ·
    refine Vs 8 O ?_
    refine zkW tr13 O (fun w hI=>⟨_,rfl,⟨_,rfl,fun h=>by cases h⟩,hI.k0⟩)
   ·
    refine Vs 1 O ?_
    refine zkT (()) (Sub.of O) (Has.of O) (⟨by omega,by omega⟩) 0 O O
 rintro u ⟨h200,h100⟩
 refine Vs 16 O ?_
 refine znd (σ:=Nat) [18,19] [] [] O (fun e n=>(20,.int .i64 n)::(3,.int .i64 (600 - (wNs (s.nodes.take n):Int)))::e) (fun e n=>e) (fun n=>n<=s.nodes.length/\wNs (s.nodes.take n)<=600) (fun n=>s.nodes.length - n) (0) (Sub.of O) (Has.of O) (fun _=>rfl) (fun _=>rfl) (fun _=>rfl) (⟨zoy _,zoy _⟩) ?_
 rintro n ⟨hn,hw⟩
 refine Vs 6 O ?_
 refine zkG O (fun ln=>?_) (fun ln=>?_)
 ·
  refine Vs 6 O ?_
  obtain⟨x,he_x,hm_x⟩:=gE_ s.nodes (n) (by omega)
  obtain⟨b_x,o_x,c_x,ha_x,_,hc_x,hR_x⟩:=hnd.at he_x
  obtain⟨v1_x,v2_x,rfl,hp_x,hu_x⟩:=hR_x
  obtain⟨a1_x,n1_x,rfl⟩:=hp_x.form
  obtain⟨a2_x,n2_x,rfl⟩:=hu_x.form
  refine zna 1000 0 O O hc_x ?_
  refine zmN 1000 tR28 ts59 O ha_x (by omega) (_) (rfl) O ?_
  have hpm:=hp_x.max
  obtain⟨hxu,hxp⟩:=hsm x hm_x
  have hnx:=zel he_x
  generalize wNs (s.nodes.take n)=t0 at *
  refine Vs 1 O ?_
  refine V.alloc 5 tz59 O O (fun b5=>?_)
  refine Va 19 O (by omega) ?_
  refine V.eq 3 (v:=.int .i64 (600 - (t0:Int) - (x.uses.length:Int) - (wPs (x.phis.take 0):Int))) O (by simp [wPs]) ?_
  refine Vs 1 O ?_
  refine znd (σ:=Nat) [5,18,19,20] [5] [5] O (fun e i=>(6,.int .i64 i)::(3,.int .i64 (600 - (t0:Int) - (x.uses.length:Int) - (wPs (x.phis.take i):Int)))::e) (fun e i=>e) (fun i=>i<=x.phis.length/\(wPs (x.phis.take i):Int)<=600+2*1152921504606846976+1) (fun i=>x.phis.length - i) (0) (Sub.of O) (Has.of O) (fun _=>rfl) (fun _=>rfl) (fun _=>rfl) (⟨zoy _,by simp [wPs]⟩) ?_
  rintro i ⟨hi,hwp⟩
  refine Vs 9 O ?_
  refine V.sp 34 O (fun a1=>?_) (fun a1=>?_)
  ·
   refine Vs 5 O ?_
   refine zkG O (fun a2=>?_) (fun a2=>?_)
   ·
    refine Vs 4 O ?_
    refine Vq (by kernel_rfl) ?_
    refine Vs 4 O ?_
    obtain⟨p,he_p,hm_p⟩:=gE_ x.phis (i) (by omega)
    obtain⟨b_p,o_p,c_p,ha_p,_,hc_p,hR_p⟩:=hp_x.at he_p
    obtain⟨v1_p,v2_p,rfl,hf_p,hg_p⟩:=hR_p
    obtain⟨a1_p,n1_p,rfl⟩:=hf_p.form
    obtain⟨a2_p,n2_p,rfl⟩:=hg_p.form
    refine zna 2000 0 O O hc_p ?_
    refine zmQ 2000 tR56 ts88 O ha_p (by omega) (_) (rfl) O ?_
    have hpx:=zhR he_p
    obtain⟨hb1,hb2⟩:=hxp p hm_p
    have hwe:wPh p=1+p.frm.length+p.args.length:=rfl
    refine Va 7 O (by omega) ?_
    refine zmQ 2000 tR56 ts88 O ha_p (by omega) (_) (rfl) O ?_
    refine Va 14 O (by omega) ?_
    refine V.back (i+1) (Sub.cons (rfl) (Sub.cons ((show some (Value.int .i64 _)=some (Value.int .i64 _) from congrArg (fun z=>some (Value.int .i64 z)) (by rw [hpx,hwe];omega))) (Sub.of O))) (Has.of O) (⟨by omega,by omega⟩) (by omega) 0 O O
   ·
    refine Vs 11 O ?_
    refine zkG O (fun b1=>?_) (fun b1=>?_)
    ·
     refine Vs 11 O ?_
     refine zkW tr13 O (fun w hI=>⟨_,rfl,⟨_,rfl,fun h=>by cases h⟩,hI.k0⟩)
    . omega
  ·
   refine Vs 17 O ?_
   refine zkG O (fun b1=>?_) (fun b1=>?_)
   ·
    refine Vs 11 O ?_
    refine zkW tr13 O (fun w hI=>⟨_,rfl,⟨_,rfl,fun h=>by cases h⟩,hI.k0⟩)
   ·
    have hil:i=x.phis.length:=by omega
    subst hil
    rw [zoo] at hwp b1
    have hwx:wSn x=x.uses.length+wPs x.phis:=rfl
    refine Va 7 O (by omega) ?_
    refine V.back (n+1) (Sub.cons (rfl) (Sub.cons ((show some (Value.int .i64 _)=some (Value.int .i64 _) from congrArg (fun z=>some (Value.int .i64 z)) (by rw [hnx,hwx,zoo];omega))) (Sub.of O))) (Has.of O) (⟨by omega,by omega⟩) (by omega) 0 O O
 ·
  obtain rfl:n=s.nodes.length:=by omega
  rw [zoo] at hw
  refine Vs 11 O ?_
  refine zkW tr13 O (fun w hI=>⟨_,rfl,⟨_,rfl,fun _=>⟨h200,h100,hw⟩⟩,hI.k0⟩)
open Go.GL Go.ChangeShapes Go.WideShapes Go.ChangeAt Go.RowKit
section
variable {H:Type} {enc:TypeId × Value->H} {w:World} {base:Nat} {sp:Nat->Bool} {held:Bool}
def wtB (P:Program) (t:TypeId) (d:DataW H):Prop:=∀ n ∈ d.weights P t,n<=reachBytes
theorem wtB.field {P:Program} {t:TypeId} {fs:Array Field} {parts:List (DataW H)} (h:wtB P t (.agg parts)) (ht:P.underlying t=some (.struct fs)) {i:Nat} {f:Field} {d:DataW H} (hf:fs[i]?=some f) (hd:parts[i]?=some d):wtB P f.type d:=fun n hn=>by
 refine h n ?_
 rw [DataW.weights,ht]
 exact DataW.weights_mem_each (j:=i) (by simp [hf]) hd n hn
theorem jh {P:Program} {e:TypeId} {d:DataW H} {n:Nat}:∀ {l:List (DataW H)},d ∈ l->n ∈ d.weights P e->n ∈ DataW.weightsAll P e l
 | x::l,h,hn=>by
  rw [DataW.weightsAll,zoC]
  rcases zoz.1 h with rfl | h
  . exact .inl hn
  . exact .inr (jh h hn)
theorem wtB.slice {P:Program} {t e:TypeId} {es rs:List (DataW H)} (h:wtB P t (.slice es rs)) (ht:P.underlying t=some (.slice e)):es.length*P.bytesOf e<=reachBytes/\∀ d ∈ es,wtB P e d:=by
 refine⟨zop (Nat.mul_le_mul_right _ (Nat.le_add_right es.length rs.length)) (h _ (by rw [DataW.weights,ht];exact zon ..)),fun d hd n hn=>h n ?_⟩
 rw [DataW.weights,ht]
 exact zom _ (List.mem_append_left _ (jh hd hn))
theorem zkv {P:Program} {ts:List TypeId} {ds:List (DataW H)} (h:(DataW.weightsEach P ts ds).all (·<=reachBytes)=true) {j:Nat} {t:TypeId} {d:DataW H} (ht:ts[j]?=some t) (hd:ds[j]?=some d):wtB P t d:=fun n hn=>by
 simpa using List.all_eq_true.1 h _ (DataW.weights_mem_each ht hd n hn)
theorem qK {P:Program} {fs:Array Field} {m:Nat} {cs:List Value} {xs:List (DataW H × List MemPlace)} (hx:xs.length=fs.size) (hat:∀ (i:Nat) (f:Field),fs[i]?=some f->DataW.trod enc P w base sp held m f.type ((cs.drop f.offset).take (P.cellsOf f.type))=xs[i]?) (i:Nat) {f:Field} (hf:fs[i]?=some f) {c:Nat} (hc:P.cellsOf f.type=c) :
  ∃ y,DataW.trod enc P w base sp held m f.type ((cs.drop f.offset).take c)=some y/\(xs.map (·.1))[i]?=some y.1:=by
 have h:=hat i f hf
 have hi:=(Array.getElem?_eq_some_iff.1 hf).1
 rw [zoj (show i<xs.length by omega),hc] at h
 exact⟨_,h,by rw [zoA,zoj (show i<xs.length by omega)];rfl⟩
theorem zb4 {α:Type} {R:Rel α} {P:Program} {t e:TypeId} {c fuel m:Nat} {cs:List Value} {x:DataW H × List MemPlace} (ht:P.underlying t=some (.slice e)) (hc:P.cellsOf e=c) (hc0:0<c) (hm:P.bytesOf e=m) (hm0:8<=m) (hB:wtB P t x.1)
  (hR:∀ (n:Nat) (cs:List Value) (y:DataW H × List MemPlace),wtB P e y.1->DataW.trod enc P w base sp held n e cs=some y->∃ z,R (fun _=>True) w z cs) (h:DataW.trod enc P w base sp held fuel t cs=some x):∃ v l,cs=[v]/\SlR c R (fun _=>True) w v l/\l.length<=1152921504606846976:=by
 obtain⟨v,l,h1,h2,h3⟩:=zfn (R:=R) (fun d=>wtB P e d) ht hc hc0 (fun es rs he d hd=>by rw [he] at hB;exact (hB.slice ht).2 d hd) (fun n cs y hq hy=>hR n cs y hq hy) h
 refine⟨v,l,h1,h2,?_⟩
 rcases h3 with e0 | ⟨es,rs,e1,e2⟩
 . rw [e0];exact zoy _
 ·
  rw [e1] at hB
  have h4:=(hB.slice ht).1
  rw [hm,e2] at h4
  have h5:reachBytes<2 ^ 47:=reachBytes_lt
  have h6:l.length*8<=l.length*m:=Nat.mul_le_mul_left _ hm0
  omega
set_option maxRecDepth 100000 in
theorem zhS (k:Nat) (cs:List Value) (x:DataW H × List MemPlace) (h:DataW.trod enc Tryz.prog w base sp held k 85 cs=some x):∃ t,kU (fun _=>True) w t cs:=by
 obtain⟨xs,m,hk,rfl,hl,hx,hat⟩:=DataW.trod_struct Tryz.underlying85 h
 rw [show Tryz.prog.cellsOf 85=2 by kernel_rfl] at hl
 match cs,hl with
 | [c0,c1],_ =>
  obtain⟨y0,h0⟩:=zm hx hat 0 rfl (c:=1) (by kernel_rfl)
  obtain⟨y1,h1⟩:=zm hx hat 1 rfl (c:=1) (by kernel_rfl)
  obtain⟨n0,e0,_⟩:=DataW.trod_int tu3 h0
  obtain⟨n1,e1,_⟩:=DataW.trod_int tu3 h1
  simp at e0 e1
  subst e0;subst e1
  exact⟨(n0,n1),rfl⟩
set_option maxRecDepth 100000 in
theorem zhT (k:Nat) (cs:List Value) (x:DataW H × List MemPlace) (hB:wtB Tryz.prog 88 x.1) (h:DataW.trod enc Tryz.prog w base sp held k 88 cs=some x):∃ t,zhI (fun _=>True) w t cs/\t.frm.length<=1152921504606846976/\t.args.length<=1152921504606846976:=by
 obtain⟨xs,m,hk,rfl,hl,hx,hat⟩:=DataW.trod_struct tu88 h
 rw [show Tryz.prog.cellsOf 88=4 by kernel_rfl] at hl
 match cs,hl with
 | [c0,c1,c2,c3],_ =>
  obtain⟨y0,h0⟩:=zm hx hat 0 rfl (c:=1) (by kernel_rfl)
  obtain⟨y1,h1⟩:=zm hx hat 1 rfl (c:=1) (by kernel_rfl)
  obtain⟨y2,h2,b2⟩:=qK hx hat 2 rfl (c:=1) (by kernel_rfl)
  obtain⟨y3,h3,b3⟩:=qK hx hat 3 rfl (c:=1) (by kernel_rfl)
  obtain⟨n0,e0,_⟩:=DataW.trod_int tu3 h0
  obtain⟨n1,e1,_⟩:=DataW.trod_int tu3 h1
  obtain⟨v2,l2,e2,s2,q2⟩:=zb4 tu27 kZ (by decide) (show Tryz.prog.bytesOf 3=8 by kernel_rfl) (by decide) (hB.field (i:=2) tu88 rfl b2) (fun n cs y _ hy=>zbL tu3 hy) h2
  obtain⟨v3,l3,e3,s3,q3⟩:=zb4 tu27 kZ (by decide) (show Tryz.prog.bytesOf 3=8 by kernel_rfl) (by decide) (hB.field (i:=3) tu88 rfl b3) (fun n cs y _ hy=>zbL tu3 hy) h3
  simp at e0 e1 e2 e3
  subst e0;subst e1;subst e2;subst e3
  exact⟨⟨n0,n1,l2,l3⟩,⟨_,_,rfl,s2,s3⟩,q2,q3⟩
set_option maxRecDepth 100000 in
theorem zjd (k:Nat) (cs:List Value) (x:DataW H × List MemPlace) (hB:wtB Tryz.prog 59 x.1) (h:DataW.trod enc Tryz.prog w base sp held k 59 cs=some x):∃ t,RSn (fun _=>True) w t cs/\t.uses.length<=1152921504606846976/\∀ p ∈ t.phis,p.frm.length<=1152921504606846976/\p.args.length<=1152921504606846976:=by
 obtain⟨xs,m,hk,rfl,hl,hx,hat⟩:=DataW.trod_struct tu59 h
 rw [show Tryz.prog.cellsOf 59=3 by kernel_rfl] at hl
 match cs,hl with
 | [c0,c1,c2],_ =>
  obtain⟨y0,h0,b0⟩:=qK hx hat 0 rfl (c:=1) (by kernel_rfl)
  obtain⟨y1,h1,b1⟩:=qK hx hat 1 rfl (c:=1) (by kernel_rfl)
  obtain⟨y2,h2⟩:=zm hx hat 2 rfl (c:=1) (by kernel_rfl)
  obtain⟨v0,l0,e0,s0,_⟩:=zb4 (R:=(fun D w q cs=>zhI D w q cs/\q.frm.length<=1152921504606846976/\q.args.length<=1152921504606846976:Rel Phn)) Tryz.underlying56 (show Tryz.prog.cellsOf 88=4 by kernel_rfl) (by decide) (show Tryz.prog.bytesOf 88=64 by kernel_rfl) (by decide) (hB.field (i:=0) tu59 rfl b0) (fun n cs y hq hy=>zhT n cs y hq hy) h0
  obtain⟨v1,l1,e1,s1,q1⟩:=zb4 Tryz.underlying57 (show Tryz.prog.cellsOf 85=2 by kernel_rfl) (by decide) (show Tryz.prog.bytesOf 85=16 by kernel_rfl) (by decide) (hB.field (i:=1) tu59 rfl b1) (fun n cs y _ hy=>zhS n cs y hy) h1
  obtain⟨n2,e2,_⟩:=DataW.trod_int tu3 h2
  simp at e0 e1 e2
  subst e0;subst e1;subst e2
  refine⟨⟨l0,l1,n2⟩,⟨_,_,rfl,s0.map fun _ _ _ h=>h.1,s1⟩,q1,fun p hp=>?_⟩
  obtain⟨a2,c2,rfl⟩:=s0.form
  obtain⟨i,hi⟩:=List.mem_iff_getElem?.1 hp
  obtain⟨_,_,_,_,_,_,_,h8⟩:=s0.at hi
  exact h8
set_option maxRecDepth 100000 in
theorem zgj {r:Reach} {b0:Nat} {v:Value} {d:DataW H} {ps:List MemPlace} (hB:wtB Tryz.prog 30 d) (hval:Value.okWide Tryz.prog w r b0 30 v) (hd:DataW.Trod enc Tryz.prog w base sp held 30 v d ps) :
  ∃ s v1 v2,v=.agg #[v1,v2]/\RSf (fun _=>True) w s v1 v2/\zku s:=by
 unfold Value.okWide at hval
 rw [tu30] at hval
 obtain⟨cs,rfl,hsz,_⟩:=hval
 obtain⟨k,hn⟩:=hd
 obtain⟨xs,m,_,hd,hl,hx,hat⟩:=DataW.trod_struct tu30 hn
 rw [show Tryz.prog.cellsOf 30=2 by kernel_rfl] at hsz
 obtain rfl:=(Prod.mk.inj hd).1
 obtain⟨l⟩:=cs
 match l,hsz with
 | [c0,c1],_ =>
  obtain⟨y0,h0⟩:=zm hx hat 0 rfl (c:=1) (by kernel_rfl)
  obtain⟨y1,h1,b1⟩:=qK hx hat 1 rfl (c:=1) (by kernel_rfl)
  obtain⟨v0,l0,e0,hs0⟩:=zdX tu27 kZ (by decide) (fun n cs y hy=>zbL tu3 hy) h0
  obtain⟨v1,l1,e1,s1,_⟩:=zb4 (R:=(fun D w q cs=>RSn D w q cs/\q.uses.length<=1152921504606846976/\∀ p ∈ q.phis,p.frm.length<=1152921504606846976/\p.args.length<=1152921504606846976:Rel Sn)) Tryz.underlying28 (show Tryz.prog.cellsOf 59=3 by kernel_rfl) (by decide) (show Tryz.prog.bytesOf 59=56 by kernel_rfl) (by decide) (hB.field (i:=1) tu30 rfl b1) (fun n cs y hq hy=>zjd n cs y hq hy) h1
  simp [Value.cells] at e0 e1
  subst e0;subst e1
  refine⟨⟨l0,l1⟩,_,_,rfl,⟨hs0,s1.map fun _ _ _ h=>h.1⟩,fun p hp=>?_⟩
  obtain⟨a2,c2,rfl⟩:=s1.form
  obtain⟨i,hi⟩:=List.mem_iff_getElem?.1 hp
  obtain⟨_,_,_,_,_,_,_,h8⟩:=s1.at hi
  exact h8
end
open Go.GL
def bfV (rows:List (List Int)) (i:Nat) (v:Int):Int:=((rows[i]?.getD [])[v.toNat]?).getD (-1)
structure Shp (rows:List (List Int)) (N nv:Nat):Prop where
 len:rows.length=N
 row:∀ r ∈ rows,r.length=nv
def zem (rows:List (List Int)) (i v:Nat) (x:Int):List (List Int):=rows.set i ((rows[i]?.getD []).set v x)
theorem zgk {rows:List (List Int)} {i:Nat} {r:List Int} {v:Nat} {x:Int} (hr:rows[i]?=some r) (hx:r[v]?=some x):bfV rows i (v:Int)=x:=by unfold bfV;rw [hr,Option.getD_some,zoF,hx];rfl
theorem Shp.at {rows:List (List Int)} {N nv:Nat} (h:Shp rows N nv) {i:Nat} (hi:i<N):∃ r,rows[i]?=some r/\r.length=nv:=by
 have hl:=h.len
 exact⟨_,zoj (show i<rows.length by omega),h.row _ (List.getElem_mem _)⟩
theorem Shp.set {rows:List (List Int)} {N nv:Nat} (h:Shp rows N nv) {i v:Nat} (hi:i<N) (x:Int):Shp (zem rows i v x) N nv:=by
 obtain⟨r,hr,hl⟩:=h.at hi
 refine⟨by unfold zem;rw [List.length_set];exact h.len,fun q hq=>?_⟩
 unfold zem at hq
 rcases List.mem_or_eq_of_mem_set hq with hq | rfl
 . exact h.row q hq
 . rw [hr,Option.getD_some,List.length_set];exact hl
theorem ziE {rows:List (List Int)} {N nv:Nat} (h:Shp rows N nv) {i v:Nat} (hi:i<N) (hv:v<nv) (x:Int) {j:Nat} {u:Int} (hu:0<=u):bfV (zem rows i v x) j u=zh2 (bfV rows) i (v:Int) x j u:=by
 obtain⟨r,hr,hl⟩:=h.at hi
 unfold bfV zem zh2
 rw [hr,Option.getD_some]
 by_cases e:j=i
 ·
  subst e
  have hlt:=(zox.1 hr).1
  rw [List.getElem?_set_self hlt,Option.getD_some]
  by_cases e2:u=(v:Int)
  . rw [zou ⟨rfl,e2⟩,e2,zoF,List.getElem?_set_self (by omega)];rfl
  ·
   rw [zot (fun h=>e2 h.2),List.getElem?_set_ne (by omega)]
   show _=((rows[j]?.getD [])[u.toNat]?).getD (-1)
   rw [hr];rfl
 . rw [List.getElem?_set_ne (fun h=>e h.symm),zot (fun h=>e h.1)]
section
variable {f:Fl} {g:List Nd} {s:Sf} {nv:Nat}
theorem zhU {B C:Nat->Int->Int} {v:Int} (h:∀ y,y<g.length->B y v=C y v) {i:Nat}:eqV g s (yP f g s B) i v=eqV g s (yP f g s C) i v:=by
 unfold eqV
 split
 . rfl
 ·
  split
  . rfl
  ·
   congr 1
   refine List.map_congr_left fun y hy=>?_
   unfold yP
   rw [h y (qp hy)]
theorem RunV.congr {B C:Nat->Int->Int} (h:RunV f g s nv B) (he:∀ i,i<g.length->∀ v:Int,0<=v->v<(nv:Int)->B i v=C i v):RunV f g s nv C :=
 ⟨fun i hi v hv hn=>he i hi v hv hn ▸ h.snd i hi v hv hn,fun i hi v hv hn=>by
  rw [<- he i hi v hv hn,<- zhU fun y hy=>he y hy v hv hn]
  exact h.le i hi v hv hn⟩
end
def rkR (r:List Int):Nat:=(r.map zb0).sum
def rkT (rows:List (List Int)):Nat:=(rows.map rkR).sum
theorem zen {l:List Nat} {i:Nat} {x y:Nat} (h:l[i]?=some x):(l.set i y).sum+x=l.sum+y:=by
 induction l generalizing i with
 | nil=>simp at h
 | cons z l ih =>
  cases i with
  | zero=>simp at h;subst h;simp;omega
  | succ i =>
   have:=ih (i:=i) (by simpa using h)
   simp only [List.set_cons_succ,List.sum_cons]
   omega
theorem zjQ {rows:List (List Int)} {i v:Nat} {r:List Int} {old x:Int} (hr:rows[i]?=some r) (ho:r[v]?=some old):rkT (zem rows i v x)+zb0 old=rkT rows+zb0 x:=by
 have h1:rkR (r.set v x)+zb0 old=rkR r+zb0 x:=by
  unfold rkR
  rw [List.map_set]
  exact zen (by rw [zoA,ho];rfl)
 have h2:rkT (zem rows i v x)+rkR r=rkT rows+rkR (r.set v x):=by
  unfold rkT zem
  rw [hr,Option.getD_some,List.map_set]
  exact zen (by rw [zoA,hr];rfl)
 omega
theorem zgl {l:List Nat} {b:Nat} (h:∀ x ∈ l,x<=b):l.sum<=l.length*b:=by
 induction l with
 | nil=>simp
 | cons x l ih =>
  have h1:=h x (zon ..)
  have h2:=ih fun y hy=>h y (zom _ hy)
  rw [List.sum_cons,zoM,Nat.succ_mul]
  omega
theorem zki {rows:List (List Int)} {N nv:Nat} (h:Shp rows N nv):rkT rows<=N*(nv*2):=by
 unfold rkT
 have:=zgl (l:=rows.map rkR) (b:=nv*2) fun x hx=>by
  obtain⟨r,hr,rfl⟩:=List.mem_map.1 hx
  have:=zgl (l:=r.map zb0) (b:=2) fun y hy=>by
   obtain⟨z,_,rfl⟩:=List.mem_map.1 hy
   exact zj5 z
  rw [zoD,h.row r hr] at this
  exact this
 rw [zoD,h.len] at this
 exact this
structure PassV (f:Fl) (g:List Nd) (s:Sf) (nv:Nat) (rows0 rows:List (List Int)) (ch:Bool) (dn:Nat->Nat->Prop):Prop where
 shp:Shp rows g.length nv
 run:RunV f g s nv (bfV rows)
 no:ch=false->rows=rows0/\∀ i v,dn i v->bfV rows0 i (v:Int)=-2\/eqV g s (yP f g s (bfV rows0)) i v=bfV rows0 i v\/eqV g s (yP f g s (bfV rows0)) i v=-1
 yes:ch=true->rkT rows0<rkT rows
section
variable {f:Fl} {g:List Nd} {s:Sf} {nv:Nat} {rows0 rows:List (List Int)} {ch:Bool} {dn dn':Nat->Nat->Prop}
theorem PassV.imp (h:PassV f g s nv rows0 rows ch dn) (hd:∀ i v,dn' i v->dn i v):PassV f g s nv rows0 rows ch dn':=⟨h.shp,h.run,fun e=>⟨(h.no e).1,fun i v hv=>(h.no e).2 i v (hd i v hv)⟩,h.yes⟩
theorem znA (h1:Shp rows g.length nv) (h2:RunV f g s nv (bfV rows)) (hd:∀ i v,¬ dn i v):PassV f g s nv rows rows false dn:=⟨h1,h2,fun _=>⟨rfl,fun i v h=>absurd h (hd i v)⟩,fun h=>by cases h⟩
theorem PassV.skip (h:PassV f g s nv rows0 rows ch dn) {i v:Nat} (hs:bfV rows i (v:Int)=-2\/eqV g s (yP f g s (bfV rows)) i v=bfV rows i v\/eqV g s (yP f g s (bfV rows)) i v=-1) (hd:∀ j u,dn' j u->dn j u\/(j=i/\u=v)):PassV f g s nv rows0 rows ch dn' :=
 ⟨h.shp,h.run,fun e=>by
  obtain⟨h1,h2⟩:=h.no e
  refine⟨h1,fun j u hju=>?_⟩
  rcases hd j u hju with h3 | ⟨rfl,rfl⟩
  . exact h2 j u h3
  ·
   rw [<- h1];exact hs,h.yes⟩
theorem PassV.set (hs:NnS f g s) (h:PassV f g s nv rows0 rows ch dn) {i v:Nat} (hi:i<g.length) (hv:v<nv) (hn:eqV g s (yP f g s (bfV rows)) i v ≠ bfV rows i v):PassV f g s nv rows0 (zem rows i v (eqV g s (yP f g s (bfV rows)) i v)) true dn':=by
 obtain⟨r,hr,hl⟩:=h.shp.at hi
 have ho:=zoj (show v<r.length by omega)
 have hb:=zgk hr ho
 have hle:=h.run.le i hi (v:Int) (by omega) (by omega)
 have hrk:=zj4 hle hn
 have h1:=zjQ (x:=eqV g s (yP f g s (bfV rows)) i v) hr ho
 rw [<- hb] at h1
 refine⟨h.shp.set hi _,(h.run.next hs hi (v:=(v:Int)) (by omega) (by omega)).congr fun j _ u hu _=>(ziE h.shp hi hv _ hu).symm,fun e=>(by cases e),fun _=>?_⟩
 cases ch with
 | false=>rw [<- (h.no rfl).1];omega
 | true=>have:=h.yes rfl;omega
theorem PassV.done (h:PassV f g s nv rows0 rows false dn) (hd:∀ i v,1<=i->i<g.length->v<nv->dn i v) (h0:∀ v:Int,0<=v->v<(nv:Int)->bfV rows 0 v=v):SolV f g s nv (bfV rows):=by
 refine h.run.done fun i hi v hv hn=>?_
 obtain⟨h1,h2⟩:=h.no rfl
 by_cases e:i=0
 ·
  subst e
  exact .inr (.inl (by rw [h0 v hv hn];unfold eqV;rw [zou rfl]))
 ·
  have:=h2 i v.toNat (hd i v.toNat (by omega) hi (by omega))
  rw [Int.toNat_of_nonneg hv,<- h1] at this
  exact this
end
open Go.GL
theorem zbA (f:Fl) (g:List Nd) (s:Sf) (hk:GOk f g) (hlen:s.nodes.length=g.length) (rows:List (List Int)) (nv:Nat) (hsh:Shp rows g.length nv) (i v:Nat) (hi:i<g.length) (hv:v<nv) (b gb:Nat) (ofv nodv bv dv:Value) (D D' Db:Nat->Prop) (W:World) (hc:Cells W b 0 (chk gb ofv nodv bv dv)) (hS:RSf D W s ofv nodv) (hG:GrO D' W f g gb) (hr:SlR 1 (RSl 1 yj) Db W bv rows) :
  Calls Tryz.prog 84 #[.pointer (some ⟨b,0,none⟩),.int .i64 i,.int .i64 v] W (Ret fun r w'=>r=.int .i64 (yP f g s (bfV rows) i v)/\Ext W w'):=by
 have hnd:=hS.nodes
 have hnm:=hnd.max
 have hrm:=hr.max
 have hrl:=hsh.len
 obtain⟨an,cn,rfl⟩:=hnd.form
 obtain⟨ar,cr,rfl⟩:=hr.form
 refine zmw Tryz.func84 O Tryz.ntmps84 O (zmE ?_)
 refine znb 900 0 O O (fun h=>h) hc ?_
 refine zmL 0 900 0 O O ?_
 refine Vs 13 O ?_
 refine zmZ Tryz.call79 O (fun w hI=>zb2 f g hk i hi gb D' w (Tr1 hI.k0 hG)) ?_
 refine Vs 4 O ?_
 refine zkG O (fun d0=>?_) (fun d0=>?_)
 ·
  refine Vs 8 O ?_
  obtain⟨x,he_x,hm_x⟩:=gE_ s.nodes (i) (by omega)
  obtain⟨b_x,o_x,c_x,ha_x,_,hc_x,hR_x⟩:=hnd.at he_x
  obtain⟨v1_x,v2_x,rfl,hp_x,hu_x⟩:=hR_x
  obtain⟨a1_x,n1_x,rfl⟩:=hp_x.form
  obtain⟨a2_x,n2_x,rfl⟩:=hu_x.form
  refine zna 1000 0 O O hc_x ?_
  refine zmN 1000 tR28 ts59 O ha_x (by omega) (_) (rfl) O ?_
  refine Vs 7 O ?_
  refine zkW Tryz.results84 O (fun w hI=>⟨_,rfl,by unfold yP;rw [zou d0,yO he_x],hI.k0⟩)
 ·
  refine Vs 9 O ?_
  obtain⟨r,he_r,hm_r⟩:=gE_ rows (i) (by omega)
  obtain⟨b_r,o_r,c_r,ha_r,_,hc_r,hR_r⟩:=hr.at he_r
  obtain⟨v1_r,rfl,hs_r⟩:=hR_r
  obtain⟨a1_r,n1_r,rfl⟩:=hs_r.form
  refine zna 2000 0 O O hc_r ?_
  refine zmN 2000 tR89 ts27 O ha_r (by omega) (_) (rfl) O ?_
  have hrn:=hsh.row r hm_r
  refine Vs 2 O ?_
  obtain⟨y,he_y,hm_y⟩:=gE_ r (v) (by omega)
  obtain⟨b_y,o_y,c_y,ha_y,_,hc_y,hR_y⟩:=hs_r.at he_y
  obtain rfl:=hR_y
  refine zna 3000 0 O O hc_y ?_
  refine zmN 3000 tR27 ts3 O ha_y (by omega) (_) (rfl) O ?_
  refine Vs 5 O ?_
  refine zkW Tryz.results84 O (fun w hI=>⟨_,rfl,by unfold yP;rw [zot d0,zgk he_r he_y],hI.k0⟩)
theorem zje {l:List Phn} {v:Int} {k:Nat} {p:Phn} (h:∀ (j:Nat) q,j<k->l[j]?=some q->q.var ≠ v) (hp:l[k]?=some p) (hv:p.var=v):zh1 l v=some p.ver:=by
 unfold zh1
 induction l generalizing k with
 | nil=>simp at hp
 | cons q l ih =>
  cases k with
  | zero =>
   simp at hp
   subst hp
   rw [List.find?_cons_of_pos (by simpa using hv)];rfl
  | succ k =>
   have:=h 0 q (by omega) rfl
   rw [List.find?_cons_of_neg (by simpa using this)]
   exact ih (k:=k) (fun j q' hj hq=>h (j+1) q' (by omega) (by simpa using hq)) (by simpa using hp)
theorem zhV {l:List Phn} {v:Int} (h:∀ (j:Nat) q,l[j]?=some q->q.var ≠ v):zh1 l v=none:=by
 unfold zh1
 rw [Option.map_eq_none_iff,List.find?_eq_none]
 intro p hp e
 obtain⟨j,hj⟩:=List.mem_iff_getElem?.1 hp
 exact h j p hj (by simpa using e)
theorem zd2 {g:List Nd} {i j:Nat} {y:Int} (h:(zca g i)[j]?=some y):∃ n:Nat,y=(n:Int)/\(qa g i)[j]?=some n/\n<g.length:=by
 unfold zca at h
 rw [zoA] at h
 obtain⟨n,hn,rfl⟩:=Option.map_eq_some_iff.1 h
 exact⟨n,rfl,hn,qp (zok hn)⟩
theorem zhW (f:Fl) (g:List Nd) (s:Sf) (hk:GOk f g) (hlen:s.nodes.length=g.length) (rows:List (List Int)) (nv:Nat) (hsh:Shp rows g.length nv) (i v:Nat) (hi:i<g.length) (h0:i ≠ 0) (hv:v<nv) (b gb:Nat) (ofv nodv bv dv:Value) (D D' Db:Nat->Prop) (W:World) (hc:Cells W b 0 (chk gb ofv nodv bv dv)) (hS:RSf D W s ofv nodv) (hG:GrO D' W f g gb) (hr:SlR 1 (RSl 1 yj) Db W bv rows) :
  Calls Tryz.prog 83 #[.pointer (some ⟨b,0,none⟩),.int .i64 i,.int .i64 v] W (Ret fun r w'=>r=.int .i64 (eqV g s (yP f g s (bfV rows)) i v)/\Ext W w'):=by
 have hG0:=hG
 obtain⟨v1,v2,v3,gv,sv,pv,hD,hcell,hf,hg,hs,hpr⟩:=hG0
 obtain⟨apr,cpr,rfl⟩:=hpr.form
 have hprl:(zdI g).length=g.length:=by simp [zdI]
 have hprm:=hpr.max
 have hS0:=hS
 have hnd:=hS.nodes
 have hnm:=hnd.max
 obtain⟨an,cn,rfl⟩:=hnd.form
 refine zmw Tryz.func83 O Tryz.ntmps83 O (zmE ?_)
 refine znb 900 0 O O (fun h=>h) hc ?_
 refine znb 901 0 O O (fun h=>h) hcell ?_
 refine zmL 0 900 0 O O ?_
 refine Vs 14 O ?_
 obtain⟨x,he_x,hm_x⟩:=gE_ s.nodes (i) (by omega)
 obtain⟨b_x,o_x,c_x,ha_x,_,hc_x,hR_x⟩:=hnd.at he_x
 obtain⟨v1_x,v2_x,rfl,hp_x,hu_x⟩:=hR_x
 obtain⟨a1_x,n1_x,rfl⟩:=hp_x.form
 obtain⟨a2_x,n2_x,rfl⟩:=hu_x.form
 refine zna 1000 0 O O hc_x ?_
 refine zmN 1000 tR28 ts59 O ha_x (by omega) (_) (rfl) O ?_
 have hpm:=hp_x.max
 have hxn:zk s i=x:=yO he_x
 refine Vs 7 O ?_
 refine znd (σ:=Nat) [0,1,2,21,22] [900,901] [0] O (fun e k=>(23,.int .i64 k)::e) (fun e k=>e) (fun k=>k<=x.phis.length/\∀ (j:Nat) q,j<k->x.phis[j]?=some q->q.var ≠ (v:Int)) (fun k=>x.phis.length - k) (0) (Sub.of O) (Has.of O) (fun _=>rfl) (fun _=>rfl) (fun _=>rfl) (⟨zoy _,fun j q h=>absurd h (Nat.not_lt_zero _)⟩) ?_
 rintro k ⟨hkk,hall⟩
 refine Vs 6 O ?_
 refine zkG O (fun lt=>?_) (fun lt=>?_)
 ·
  refine Vs 6 O ?_
  obtain⟨p,he_p,hm_p⟩:=gE_ x.phis (k) (by omega)
  obtain⟨b_p,o_p,c_p,ha_p,_,hc_p,hR_p⟩:=hp_x.at he_p
  obtain⟨v1_p,v2_p,rfl,hf_p,hg_p⟩:=hR_p
  obtain⟨a1_p,n1_p,rfl⟩:=hf_p.form
  obtain⟨a2_p,n2_p,rfl⟩:=hg_p.form
  refine zna 2000 0 O O hc_p ?_
  refine zmN 2000 tR56 ts88 O ha_p (by omega) (_) (rfl) O ?_
  refine Vs 1 O ?_
  refine V.alloc 8 tz88 O O (fun b8=>?_)
  refine Vs 11 O ?_
  refine zkG O (fun e0=>?_) (fun e0=>?_)
  ·
   refine Vs 13 O ?_
   refine zkW Tryz.results83 O (fun w hI=>⟨_,rfl,by unfold eqV zfj;rw [zot h0,hxn,zje hall he_p e0],hI.k0⟩)
  ·
   have hnx:=xe hall he_p e0
   refine Va 7 O (by omega) ?_
   refine V.back (k+1) (Sub.of O) (Has.of O) (⟨by omega,hnx⟩) (by first | omega | (dsimp only;omega)) 0 O O
 ·
  obtain rfl:k=x.phis.length:=by omega
  have hno:zfj s i v=none:=by unfold zfj;rw [hxn];exact zhV (jX hall)
  refine Vs 17 O ?_
  refine zmL 37 901 0 O O ?_
  refine Vs 4 O ?_
  obtain⟨pr,he_pr,hm_pr⟩:=gE_ (zdI g) (i) (by omega)
  obtain⟨b_pr,o_pr,c_pr,ha_pr,_,hc_pr,hR_pr⟩:=hpr.at he_pr
  obtain⟨v1_pr,rfl,hs_pr⟩:=hR_pr
  obtain⟨a1_pr,n1_pr,rfl⟩:=hs_pr.form
  refine zna 3000 0 O O hc_pr ?_
  refine zmN 3000 tR89 ts27 O ha_pr (by omega) (_) (rfl) O ?_
  have hprd:pr=zca g i:=by rw [zei hi] at he_pr;exact (Option.some.inj he_pr).symm
  have hprn:pr.length=(qa g i).length:=by rw [hprd];simp [zca]
  have hpnm:=hs_pr.max
  refine Vs 6 O ?_
  refine znd (σ:=Nat) [0,2,43,44] [900,901] [0] O (fun e j=>(45,.int .i64 j)::(9,.int .i64 (kW (((qa g i).take j).map fun y:Nat=>yP f g s (bfV rows) y v)))::e) (fun e j=>e) (fun j=>j<=pr.length) (fun j=>pr.length - j) (0) (Sub.of O) (Has.of O) (fun _=>rfl) (fun _=>rfl) (fun _=>rfl) (zoy _) ?_
  rintro j hj
  refine Vs 6 O ?_
  refine zkG O (fun lj=>?_) (fun lj=>?_)
  ·
   refine Vs 6 O ?_
   obtain⟨y,he_y,hm_y⟩:=gE_ pr (j) (by omega)
   obtain⟨b_y,o_y,c_y,ha_y,_,hc_y,hR_y⟩:=hs_pr.at he_y
   obtain rfl:=hR_y
   refine zna 4000 0 O O hc_y ?_
   refine zmN 4000 tR27 ts3 O ha_y (by omega) (_) (rfl) O ?_
   obtain⟨n,rfl,hn1,hn2⟩:=zd2 (hprd ▸ he_y)
   have hnx:kW (((qa g i).take (j+1)).map fun y:Nat=>yP f g s (bfV rows) y v)=xK (kW (((qa g i).take j).map fun y:Nat=>yP f g s (bfV rows) y v)) (yP f g s (bfV rows) n v):=by rw [zd hn1,List.map_append,List.map_singleton,zg2]
   generalize kW (((qa g i).take j).map fun y:Nat=>yP f g s (bfV rows) y v)=ac at *
   refine Vs 9 O ?_
   refine zmZ Tryz.call84 O (fun w hI=>zbA f g s hk hlen rows nv hsh n v hn2 hv b gb _ _ _ _ D D' Db w (Tr1 hI.k0 hc) (Tr1 hI.k0 hS0) (Tr1 hI.k0 hG) (Tr1 hI.k0 hr)) ?_
   generalize yP f g s (bfV rows) n v=bb at *
   refine Vs 3 O ?_
   refine zne (σ:=Unit) [0,2,43,44,45] [900,901] [0] O (fun e u=>(9,.int .i64 (xK ac bb))::e) (fun e u=>e) (fun u=>True) (fun _=>rfl) (fun _=>rfl) ?_ ?_
   ·
    refine Vs 6 O ?_
    refine V.sp 56 O (fun e1=>?_) (fun e1=>?_)
    ·
     refine Vs 10 O ?_
     refine zkT (()) (Sub.cons (by unfold xK;rw [zou (.inl e1)];rfl) (Sub.of O)) (Has.of O) (True.intro) 0 O O
    ·
     refine Vs 7 O ?_
     refine zkG O (fun e2=>?_) (fun e2=>?_)
     ·
      refine Vs 2 O ?_
      refine zkT (()) (Sub.cons (by unfold xK;rw [zou (.inr e2)];rfl) (Sub.of O)) (Has.of O) (True.intro) 0 O O
     ·
      refine Vs 7 O ?_
      refine zkG O (fun e3=>?_) (fun e3=>?_)
      ·
       refine Vs 5 O ?_
       refine zkT (()) (Sub.cons (by unfold xK;rw [zot (fun h=>h.elim e1 e2),zou e3];rfl) (Sub.of O)) (Has.of O) (True.intro) 0 O O
      ·
       refine Vs 4 O ?_
       refine zkT (()) (Sub.cons (by unfold xK;rw [zot (fun h=>h.elim e1 e2),zot e3];rfl) (Sub.of O)) (Has.of O) (True.intro) 0 O O
   rintro u -
   refine Va 6 O (by omega) ?_
   refine V.back (j+1) (Sub.cons (rfl) (Sub.cons (by rw [hnx];rfl) (Sub.of O))) (Has.of O) (by omega) (by omega) 0 O O
  ·
   obtain rfl:j=pr.length:=by omega
   refine Vs 12 O ?_
   refine zkW Tryz.results83 O (fun w hI=>⟨_,rfl,by unfold eqV;rw [zot h0,hno,hprn,zoo],hI.k0⟩)
end Go.Proofs.YtckdhgbepmpgiaaGreat
namespace Go.GL
theorem RowsOk.add {α:Type} {enc:α->Value} {e:TypeId} {w:World} {rv:List Value} {rows:List (List α)} {u:Value} {r:List α} (h:RowsOk enc e w rv rows) (hu:w.ownsRow 0 e 1 u r.length (r.map enc)) (hap:∀ g,u.ownBlock=some g->∀ (i:Nat) v,rv[i]?=some v->v.ownBlock ≠ some g):RowsOk enc e w (rv++[u]) (rows++[r]):=by
 have hlen:=h.len
 have hat:∀ (i:Nat) (v:Value),(rv++[u])[i]?=some v->(i<rv.length/\rv[i]?=some v)\/(i=rv.length/\v=u):=fun i v hv=>by
  by_cases hi:i<rv.length
  . rw [zoJ hi] at hv;exact .inl ⟨hi,hv⟩
  ·
   have hl:=(zox.1 hv).1
   rw [zor,zoE] at hl
   obtain rfl:i=rv.length:=by omega
   rw [zoK (by omega),Nat.sub_self] at hv
   exact .inr ⟨rfl,by simpa using hv.symm⟩
 refine⟨by rw [zor,zor,hlen];rfl,fun i v r' hv hr=>?_,fun i j vi vj g hij hi hj hg=>?_⟩
 ·
  rcases hat i v hv with⟨h1,h2⟩ | ⟨rfl,rfl⟩
  ·
   rw [zoJ (by omega)] at hr
   exact h.row i v r' h2 hr
  ·
   rw [hlen,zoK (by omega),Nat.sub_self] at hr
   obtain rfl:r=r':=by simpa using hr
   exact hu
 ·
  rcases hat i vi hi with⟨h1,h2⟩ | ⟨rfl,rfl⟩
  ·
   rcases hat j vj hj with⟨h3,h4⟩ | ⟨rfl,rfl⟩
   . exact h.apart i j vi vj g hij h2 h4 hg
   . exact fun hg2=>hap g hg2 i vi h2 hg
  ·
   rcases hat j vj hj with⟨h3,h4⟩ | ⟨rfl,rfl⟩
   . exact fun hg2=>hap g hg j vj h4 hg2
   . exact absurd O hij
theorem RowsOk.nil {α:Type} {enc:α->Value} {e:TypeId} {w:World}:RowsOk enc e w [] ([]:List (List α)):=⟨rfl,fun i v r h=>by simp at h,fun i j vi vj g _ h=>by simp at h⟩
theorem zhX {α:Type} {l:List α} {i:Nat} {x:α} (h:l[i]?=some x):l.set i x=l:=by
 apply List.ext_getElem?
 intro j
 rw [List.getElem?_set]
 by_cases e:i=j
 ·
  subst e
  rw [zou rfl,zou (zox.1 h).1,h]
 . rw [zot e]
section
variable {P:Program} {env:Env} {w:World} {dst:Option Tmp} {ty:TypeId} {pos:String} {aft:Array Edge} {g0:Option (Nat × Bool)}
variable {α:Type} {enc:α->Value} {e:TypeId} {rv:List Value} {rows:List (List α)} {p j g m c:Nat} {r:List α} {a:α}
theorem zgm (hR:RowsOk enc e w rv rows) {v:Value} (hv:rv[p]?=some v) (hr:rows[p]?=some r):∃ ao c,v=.slice ao r.length c/\(0<r.length->∃ g,ao=some ⟨g,0,none⟩):=by
 have h:=hR.row p v r hv hr
 rcases h.2 with⟨rfl,h0⟩ | ⟨g,cap,cur,rfl,_⟩
 . rw [h0];exact⟨_,_,rfl,fun h=>by omega⟩
 . exact⟨_,_,rfl,fun _=>⟨_,rfl⟩⟩
theorem zgn (hR:RowsOk enc e w rv rows) (hv:rv[p]?=some (.slice (some ⟨g,0,none⟩) m c)) (hr:rows[p]?=some r) (ha:r[j]?=some a):w.cell? ⟨g,0+(j:Int).toNat*1,none⟩=some (enc a):=by
 have h:=hR.row p _ r hv hr
 obtain⟨ao,c',he⟩:=xL h
 simp only [Value.slice.injEq] at he
 obtain⟨_,rfl,_⟩:=he
 have:=(qQ h).2.2 j (enc a) (by rw [zoA,ha];rfl)
 simpa using this
theorem znY {tl:TypeId} {x y:Operand} (hs:∀ w,(sizeOf tl).run P w=.ok 1 w) (hR:RowsOk enc e w rv rows) (hv:rv[p]?=some (.slice (some ⟨g,0,none⟩) m c)) (hr:rows[p]?=some r) (hj:j<r.length) (h1:one (enc a)=true) (hx:ev env x=some (.pointer (some ⟨g,0+(j:Int).toNat*1,none⟩))) (hy:ev env y=some (enc a)) :
  xB P ⟨dst,.store tl x y,ty,pos,aft,g0⟩ env w (fun w'=>RowsOk enc e w' rv (rows.set p (r.set j a))/\Keep (fun q=>∃ (i:Nat) (v:Value),rv[i]?=some v/\v.ownBlock=some q) w w'/\∀ q,(∃ (i:Nat) (v:Value),rv[i]?=some v/\v.ownBlock=some q)->((∃ (i:Nat) (v:Value),rv[i]?=some v/\v.ownBlock=some q)\/w.heap.size<=q)/\q<w'.heap.size):=by
 have ho:=hR.row p _ r hv hr
 obtain⟨ao,c',he⟩:=xL ho
 simp only [Value.slice.injEq] at he
 obtain⟨_,rfl,_⟩:=he
 obtain⟨sp,hB,hc,hcm,hlen⟩:=qz ho
 have hj0:0+(j:Int).toNat*1=j:=by simp
 rw [hj0] at hx
 obtain⟨h6,h7⟩:=xu h1
 obtain⟨w',hrun,hsz,hB',hk⟩:=M.store (dst:=dst) (ty:=ty) (pos:=pos) (aft:=aft) (g:=g0) hs hx hy h6 h7 hB (by rw [zor,zoD];omega)
 have hown:w'.ownsRow 0 e 1 (.slice (some ⟨g,0,none⟩) r.length c) (r.set j a).length ((r.set j a).map enc):=by
  have:=ym (k:=1) (n:=r.length) (cap:=c) hB' hc hcm (by rw [List.length_set];exact hlen)
  rw [List.set_append_left _ _ (by rw [zoD];exact hj),Nat.mul_one,List.take_append_of_le_length (by rw [List.length_set,zoD];omega),List.take_of_length_le (by rw [List.length_set,zoD];omega)] at this
  rw [List.length_set,List.map_set]
  exact this
 have hin:∃ (i:Nat) (v:Value),rv[i]?=some v/\v.ownBlock=some g:=⟨p,_,hv,rfl⟩
 have hput:=hR.put hv hown (.inl rfl) (hk.mono fun q _ hq=>by have hq:q=g:=hq;subst hq;exact rfl)
 rw [zhX hv] at hput
 refine⟨w',hrun,hput,hk.mono fun q _ hq=>by have hq:q=g:=hq;subst hq;exact hin,fun q hq=>⟨.inl hq,?_⟩⟩
 obtain⟨i,v,h8,h9⟩:=hq
 exact Nat.lt_of_lt_of_le (hR.blk h8 h9) hk.size
end
theorem zjR {rv:List Value} {u:Value} {q:Nat} (hq:∃ (i:Nat) (v:Value),(rv++[u])[i]?=some v/\v.ownBlock=some q):(∃ (i:Nat) (v:Value),rv[i]?=some v/\v.ownBlock=some q)\/u.ownBlock=some q:=by
 obtain⟨i,v,h1,h2⟩:=hq
 by_cases hi:i<rv.length
 . exact .inl ⟨i,v,by rwa [zoJ hi] at h1,h2⟩
 ·
  have hl:=(zox.1 h1).1
  rw [zor,zoE] at hl
  rw [zoK (by omega),show i - rv.length=0 by omega] at h1
  have h3:u=v:=Option.some.inj h1
  exact .inr (h3 ▸ h2)
end Go.GL
namespace Go.Proofs.YtckdhgbepmpgiaaGreat
open Go.GL
theorem zhY {e:TypeId} {w:World} {rv:List Value} {rows:List (List Int)} {p:Nat} {v:Value} {r:List Int} (h:RowsOk zc e w rv rows) (hv:rv[p]?=some v) (hr:rows[p]?=some r):SlR 1 yj (fun _=>True) w v r:=zlM zc (fun _ _=>rfl) (h.row p v r hv hr) (fun _ _=>trivial)
theorem zdL {w:World} {v:Value} {rv:List Value} {rows:List (List Int)} {D:Nat->Prop} (h1:w.ownsRow 0 27 1 v rows.length rv) (h2:RowsOk zc 3 w rv rows) (hD1:∀ g,v.ownBlock=some g->D g) (hD2:∀ (i:Nat) u g,rv[i]?=some u->u.ownBlock=some g->D g):SlR 1 (RSl 1 yj) D w v rows:=by
 have:OwnR 27 1 (RSl 1 yj) D w v rows:=⟨rv,h1,fun i x hx=>by
  have hlen:=h2.len
  have hl:=(zox.1 hx).1
  obtain⟨u,hu⟩:∃ u,rv[i]?=some u:=⟨_,zoj (by omega)⟩
  have hd:(rv.drop (i*1)).take 1=[u]:=by rw [Nat.mul_one,zhH hu];rfl
  rw [hd]
  exact⟨u,rfl,zlM zc (fun _ _=>rfl) (h2.row i u x hu hx) (fun g hg=>hD2 i u g hu hg)⟩⟩
 exact this.sl (by decide) (xU ze) (fun q h=>h) hD1
def zbB (f:Fl) (g:List Nd) (s:Sf):Prop:=(∀ (n:Nat) x,s.nodes[n]?=some x->∀ u ∈ x.uses,inV f g s n u.1=u.2)/\∀ (n:Nat) x,s.nodes[n]?=some x->∀ p ∈ x.phis,∀ (i:Nat) y a,p.frm[i]?=some y->p.args[i]?=some a->za9 f g s y.toNat p.var=a
def zdh (nv i:Nat):List Int:=(List.range nv).map fun v:Nat=>if i=0 then (v:Int) else -1
def rows0 (nv N:Nat):List (List Int):=(List.range N).map (zdh nv)
theorem zac (nv i:Nat):(zdh nv i).length=nv:=by simp [zdh]
theorem zd3 (nv N:Nat):Shp (rows0 nv N) N nv:=⟨by simp [rows0],fun r hr=>by obtain⟨i,_,rfl⟩:=List.mem_map.1 hr;exact zac nv i⟩
theorem zd4 {nv N i:Nat} (h:i<N):(rows0 nv N)[i]?=some (zdh nv i):=by unfold rows0;rw [zoA,List.getElem?_range h];rfl
theorem zeo {nv N i:Nat} {v:Int} (hi:i<N) (h0:0<=v) (hv:v<(nv:Int)):bfV (rows0 nv N) i v=if i=0 then v else -1:=by
 obtain⟨n,rfl⟩:=Int.eq_ofNat_of_zero_le h0
 refine zgk (zd4 hi) ?_
 unfold zdh
 rw [zoA,List.getElem?_range (by omega)]
 rfl
theorem zgo (f:Fl) (g:List Nd) (s:Sf) (nv:Nat):RunV f g s nv (bfV (rows0 nv g.length)):=by
 have h:RunV f g s nv (fun i v=>if i=0 then v else -1):=znx fun i v=>rfl
 exact h.congr fun i hi v hv hn=>(zeo hi hv hn).symm
theorem zhZ {nv i k:Nat} (h:k<nv):((zdh nv i).take k++List.replicate (nv - k) 0).set k (if i=0 then (k:Int) else -1)=(zdh nv i).take (k+1)++List.replicate (nv - (k+1)) 0:=by
 have hg:(zdh nv i)[k]?=some (if i=0 then (k:Int) else -1):=by unfold zdh;rw [zoA,List.getElem?_range h];rfl
 rw [zd hg,List.set_append_right _ _ (by rw [zoN,zac];omega),zoN,zac,show k - min k nv=0 by omega,show nv - k=(nv - (k+1))+1 by omega,List.replicate_succ]
 simp
theorem zjS {f:Fl} {s:Sf} (h:OfF f s) {k:Nat} {v:Int} (hv:s.of_[k]?=some v):0<=v/\v<(f.vars.length:Int):=by
 by_cases hk:k<f.vars.length
 . have:=h.ini k v hv hk;omega
 ·
  obtain⟨h1,x,hx,_⟩:=h.new k v hv (by omega)
  have:=(zox.1 hx).1
  omega
theorem zce {f:Fl} {s:Sf} (h:OfF f s) {k v:Int} {b:Bool} (hv:zaa f s k v b):0<=v/\v<(f.vars.length:Int):=zjS h hv.2.1
def zkj (f:Fl) (g:List Nd) (s:Sf) (p:Phn):Prop:=∀ (m:Nat) y,p.frm[m]?=some y->∀ a,p.args[m]?=some a->za9 f g s y.toNat p.var=a
structure NodU (f:Fl) (g:List Nd) (s:Sf) (n:Nat) (x:Sn):Prop where
 use:∀ u ∈ x.uses,inV f g s n u.1=u.2
 arg:∀ p ∈ x.phis,zkj f g s p
theorem zgp {f:Fl} {g:List Nd} {s:Sf} (h:∀ (n:Nat) x,s.nodes[n]?=some x->NodU f g s n x):zbB f g s :=
 ⟨fun n x hx u hu=>(h n x hx).use u hu,fun n x hx p hp i y a hy ha=>(h n x hx).arg p hp i y hy a ha⟩
theorem zjf {f:Fl} {g:List Nd} {s:Sf} {B:Nat->Int->Int} {q:Nat} {v:Int} (h:B q v=inV f g s q v):yP f g s B q v=za9 f g s q v:=by
 unfold za9 yP
 rw [h]
theorem zdM (f:Fl) (g:List Nd) (s:Sf) (hk:GOk f g) (hlen:s.nodes.length=g.length) (rows:List (List Int)) (nv:Nat) (hsh:Shp rows g.length nv) (i:Nat) (v:Int) (hi:i<g.length) (h0:0<=v) (hv:v<(nv:Int)) (b gb:Nat) (ofv nodv bv dv:Value) (D D' Db:Nat->Prop) (W:World) (hc:Cells W b 0 (chk gb ofv nodv bv dv)) (hS:RSf D W s ofv nodv) (hG:GrO D' W f g gb) (hr:SlR 1 (RSl 1 yj) Db W bv rows) :
  Calls Tryz.prog 84 #[.pointer (some ⟨b,0,none⟩),.int .i64 i,.int .i64 v] W (Ret fun r w'=>r=.int .i64 (yP f g s (bfV rows) i v)/\Ext W w'):=by
 obtain⟨n,rfl⟩:=Int.eq_ofNat_of_zero_le h0
 exact zbA f g s hk hlen rows nv hsh i n hi (by omega) b gb ofv nodv bv dv D D' Db W hc hS hG hr
theorem zgq (f:Fl) (g:List Nd) (s:Sf) (hk:GOk f g) (hF:FormF f g s (rdV f g)) (hg1:1<=g.length) (hgl:g.length<=100000) (hvl:f.vars.length<=1000) (b gb:Nat) (ofv nodv dv:Value) (D:Nat->Prop) (W:World) (hB:(HE.own b (chk gb ofv nodv (.slice none 0 0) dv) 97).holds W) (hap:∀ q,D q->q<W.heap.size/\q ≠ b) (hS:RSf D W s ofv nodv) (hG:GrO D W f g gb) :
  Calls Tryz.prog 41 #[.pointer (some ⟨b,0,none⟩)] W (Ret fun r w'=>∃ x:Value × Bool,(r=.bool x.2/\(x.2=true ↔ zbB f g s))/\(HE.own b (chk gb ofv nodv x.1 dv) 97).holds w'/\Keep (HE.own b (chk gb ofv nodv (.slice none 0 0) dv) 97).S W w'/\∀ q,(HE.own b (chk gb ofv nodv x.1 dv) 97).S q->((HE.own b (chk gb ofv nodv (.slice none 0 0) dv) 97).S q\/W.heap.size<=q)/\q<w'.heap.size):=by
 have hG0:=hG
 obtain⟨v1,v2,v3,gv,sv,pv,hD,hcell,hf,hg,hs,hpr⟩:=hG0
 obtain⟨av,cv,rfl⟩:=hf.vars.form
 obtain⟨ag,cg,rfl⟩:=hg.form
 have hS0:=hS
 have hnd:=hS.nodes
 have hnm:=hnd.max
 obtain⟨an,cn,rfl⟩:=hnd.form
 have hlen:=hF.len
 have hnn:=hF.nn
 have haS:∀ q,(HE.own b (chk gb ofv (.slice an s.nodes.length cn) (.slice none 0 0) dv) 97).S q->¬ D q:=fun q h hd=>(hap q hd).2 h
 have hbl:g.length*(f.vars.length*2)<=100000*(1000*2):=Nat.mul_le_mul hgl (by omega)
 generalize hnv:f.vars.length=nv at *
 generalize hN:g.length=N at *
 refine zmu Tryz.func41 O Tryz.ntmps41 O (znG 900 (.own b [.pointer (some ⟨gb,0,none⟩),ofv,.slice an s.nodes.length cn,.slice none 0 0,dv] 97) (hB) trivial (fun _ h=>h) (fun q hq=>by have hq:q=b:=hq;subst hq;exact (show Blk W q _ _ from hB).lt) ?_)
 refine znb 901 0 O O (fun h=>(hap _ hD).2 h) hcell ?_
 refine zmL 0 900 0 O O ?_
 refine Vs 11 O ?_
 refine zmL 23 901 0 O O ?_
 refine Vs 15 O ?_
 refine zmL 32 901 0 O O ?_
 refine Vs 7 O ?_
 refine zmR 903 27 1 O ?_
 refine zmR 902 3 1 O ?_
 refine znH 902 (e':=RowsP zc 3 [] []) O (fun w hI=>RowsOk.nil) RowsP.loc (fun _ h=>h) (fun q hq=>by obtain⟨i,u,h,_⟩:=hq;simp at h) ?_
 refine Vs 1 O ?_
 refine znd (σ:=Nat × Value × List Value) [0,3,36] [901] [0] O (fun e ⟨i,u,hv⟩=>(37,.int .i64 i)::e) (fun e ⟨i,u,hv⟩=>(900,.own b [.pointer (some ⟨gb,0,none⟩),ofv,.slice an s.nodes.length cn,u,dv] 97)::(903,.row 27 1 u i hv)::(902,RowsP zc 3 hv ((rows0 nv N).take i))::e) (fun⟨i,u,hv⟩=>i<=N/\hv.length=i) (fun⟨i,u,hv⟩=>N - i) ((0,.slice none 0 0,[])) (Sub.of O) (Has.of O) (fun _=>rfl) (fun _=>rfl) (fun _=>rfl) (⟨zoy _,rfl⟩) ?_
 rintro⟨i,u,hv⟩ ⟨hi,hhv⟩
 show V _ _ _ _ _ ((37,.int .i64 i)::_) _ ((900,.own b [.pointer (some ⟨gb,0,none⟩),ofv,.slice an s.nodes.length cn,u,dv] 97)::(903,.row 27 1 u i hv)::(902,RowsP zc 3 hv ((rows0 nv N).take i))::_) _
 refine Vs 6 O ?_
 refine zkG O (fun lt=>?_) (fun lt=>?_)
 ·
  refine Vs 13 O ?_
  refine zlz 41 tu27 Tryz.el3 O (by omega) (by omega) (zs:=List.replicate nv (.int .i64 0)) (qw _ _ O) (by simp) (fun b41=>?_)
  refine znc 41 O (e':=.row 3 1 (.slice (some ⟨b41,0,none⟩) nv nv) nv (((zdh nv i).take 0++List.replicate (nv - 0) 0).map zc)) (by simp) ?_
  refine Vs 12 O ?_
  refine znd (σ:=Nat) [0,3,4,5,36,37,43] [900,901,902,903] [0] O (fun e k=>(44,.int .i64 k)::e) (fun e k=>(41,.row 3 1 (.slice (some ⟨b41,0,none⟩) nv nv) nv (((zdh nv i).take k++List.replicate (nv - k) 0).map zc))::e) (fun k=>k<=nv) (fun k=>nv - k) (0) (Sub.of O) (Has.of O) (fun _=>rfl) (fun _=>rfl) (fun _=>rfl) (zoy _) ?_
  rintro k hkk
  have hrl:=zac nv i
  refine Vs 6 O ?_
  refine zkG O (fun lk=>?_) (fun lk=>?_)
  ·
   have hst:=zhZ (i:=i) (show k<nv by omega)
   have hle:((zdh nv i).take k++List.replicate (nv - k) (0:Int)).length=nv:=by rw [zor,zoN,List.length_replicate,hrl];omega
   refine Va 15 O (by omega) ?_
   refine zmX 41 (k) ts3 O (by omega) (by rw [zoD,hle];omega) ?_
   refine Vs 3 O ?_
   refine zmF (p:=i=0) (fun z0=>?_) (fun z0=>?_)
   ·
    refine Vs 5 O ?_
    refine zkG O (fun z1=>?_) (fun z1=>?_)
    ·
     refine Va 5 O (by omega) ?_
     refine zmX 41 (k) ts3 O (by omega) (by rw [List.length_set,zoD,hle];omega) ?_
     rw [zou z0] at hst
     refine znc 41 O (e':=.row 3 1 (.slice (some ⟨b41,0,none⟩) nv nv) nv (((zdh nv i).take (k+1)++List.replicate (nv - (k+1)) 0).map zc)) (by rw [List.set_set,<- hst,List.map_set]) ?_
     refine Va 7 O (by omega) ?_
     refine V.back (k+1) (Sub.of O) (Has.of O) (by omega) (by first | omega | (dsimp only;omega)) 0 O O
    . omega
   ·
    refine Vs 5 O ?_
    refine zkG O (fun z1=>?_) (fun z1=>?_)
    . omega
    ·
     rw [zot z0] at hst
     refine znc 41 O (e':=.row 3 1 (.slice (some ⟨b41,0,none⟩) nv nv) nv (((zdh nv i).take (k+1)++List.replicate (nv - (k+1)) 0).map zc)) (by rw [<- hst,List.map_set]) ?_
     refine Va 7 O (by omega) ?_
     refine V.back (k+1) (Sub.of O) (Has.of O) (by omega) (by first | omega | (dsimp only;omega)) 0 O O
  ·
   obtain rfl:k=nv:=by omega
   refine znc 41 O (e':=.row 3 1 (.slice (some ⟨b41,0,none⟩) k k) (zdh k i).length ((zdh k i).map zc)) (by rw [List.take_of_length_le (by omega),Nat.sub_self,List.replicate_zero,List.append_nil,hrl]) ?_
   refine Vs 12 O ?_
   refine V.bs 63 [(0,_)] tR89 ts27 tz27 (by decide) O O (by kernel_rfl) (fun b63=>?_)
   refine zmS 903 63 tu89 Tryz.el27 O (by decide) O O (by omega) (by omega) (fun u903=>?_)
   refine Vs 2 O ?_
   refine zmU 903 O (by omega) ?_
   rintro ob oc rfl hcap_903
   refine Va 8 O (by omega) ?_
   refine znU 902 41 (e':=RowsP zc 3 (hv++[Value.slice (some ⟨b41,0,none⟩) k k]) ((rows0 k N).take (i+1))) [(0,some (900,0)),(57,some (900,0)),(58,some (900,0)),(59,some (900,0)),(60,some (900,3)),(65,some (900,0)),(66,some (900,3))] O O O (fun w hI=>(by rw [zd (zd4 (nv:=k) (show i<N by omega))];exact (show RowsOk _ _ _ _ _ from hI.at 902 O).add (hI.at 41 O) (fun g hg i v hv hvg=>hI.sep (k:=902) (k2:=41) O O (by decide) ⟨i,v,hv,hvg⟩ hg))) (RowsP.loc) (fun _ h=>h) (fun q (hq:∃ (i:Nat) (v:Value),(hv++[Value.slice (some ⟨b41,0,none⟩) k k])[i]?=some v/\v.ownBlock=some q)=>zjR hq) ?_
   refine V.back (⟨i+1,.slice (some ⟨ob,0,none⟩) (i+1) oc,hv++[.slice (some ⟨b41,0,none⟩) k k]⟩) (Sub.of O) (Has.of O) (⟨by omega,by rw [zor,hhv];rfl⟩) (by first | omega | (dsimp only;omega)) 0 O O
 ·
  obtain rfl:i=N:=by omega
  have hrl0:(rows0 nv i).length=i:=(zd3 nv i).len
  have hsh0:Shp (rows0 nv i) g.length nv:=by rw [hN];exact zd3 nv i
  have hrun0:RunV f g s nv (bfV (rows0 nv i)):=by have:=zgo f g s nv;rwa [hN] at this
  have h000:∀ v:Int,0<=v->v<(nv:Int)->bfV (rows0 nv i) 0 v=v:=fun v h0 h1=>by rw [zeo (by omega) h0 h1,zou rfl]
  have hTr:∀ q,(fun _:Nat=>True) q:=fun _=>trivial
  refine zmU 903 O (by omega) ?_
  rintro og oc rfl hcap_903
  refine znc 902 O (e':=RowsP zc 3 hv (rows0 nv i)) (by rw [List.take_of_length_le (by omega)]) ?_
  refine Vs 12 O ?_
  refine znd (σ:=Bool × List (List Int)) [0,3] [900,901,903] [0] O (fun e ⟨ch,rows⟩=>(7,.bool ch)::e) (fun e ⟨ch,rows⟩=>(902,RowsP zc 3 hv rows)::e) (fun⟨ch,rows⟩=>Shp rows g.length nv/\RunV f g s nv (bfV rows)/\(∀ v:Int,0<=v->v<(nv:Int)->bfV rows 0 v=v)/\(ch=false->SolV f g s nv (bfV rows))) (fun⟨ch,rows⟩=>(g.length*(nv*2) - rkT rows)*2+ch.toNat) ((true,rows0 nv i)) (Sub.of O) (Has.of O) (fun _=>rfl) (fun _=>rfl) (fun _=>rfl) (⟨hsh0,hrun0,h000,fun h=>by cases h⟩) ?_
  rintro⟨ch,rows⟩ ⟨hsh,hrun,h00,hso⟩
  show V _ _ _ _ _ ((7,.bool ch)::_) _ ((902,RowsP zc 3 hv rows)::_) _
  refine Vs 6 O ?_
  refine V.bool O (fun c1=>?_) (fun c1=>?_)
  ·
   subst c1
   refine Vs 14 O ?_
   refine znd (σ:=Nat × Bool × List (List Int)) [0,3] [900,901,903] [0] O (fun e ⟨j,c2,Q1⟩=>(8,.int .i64 j)::(7,.bool c2)::e) (fun e ⟨j,c2,Q1⟩=>(902,RowsP zc 3 hv Q1)::e) (fun⟨j,c2,Q1⟩=>1<=j/\j<=i/\PassV f g s nv rows Q1 c2 (fun a u=>1<=a/\a<j/\u<nv)/\∀ v:Int,0<=v->v<(nv:Int)->bfV Q1 0 v=v) (fun⟨j,c2,Q1⟩=>i - j) ((1,false,rows)) (Sub.of O) (Has.of O) (fun _=>rfl) (fun _=>rfl) (fun _=>rfl) (⟨zoI _,by omega,znA hsh hrun (fun a u h=>by omega),h00⟩) ?_
   rintro⟨j,c2,Q1⟩ ⟨hj1,hj,hps,hz⟩
   show V _ _ _ _ _ ((8,.int .i64 j)::(7,.bool c2)::_) _ ((902,RowsP zc 3 hv Q1)::_) _
   refine Vs 8 O ?_
   refine zmL 73 901 0 O O ?_
   refine Vs 7 O ?_
   refine zkG O (fun lj=>?_) (fun lj=>?_)
   ·
    refine Vs 11 O ?_
    refine znd (σ:=Nat × Bool × List (List Int)) [0,3,8,81] [900,901,903] [0] O (fun e ⟨v,c3,Q3⟩=>(82,.int .i64 v)::(7,.bool c3)::e) (fun e ⟨v,c3,Q3⟩=>(902,RowsP zc 3 hv Q3)::e) (fun⟨v,c3,Q3⟩=>v<=nv/\PassV f g s nv rows Q3 c3 (fun a u=>1<=a/\((a<j/\u<nv)\/(a=j/\u<v)))/\∀ v:Int,0<=v->v<(nv:Int)->bfV Q3 0 v=v) (fun⟨v,c3,Q3⟩=>nv - v) ((0,c2,Q1)) (Sub.of O) (Has.of O) (fun _=>rfl) (fun _=>rfl) (fun _=>rfl) (⟨zoy _,hps.imp (fun a u h=>by omega),hz⟩) ?_
    rintro⟨v,c3,Q3⟩ ⟨hv0,hps3,hz3⟩
    show V _ _ _ _ _ ((82,.int .i64 v)::(7,.bool c3)::_) _ ((902,RowsP zc 3 hv Q3)::_) _
    refine Vs 6 O ?_
    refine zkG O (fun lv=>?_) (fun lv=>?_)
    ·
     obtain⟨r,her,hrl⟩:=hps3.shp.at (show j<g.length by omega)
     obtain⟨old,heo⟩:∃ z,r[v]?=some z:=⟨_,zoj (by omega)⟩
     have hbo:=zgk her heo
     obtain⟨hu,hru⟩:∃ z,hv[j]?=some z:=⟨_,zoj (by omega)⟩
     refine zmG (p:=∃ ao ch,hu=.slice ao r.length ch/\(0<r.length->∃ g,ao=some ⟨g,0,none⟩)) (fun w hI=>zgm (show RowsOk _ _ _ _ _ from hI.at 902 O) hru her) (fun hhd=>?_)
     obtain⟨ao,cu,rfl,hau⟩:=hhd
     obtain⟨gu,rfl⟩:=hau (by omega)
     have hR3l:Q3.length=i:=by have:=hps3.shp.len;omega
     refine Va 18 O (by omega) ?_
     refine zmW 903 (j) tg27 O (by omega) (hru) ?_
     refine Vs 1 O ?_
     refine zml O (fun w hI=>zlh tR27 ts3 O O O (by omega)) ?_
     refine zml O (fun w hI=>R.load tg3 O (zgn (hI.at 902 O) hru her heo)) ?_
     refine Vs 9 O ?_
     refine zkG O (fun o1=>?_) (fun o1=>?_)
     ·
      refine Vs 5 O ?_
      refine zmZ Tryz.call83 O (fun w hI=>zhW f g s hk (by omega) Q3 nv hps3.shp j v (by omega) (by omega) (by omega) b gb _ _ _ _ D D (fun _=>True) w (Blk.cells (hI.at 900 O)) (hS.keep hI.k0 fun q hd _ h=>haS q h hd) (hG.keep hI.k0 fun q hd _ h=>haS q h hd) (zdL (show w.ownsRow 0 _ 1 _ _ _ from hR3l ▸ hI.at 903 O) (hI.at 902 O) (fun _ _=>trivial) (fun _ _ _ _ _=>trivial))) ?_
      refine Vs 9 O ?_
      refine V.sp 104 O (fun n1=>?_) (fun n1=>?_)
      ·
       refine Vs 5 O ?_
       refine zkG O (fun n2=>?_) (fun n2=>?_)
       ·
        have yw:PassV f g s nv rows (zem Q3 j v (eqV g s (yP f g s (bfV Q3)) j v)) true (fun a u=>1<=a/\((a<j/\u<nv)\/(a=j/\u<v+1))):=hps3.set hnn (i:=j) (v:=v) (by omega) (by omega) (by rw [hbo];exact n1)
        have hz4:∀ u:Int,0<=u->u<(nv:Int)->bfV (zem Q3 j v (eqV g s (yP f g s (bfV Q3)) j v)) 0 u=u:=fun u h0 h1=>by
         rw [ziE hps3.shp (by omega) (by omega) _ h0]
         unfold zh2
         rw [zot (by omega)]
         exact hz3 u h0 h1
        generalize eqV g s (yP f g s (bfV Q3)) j v=now at *
        refine Va 8 O (by omega) ?_
        refine zmW 903 (j) tg27 O (by omega) (hru) ?_
        refine Vs 2 O ?_
        refine zml O (fun w hI=>zlh tR27 ts3 O O O (by omega)) ?_
        refine znv 902 (e':=RowsP zc 3 hv (Q3.set j (r.set v now))) O (RowsP.loc) (fun _ h=>h) (fun w hI=>znY ts3 (hI.at 902 O) hru her (by omega) O O O) ?_
        refine znc 902 O (e':=RowsP zc 3 hv (zem Q3 j v now)) (by unfold zem;rw [her];rfl) ?_
        refine Va 11 O (by omega) ?_
        refine V.back (⟨v+1,true,zem Q3 j v now⟩) (Sub.of O) (Has.of O) (⟨by omega,yw,hz4⟩) (by first | omega | (dsimp only;omega)) 0 O O
       ·
        have hskip:PassV f g s nv rows Q3 c3 (fun a u=>1<=a/\((a<j/\u<nv)\/(a=j/\u<v+1))):=hps3.skip (i:=j) (v:=v) (.inr (.inr (by omega))) (fun a u h=>by omega)
        refine Va 7 O (by omega) ?_
        refine V.back (⟨v+1,c3,Q3⟩) (Sub.of O) (Has.of O) (⟨by omega,hskip,hz3⟩) (by first | omega | (dsimp only;omega)) 0 O O
      ·
       have hskip:PassV f g s nv rows Q3 c3 (fun a u=>1<=a/\((a<j/\u<nv)\/(a=j/\u<v+1))):=hps3.skip (i:=j) (v:=v) (.inr (.inl (by rw [hbo];omega))) (fun a u h=>by omega)
       refine Va 13 O (by omega) ?_
       refine V.back (⟨v+1,c3,Q3⟩) (Sub.of O) (Has.of O) (⟨by omega,hskip,hz3⟩) (by first | omega | (dsimp only;omega)) 0 O O
     ·
      have hskip:PassV f g s nv rows Q3 c3 (fun a u=>1<=a/\((a<j/\u<nv)\/(a=j/\u<v+1))):=hps3.skip (i:=j) (v:=v) (.inl (by rw [hbo];omega)) (fun a u h=>by omega)
      refine Va 7 O (by omega) ?_
      refine V.back (⟨v+1,c3,Q3⟩) (Sub.of O) (Has.of O) (⟨by omega,hskip,hz3⟩) (by first | omega | (dsimp only;omega)) 0 O O
    ·
     refine Va 11 O (by omega) ?_
     refine V.back (⟨j+1,c3,Q3⟩) (Sub.of O) (Has.of O) (⟨by omega,by omega,hps3.imp (fun a u h=>by omega),hz3⟩) (by first | omega | (dsimp only;omega)) 0 O O
   ·
    have hms:(g.length*(nv*2) - rkT Q1)*2+c2.toNat<(g.length*(nv*2) - rkT rows)*2+true.toNat:=by
     have:=zki hps.shp
     cases c2 with
     | true=>have:=hps.yes rfl;simp only [Bool.toNat_true];omega
     | false=>rw [(hps.no rfl).1];simp only [Bool.toNat_true,Bool.toNat_false];omega
    have hsolN:c2=false->SolV f g s nv (bfV Q1):=fun e=>by
     subst e
     exact hps.done (fun a u h1 h2 h3=>by omega) hz
    refine Vs 5 O ?_
    refine V.back (⟨c2,Q1⟩) (Sub.of O) (Has.of O) (⟨hps.shp,hps.run,hz,hsolN⟩) (by first | omega | (dsimp only;omega)) 0 O O
  ·
   subst c1
   have hsol:=hso rfl
   have hrowl:rows.length=i:=by have:=hsh.len;omega
   have hrows:=hsh.row
   refine znU 903 902 (e':=.res (fun q=>(Value.slice (some ⟨og,0,none⟩) i oc).ownBlock=some q\/∃ (k:Nat) (u:Value),hv[k]?=some u/\u.ownBlock=some q) (fun w=>SlR 1 (RSl 1 yj) (fun q=>(Value.slice (some ⟨og,0,none⟩) i oc).ownBlock=some q\/∃ (k:Nat) (u:Value),hv[k]?=some u/\u.ownBlock=some q) w (.slice (some ⟨og,0,none⟩) i oc) rows)) [(0,some (900,0))] O O O (fun w hI=>zdL (show w.ownsRow 0 _ 1 _ _ _ from hrowl ▸ hI.at 903 O) (hI.at 902 O) (fun _ h=>.inl h) (fun k u q h h2=>.inr ⟨k,u,h,h2⟩)) ((fun w w' T h hk hT=>h.keep (xU ze) hk fun b hb hl=>hT b hl hb)) (fun _ h=>h) (fun q hq=>hq) ?_
   refine znX 903 O (p:=(fun w=>SlR 1 (RSl 1 yj) (fun q=>(Value.slice (some ⟨og,0,none⟩) i oc).ownBlock=some q\/∃ (k:Nat) (u:Value),hv[k]?=some u/\u.ownBlock=some q) w (.slice (some ⟨og,0,none⟩) i oc) rows)) (fun w w' T h hk hT=>h.keep (xU ze) hk fun b hb _=>hT b hb) (fun w hI=>hI.at 903 O) (fun wp hpin hap2=>?_)
   refine Vs 18 O ?_
   refine znd (σ:=Nat) [0,123,124] [900,901,903] [0] O (fun e n=>(125,.int .i64 n)::e) (fun e n=>e) (fun n=>n<=s.nodes.length/\(∀ (m:Nat) x,m<n->s.nodes[m]?=some x->NodU f g s m x)) (fun n=>s.nodes.length - n) (0) (Sub.of O) (Has.of O) (fun _=>rfl) (fun _=>rfl) (fun _=>rfl) (⟨zoy _,fun m x h=>absurd h (Nat.not_lt_zero _)⟩) ?_
   rintro n ⟨hn,hall⟩
   refine Vs 6 O ?_
   refine zkG O (fun ln=>?_) (fun ln=>?_)
   ·
    refine Vs 7 O ?_
    obtain⟨x,he_x,hm_x⟩:=gE_ s.nodes (n) (by omega)
    obtain⟨b_x,o_x,c_x,ha_x,hd_x,hc_x,hR_x⟩:=hnd.atD he_x
    obtain⟨v1_x,v2_x,rfl,hp_x,hu_x⟩:=hR_x
    obtain⟨a1_x,n1_x,rfl⟩:=hp_x.form
    obtain⟨a2_x,n2_x,rfl⟩:=hu_x.form
    refine znb 1000 1 O O (fun h_=>by have h1_:=haS _ h_;have h2_:=hd_x;first | omega | exact h1_ h2_) hc_x ?_
    refine zmN 1000 tR28 ts59 O ha_x (by omega) (_) (rfl) O ?_
    have hnod:=hF.nod n x he_x
    have hum:=hu_x.max
    have hpm:=hp_x.max
    have hng:n<g.length:=by omega
    refine Vs 1 O ?_
    refine V.alloc 13 tz59 O O (fun b13=>?_)
    refine Vs 14 O ?_
    refine znd (σ:=Nat) [0,12,13,123,124,125,131,132] [13,900,901,903] [0,13] O (fun e k=>(133,.int .i64 k)::e) (fun e k=>e) (fun k=>k<=x.uses.length/\(∀ (j:Nat) u,j<k->x.uses[j]?=some u->inV f g s n u.1=u.2)) (fun k=>x.uses.length - k) (0) (Sub.of O) (Has.of O) (fun _=>rfl) (fun _=>rfl) (fun _=>rfl) (⟨zoy _,fun j u h=>absurd h (Nat.not_lt_zero _)⟩) ?_
    rintro k ⟨hkk,hku⟩
    refine Vs 6 O ?_
    refine zkG O (fun lk=>?_) (fun lk=>?_)
    ·
     refine Vs 6 O ?_
     obtain⟨u,he_u,hm_u⟩:=gE_ x.uses (k) (by omega)
     obtain⟨b_u,o_u,c_u,ha_u,hd_u,hc_u,hR_u⟩:=hu_x.atD he_u
     obtain rfl:=hR_u
     refine znb 2000 1 O O (fun h_=>by have h1_:=haS _ h_;have h2_:=hd_u;first | omega | exact h1_ h2_) hc_u ?_
     refine zmN 2000 tR57 ts85 O ha_u (by omega) (_) (rfl) O ?_
     have hub:=zce hF.of_ (hnod.ver u hm_u)
     obtain⟨u1,u2⟩:=u
     dsimp only at hub
     obtain⟨v,rfl⟩:∃ v:Nat,u1=(v:Int):=⟨u1.toNat,by omega⟩
     obtain⟨r,he_r,hm_r⟩:=gE_ rows (n) (by omega)
     obtain⟨b_r,o_r,c_r,ha_r,hd_r,hc_r,hR_r⟩:=hpin.atD he_r
     obtain⟨v1_r,rfl,hs_r⟩:=hR_r
     obtain⟨a1_r,n1_r,rfl⟩:=hs_r.form
     refine znb 3000 0 O O (fun h_=>by have h1_:=hap2 _ h_;have h2_:=hd_r;first | omega | exact h1_ h2_) hc_r ?_
     have hrn:=hrows r hm_r
     obtain⟨y,he_y,hm_y⟩:=gE_ r (v) (by omega)
     obtain⟨b_y,o_y,c_y,ha_y,hd_y,hc_y,hR_y⟩:=hs_r.atD he_y
     obtain rfl:=hR_y
     refine znb 4000 0 O O (fun h_=>by have h1_:=hap2 _ h_;have h2_:=hd_y;first | omega | exact h1_ h2_) hc_y ?_
     have hyin:y=inV f g s n v:=by rw [<- zgk he_r he_y];exact hsol.is hnn (by omega) (by omega) hng
     refine Vs 1 O ?_
     refine V.alloc 15 tz85 O O (fun b15=>?_)
     refine Vs 4 O ?_
     refine Vq (by kernel_rfl) ?_
     refine Vs 5 O ?_
     refine zmQ 3000 tR89 ts27 O ha_r (by omega) (n) (by omega) O ?_
     refine Vs 3 O ?_
     refine zmQ 4000 tR27 ts3 O ha_y (by omega) (v) (by omega) O ?_
     refine Vs 6 O ?_
     refine zkG O (fun e1=>?_) (fun e1=>?_)
     ·
      have hbad:¬ zbB f g s:=fun h=>e1 (by rw [hyin];exact h.1 n x he_x _ hm_u)
      refine Vs 16 O ?_
      refine zkW Tryz.results41 O (fun w hI=>⟨_,rfl,⟨(.slice (some ⟨og,0,none⟩) i oc,false),⟨rfl,⟨fun h=>(by cases h),fun h=>absurd h hbad⟩⟩,hI.at 900 rfl,hI.k1,fun q hq=>hI.inS 1 900 O O hq⟩⟩)
     ·
      have hnx:=xe hku he_u (show inV f g s n v=u2 by omega)
      refine Va 7 O (by omega) ?_
      refine V.back (k+1) (Sub.of O) (Has.of O) (⟨by omega,hnx⟩) (by first | omega | (dsimp only;omega)) 0 O O
    ·
     obtain rfl:k=x.uses.length:=by omega
     refine Vs 14 O ?_
     refine znd (σ:=Nat) [0,123,124,125,153,154] [900,901,903] [0] O (fun e k=>(155,.int .i64 k)::e) (fun e k=>e) (fun k=>k<=x.phis.length/\(∀ (j:Nat) p,j<k->x.phis[j]?=some p->zkj f g s p)) (fun k=>x.phis.length - k) (0) (Sub.of O) (Has.of O) (fun _=>rfl) (fun _=>rfl) (fun _=>rfl) (⟨zoy _,fun j u h=>absurd h (Nat.not_lt_zero _)⟩) ?_
     rintro k ⟨hkp,hpu⟩
     refine Vs 6 O ?_
     refine zkG O (fun lp=>?_) (fun lp=>?_)
     ·
      refine Vs 6 O ?_
      obtain⟨p,he_p,hm_p⟩:=gE_ x.phis (k) (by omega)
      obtain⟨b_p,o_p,c_p,ha_p,hd_p,hc_p,hR_p⟩:=hp_x.atD he_p
      obtain⟨v1_p,v2_p,rfl,hf_p,hg_p⟩:=hR_p
      obtain⟨a1_p,n1_p,rfl⟩:=hf_p.form
      obtain⟨a2_p,n2_p,rfl⟩:=hg_p.form
      refine znb 5000 1 O O (fun h_=>by have h1_:=haS _ h_;have h2_:=hd_p;first | omega | exact h1_ h2_) hc_p ?_
      refine zmN 5000 tR56 ts88 O ha_p (by omega) (_) (rfl) O ?_
      have hfr:=hnod.phi.frm p hm_p
      have hal:=hnod.phi.len p hm_p
      have hpv:=zce hF.of_ (hnod.phi.ver p hm_p)
      have hfm:=hf_p.max
      have hgm:=hg_p.max
      refine Vs 1 O ?_
      refine V.alloc 17 tz88 O O (fun b17=>?_)
      refine Vs 12 O ?_
      refine znd (σ:=Nat) [0,17,123,124,125,153,154,155,160,161] [17,900,901,903] [0,17] O (fun e j=>(162,.int .i64 j)::e) (fun e j=>e) (fun j=>j<=p.frm.length/\(∀ (m:Nat) y,m<j->p.frm[m]?=some y->∀ a,p.args[m]?=some a->za9 f g s y.toNat p.var=a)) (fun j=>p.frm.length - j) (0) (Sub.of O) (Has.of O) (fun _=>rfl) (fun _=>rfl) (fun _=>rfl) (⟨zoy _,fun m y h=>absurd h (Nat.not_lt_zero _)⟩) ?_
      rintro j ⟨hj,hja⟩
      refine Vs 6 O ?_
      refine zkG O (fun lj=>?_) (fun lj=>?_)
      ·
       refine Vs 7 O ?_
       obtain⟨y,he_y,hm_y⟩:=gE_ p.frm (j) (by omega)
       obtain⟨b_y,o_y,c_y,ha_y,hd_y,hc_y,hR_y⟩:=hf_p.atD he_y
       obtain rfl:=hR_y
       refine znb 6000 1 O O (fun h_=>by have h1_:=haS _ h_;have h2_:=hd_y;first | omega | exact h1_ h2_) hc_y ?_
       refine zmN 6000 tR27 ts3 O ha_y (by omega) (_) (rfl) O ?_
       obtain⟨q,rfl,hq1,hq2⟩:=zd2 (hfr ▸ he_y)
       obtain⟨a,he_a,hm_a⟩:=gE_ p.args (j) (by omega)
       obtain⟨b_a,o_a,c_a,ha_a,hd_a,hc_a,hR_a⟩:=hg_p.atD he_a
       obtain rfl:=hR_a
       refine znb 7000 1 O O (fun h_=>by have h1_:=haS _ h_;have h2_:=hd_a;first | omega | exact h1_ h2_) hc_a ?_
       have hout:yP f g s (bfV rows) q p.var=za9 f g s q p.var:=zjf (hsol.is hnn (by omega) (by omega) hq2)
       refine Vs 6 O ?_
       refine Vw [17,900,901,6000,7000] [] O ?_
       refine Vd [0,1,2,3,5,6,7] 0 (by kernel_rfl) O O O ?_
       refine zmO 8 7000 tR27 ts3 O (by kernel_rfl) O ha_a (by omega) (j) (by omega) O ?_
       refine Vd [9] 0 (by kernel_rfl) O O O ?_
       refine zn0 4 0 Tryz.call84 O (by kernel_rfl) O O (fun w hI=>zdM f g s hk (by omega) rows nv hsh q p.var hq2 (by omega) (by omega) b gb _ _ _ _ D D _ w (Blk.cells (hI.at 900 O)) (hS.keep hI.k1 fun q hd _ h=>haS q h hd) (hG.keep hI.k1 fun q hd _ h=>haS q h hd) (hpin.keep (xU ze) hI.k0 fun q hd _ hs=>hap2 q hs hd)) ?_
       refine Vd [10] 0 (by kernel_rfl) O O O ?_
       refine VD.done (by kernel_rfl) ?_
       refine Vs 1 O ?_
       refine zkG O (fun e1=>?_) (fun e1=>?_)
       ·
        have hbad:¬ zbB f g s:=fun h=>e1 (by rw [hout];exact h.2 n x he_x p hm_p j _ a he_y he_a)
        refine Vs 19 O ?_
        refine zkW Tryz.results41 O (fun w hI=>⟨_,rfl,⟨(.slice (some ⟨og,0,none⟩) i oc,false),⟨rfl,⟨fun h=>(by cases h),fun h=>absurd h hbad⟩⟩,hI.at 900 rfl,hI.k1,fun q hq=>hI.inS 1 900 O O hq⟩⟩)
       ·
        have hnx:=xe hja he_y (show ∀ a',p.args[j]?=some a'->za9 f g s (Int.toNat (q:Int)) p.var=a' from fun a' ha'=>by
         obtain rfl:a'=a:=Option.some.inj (ha'.symm.trans he_a)
         have e2:=zos.1 e1
         rw [hout] at e2;exact e2)
        refine Va 7 O (by omega) ?_
        refine V.back (j+1) (Sub.of O) (Has.of O) (⟨by omega,hnx⟩) (by first | omega | (dsimp only;omega)) 0 O O
      ·
       obtain rfl:j=p.frm.length:=by omega
       have hnx:=xe hpu he_p (show zkj f g s p from fun m y hm a ha=>hja m y (zox.1 hm).1 hm a ha)
       refine Va 10 O (by omega) ?_
       refine V.back (k+1) (Sub.of O) (Has.of O) (⟨by omega,hnx⟩) (by first | omega | (dsimp only;omega)) 0 O O
     ·
      obtain rfl:k=x.phis.length:=by omega
      have hnx:∀ (m:Nat) x',m<n+1->s.nodes[m]?=some x'->NodU f g s m x':=fun m x' hm hx=>by
       by_cases e:m=n
       ·
        subst e
        obtain rfl:x'=x:=Option.some.inj (hx.symm.trans he_x)
        exact⟨fun u hu=>by obtain⟨q,hq⟩:=List.mem_iff_getElem?.1 hu;exact jX hku q u hq,fun p hp=>by obtain⟨q,hq⟩:=List.mem_iff_getElem?.1 hp;exact jX hpu q p hq⟩
       . exact hall m x' (by omega) hx
      refine Va 10 O (by omega) ?_
      refine V.back (n+1) (Sub.of O) (Has.of O) (⟨by omega,hnx⟩) (by first | omega | (dsimp only;omega)) 0 O O
   ·
    obtain rfl:n=s.nodes.length:=by omega
    have hyes:zbB f g s:=zgp (jX hall)
    refine Vs 11 O ?_
    refine zkW Tryz.results41 O (fun w hI=>⟨_,rfl,⟨(.slice (some ⟨og,0,none⟩) i oc,true),⟨rfl,⟨fun _=>hyes,fun _=>rfl⟩⟩,hI.at 900 rfl,hI.k1,fun q hq=>hI.inS 1 900 O O hq⟩⟩)
def EqD (D:Nat->Prop) (w w':World):Prop:=∀ b,D b->b<w.heap.size/\w'.heap[b]?=w.heap[b]?
theorem EqD.refl {D:Nat->Prop} {w:World} (h:∀ b,D b->b<w.heap.size):EqD D w w:=fun b hb=>⟨h b hb,rfl⟩
theorem EqD.keep {D S:Nat->Prop} {w w' w2:World} (h:EqD D w w') (hk:Keep S w' w2) (hl:∀ b,D b->b<w'.heap.size) (hS:∀ b,D b->¬ S b):EqD D w w2:=fun b hb=>⟨(h b hb).1,(hk.block b (hl b hb) (hS b hb)).trans (h b hb).2⟩
theorem EqD.to {α:Type} {k:Nat} {R:Rel α} (hR:ya R) {D:Nat->Prop} {w w':World} (h:EqD D w w') {v:Value} {l:List α} (hs:SlR k R D w v l):SlR k R D w' v l:=hs.stable hR (fun _ h=>h) fun b hb _=>(h b hb).2
theorem EqD.back {α:Type} {k:Nat} {R:Rel α} (hR:ya R) {D:Nat->Prop} {w w':World} (h:EqD D w w') {v:Value} {l:List α} (hs:SlR k R D w' v l):SlR k R D w v l:=hs.stable hR (fun _ h=>h) fun b hb _=>(h b hb).2.symm
theorem EqD.lt {D:Nat->Prop} {w w':World} (h:EqD D w w') {b:Nat} (hb:D b):b<w'.heap.size:=by
 have h1:=(h b hb).2
 have h2:=(h b hb).1
 rw [Array.getElem?_eq_getElem h2] at h1
 exact (Array.getElem?_eq_some_iff.1 h1).1
def EncS (D:Nat->Prop) (w:World) (l:List St) (xs:List Value):Prop:=xs.length=l.length*10/\∀ (i:Nat) x,l[i]?=some x->RSt D w x ((xs.drop (i*10)).take 10)
theorem EncS.nil {D:Nat->Prop} {w:World}:EncS D w [] []:=⟨rfl,fun i x h=>by simp at h⟩
theorem EncS.add {D:Nat->Prop} {w:World} {l:List St} {xs cs:List Value} {x:St} (h:EncS D w l xs) (hx:RSt D w x cs) (hc:cs.length=10):EncS D w (l++[x]) (xs++cs):=by
 have h1:=h.1
 refine⟨by rw [zor,zor,h1,hc,zoE];omega,fun i y hy=>?_⟩
 by_cases hi:i<l.length
 ·
  rw [zoJ hi] at hy
  rw [List.drop_append_of_le_length (by omega),List.take_append_of_le_length (by rw [List.length_drop];omega)]
  exact h.2 i y hy
 ·
  have hl:=(zox.1 hy).1
  rw [zor,zoE] at hl
  obtain rfl:i=l.length:=by omega
  rw [zoK (by omega),Nat.sub_self] at hy
  obtain rfl:x=y:=by simpa using hy
  rw [<- h1,List.drop_left,List.take_of_length_le (by omega)]
  exact hx
theorem zi0 (l:List St):∀ (D:Nat->Prop) (W0 W:World) (v uo:Value) (acc:List St) (xs:List Value),SlR 10 RSt D W0 v l->EqD D W0 W->EncS D W0 acc xs->(HE.row 72 10 uo acc.length xs).holds W->(∀ q,D q->uo.ownBlock ≠ some q)->acc.length+ssize l<=1000000 ->
  Calls Tryz.prog 75 #[v,uo] W (Ret fun r w'=>∃ x:Value × List Value,(r=x.1/\EncS D W0 (acc++preL l) x.2)/\(HE.row 72 10 x.1 (acc++preL l).length x.2).holds w'/\Keep (HE.row 72 10 uo acc.length xs).S W w'/\∀ q,(HE.row 72 10 x.1 (acc++preL l).length x.2).S q->((HE.row 72 10 uo acc.length xs).S q\/W.heap.size<=q)/\q<w'.heap.size):=by
 induction l using zm4 with
 | h l ih =>
 intro D W0 W v uo acc xs hl0 hEq hxs hown hap hlen
 have hl:=hEq.to zb hl0
 obtain⟨av,cv,rfl⟩:=hl.form
 have hmx:=hl.max
 have haS:∀ q,(HE.row 72 10 uo acc.length xs).S q->¬ D q:=fun q h hd=>hap q hd h
 refine zmv Tryz.func75 O Tryz.ntmps75 O (znG 900 (.row 72 10 uo acc.length xs) (hown) trivial (fun _ h=>h) (fun q hq=>qt hown hq) ?_)
 refine Vs 13 O ?_
 refine znc 900 O (e':=.row 72 10 uo (acc++preL (l.take 0)).length xs) (by rw [show acc++preL (l.take 0)=acc from List.append_nil _]) ?_
 refine Vs 1 O ?_
 refine znd (σ:=Nat × Value × List Value) [7,8] [] [] O (fun e ⟨i,u,ys⟩=>(9,.int .i64 i)::(1,u)::e) (fun e ⟨i,u,ys⟩=>(900,.row 72 10 u (acc++preL (l.take i)).length ys)::e) (fun⟨i,u,ys⟩=>i<=l.length/\EncS D W0 (acc++preL (l.take i)) ys) (fun⟨i,u,ys⟩=>l.length - i) ((0,uo,xs)) (Sub.of O) (Has.of O) (fun _=>rfl) (fun _=>rfl) (fun _=>rfl) (⟨zoy _,by rw [show acc++preL (l.take 0)=acc from List.append_nil _];exact hxs⟩) ?_
 rintro⟨i,u,ys⟩ ⟨hi,hys⟩
 show V _ _ _ _ _ ((9,.int .i64 i)::(1,u)::_) _ ((900,.row 72 10 u (acc++preL (l.take i)).length ys)::_) _
 refine Vs 6 O ?_
 refine zkG O (fun lt=>?_) (fun lt=>?_)
 ·
  refine Vs 6 O ?_
  obtain⟨x,he_x,hm_x⟩:=gE_ l (i) (by omega)
  obtain⟨b_x,o_x,c_x,ha_x,hd_x,hc_x,hR_x⟩:=hl.atD he_x
  obtain⟨v1_x,v2_x,v3_x,v4_x,rfl,hk_x,ht_x,hs_x,hb_x⟩:=hR_x.get
  obtain⟨a1_x,n1_x,rfl⟩:=hk_x.form
  obtain⟨a2_x,n2_x,rfl⟩:=ht_x.form
  obtain⟨a3_x,n3_x,rfl⟩:=hs_x.form
  obtain⟨a4_x,n4_x,rfl⟩:=hb_x.form
  refine znb 1000 0 O O (fun h_=>by have h1_:=haS _ h_;have h2_:=hd_x;first | omega | exact h1_ h2_) hc_x ?_
  refine zmN 1000 tR24 ts72 O ha_x (by omega) (_) (rfl) O ?_
  have hsp:=yT he_x
  have hse:=x.size_eq
  have hpt:=zfK he_x
  have hpl:=zZ (l.take i)
  have hpl1:=zZ x.thn
  have hpl2:=zZ x.els
  have hth:=hEq.back zb ht_x
  have hel:=hEq.back zb hs_x
  have hkb:=hEq.back zo hk_x
  have hbb:=hEq.back ze hb_x
  have hys1:EncS D W0 (acc++preL (l.take i)++[x]) (ys++[.int .i64 x.act,.int .i64 x.cost,.int .i64 x.var,.int .i64 x.n,.int .i64 x.term.op,.int .i64 x.term.n,.slice a1_x x.term.kids.length n1_x,.slice a2_x x.thn.length n2_x,.slice a3_x x.els.length n3_x,.slice a4_x x.bounds.length n4_x]):=hys.add (RSt.put hkb hth hel hbb) rfl
  have hfin:acc++preL (l.take i)++[x]++preL x.thn++preL x.els=acc++preL (l.take (i+1)):=by rw [hpt,x.pre_eq];simp
  have htot:ssize (l.take i)+(1+ssize x.thn+ssize x.els)<=ssize l:=by omega
  have hla:(acc++preL (l.take i)).length=acc.length+ssize (l.take i):=by rw [zor,hpl]
  refine Vs 1 O ?_
  refine V.alloc 6 tz72 O O (fun b6=>?_)
  refine Vs 7 O ?_
  refine V.bs 15 [(0,_)] tR24 ts72 tz72 (by decide) O O (by kernel_rfl) (fun b15=>?_)
  refine zmS 900 15 tu24 Tryz.el72 O (by decide) O O (by omega) (by omega) (fun u900=>?_)
  refine Vs 3 O ?_
  refine znc 900 O (e':=.row 72 10 u900 (acc++preL (l.take i)++[x]).length (ys++[.int .i64 x.act,.int .i64 x.cost,.int .i64 x.var,.int .i64 x.n,.int .i64 x.term.op,.int .i64 x.term.n,.slice a1_x x.term.kids.length n1_x,.slice a2_x x.thn.length n2_x,.slice a3_x x.els.length n3_x,.slice a4_x x.bounds.length n4_x])) (by rw [zor (bs:=[x])];rfl) ?_
  refine Vw [1000,6,15] [] O ?_
  refine Vd [0,1,2,3,4] 0 (by kernel_rfl) O O O ?_
  refine zn5 5 900 0 (E:=fun z:Value × List Value=>.row 72 10 z.1 (acc++preL (l.take i)++[x]++preL x.thn).length z.2) Tryz.call75 O (by kernel_rfl) O O (fun _=>⟨trivial,fun _ h=>h⟩) (fun w hI=>(ih x hm_x).1 D W0 w _ _ (acc++preL (l.take i)++[x]) _ hth (hEq.keep hI.k0 (fun b hb=>hEq.lt hb) (fun b hb hs=>haS b hs hb)) hys1 (hI.at 900 O) (fun q hq=>by exact hI.offD 0 900 O O (hEq.lt hq) (fun h=>haS q h hq)) (by simp only [zor,zoE] at *;omega)) ?_
  rintro u2 ⟨_,y2⟩ ⟨rfl,hy2⟩
  refine zn5 6 900 0 (E:=fun z:Value × List Value=>.row 72 10 z.1 (acc++preL (l.take i)++[x]++preL x.thn++preL x.els).length z.2) Tryz.call75 O (by kernel_rfl) O O (fun _=>⟨trivial,fun _ h=>h⟩) (fun w hI=>(ih x hm_x).2 D W0 w _ _ (acc++preL (l.take i)++[x]++preL x.thn) _ hel (hEq.keep hI.k0 (fun b hb=>hEq.lt hb) (fun b hb hs=>haS b hs hb)) hy2 (hI.at 900 O) (fun q hq=>by exact hI.offD 0 900 O O (hEq.lt hq) (fun h=>haS q h hq)) (by simp only [zor,zoE] at *;omega)) ?_
  rintro u3 ⟨_,y3⟩ ⟨rfl,hy3⟩
  refine Vd [7] 0 (by kernel_rfl) O O O ?_
  refine VD.done (by kernel_rfl) ?_
  refine Va 6 O (by omega) ?_
  rw [hfin] at hy3
  refine znc 900 O (e':=.row 72 10 u3 (acc++preL (l.take (i+1))).length y3) (by rw [hfin]) ?_
  refine V.back (⟨i+1,u3,y3⟩) (Sub.of O) (Has.of O) (⟨by omega,hy3⟩) (by first | omega | (dsimp only;omega)) 0 O O
 ·
  obtain rfl:i=l.length:=by omega
  rw [zoo] at hys
  refine znc 900 O (e':=.row 72 10 u (acc++preL l).length ys) (by rw [zoo]) ?_
  refine Vs 12 O ?_
  refine zkW Tryz.results75 O (fun w hI=>⟨_,rfl,⟨(u,ys),⟨rfl,hys⟩,hI.at 900 rfl,hI.k0,fun q hq=>hI.inS 0 900 O O hq⟩⟩)
def jd (x:Nd) (q:Nat):List Int:=([x.next,x.other].take q).filter fun y=>decide (0<=y)
def zd5 (x:Nd):List Int:=jd x 2
theorem zd6 (x:Nd) (q:Nat):(jd x q).length<=2:=by
 unfold jd
 refine zop (List.length_filter_le _ _) ?_
 rw [zoN]
 exact Nat.min_le_right _ _
def eds (x:Nd) (q:Nat):Int:=if q=0 then x.next else x.other
theorem zeV (x:Nd) {q:Nat} (hq:q<2):jd x (q+1)=jd x q++if 0<=eds x q then [eds x q] else []:=by
 have h:q=0\/q=1:=by omega
 rcases h with rfl | rfl
 . by_cases h:0<=x.next <;> simp [jd,eds,h]
 . by_cases h:0<=x.next <;> by_cases h2:0<=x.other <;> simp [jd,eds,h,h2]
theorem zjg (x:Nd) {q:Nat} (hq:q<2):[Value.int .i64 x.next,Value.int .i64 x.other][((q:Int)).toNat]?=some (.int .i64 (eds x q)):=by
 have h:q=0\/q=1:=by omega
 rcases h with rfl | rfl <;> rfl
theorem mem_succ {x:Nd} {y:Int}:y ∈ zd5 x ↔ 0<=y/\(x.next=y\/x.other=y):=by
 unfold zd5 jd
 simp only [List.take,List.mem_filter,zoz,List.not_mem_nil,or_false,decide_eq_true_eq]
 constructor
 ·
  rintro⟨h1 | h1,h2⟩
  . exact⟨h2,.inl h1.symm⟩
  . exact⟨h2,.inr h1.symm⟩
 ·
  rintro⟨h2,h1 | h1⟩
  . exact⟨.inl h1.symm,h2⟩
  . exact⟨.inr h1.symm,h2⟩
theorem zi1 (x:Nd) (W:World) :
  Calls Tryz.prog 76 #[.agg (qv x).toArray] W (Ret fun r w'=>SlR 1 yj (fun b=>W.heap.size<=b) w' r (zd5 x)/\Ext W w'):=by
 refine zmu Tryz.func76 O Tryz.ntmps76 O (zmE ?_)
 refine Vs 2 O ?_
 refine V.box 1 O O (fun b1=>?_)
 refine Vs 15 O ?_
 refine znh [Value.int IntKind.i64 0,Value.int IntKind.i64 0] [(0,1),(1,1)] [(0,_),(1,_)] O O (fun _=>by kernel_rfl) ?_
 refine Vs 3 O ?_
 refine zmR 900 3 1 O ?_
 refine Vs 1 O ?_
 refine znd (σ:=Nat × Value) [10] [] [] O (fun e ⟨q,u⟩=>(11,.int .i64 q)::(3,u)::e) (fun e ⟨q,u⟩=>(900,.row 3 1 u (jd x q).length ((jd x q).map zc))::e) (fun⟨q,u⟩=>q<=2) (fun⟨q,u⟩=>2 - q) ((0,.slice none 0 0)) (Sub.of O) (Has.of O) (fun _=>rfl) (fun _=>rfl) (fun _=>rfl) (zoy _) ?_
 rintro⟨q,u⟩ hq
 show V _ _ _ _ _ ((11,.int .i64 q)::(3,u)::_) _ ((900,.row 3 1 u (jd x q).length ((jd x q).map zc))::_) _
 have hl:=zd6 x q
 refine Vs 6 O ?_
 refine zkG O (fun lt=>?_) (fun lt=>?_)
 ·
  have hq2:q<2:=by omega
  have hnx:=zeV x hq2
  refine Vs 6 O ?_
  refine zml O (fun w hI=>znS Tryz.runUnderlying169 ts3 tg3 O O (by omega) (zjg x hq2)) ?_
  refine Vs 9 O ?_
  refine zkG O (fun c=>?_) (fun c=>?_)
  ·
   rw [zou c] at hnx
   refine Vs 3 O ?_
   refine V.bs 18 [(0,_)] tR27 ts3 tz3 (by decide) O O (by kernel_rfl) (fun b18=>?_)
   refine zmS 900 18 tu27 Tryz.el3 O (by decide) O O (by omega) (by omega) (fun u900=>?_)
   refine Va 8 O (by omega) ?_
   refine znc 900 O (e':=.row 3 1 u900 (jd x (q+1)).length ((jd x (q+1)).map zc)) (by rw [hnx,zor,List.map_append];rfl) ?_
   refine V.back (⟨q+1,u900⟩) (Sub.of O) (Has.of O) (by omega) (by first | omega | (dsimp only;omega)) 0 O O
  ·
   rw [zot c,List.append_nil] at hnx
   refine znc 900 O (e':=.row 3 1 u (jd x (q+1)).length ((jd x (q+1)).map zc)) (by rw [hnx]) ?_
   refine Va 7 O (by omega) ?_
   refine V.back (⟨q+1,u⟩) (Sub.of O) (Has.of O) (by omega) (by first | omega | (dsimp only;omega)) 0 O O
 ·
  obtain rfl:q=2:=by omega
  refine Vs 12 O ?_
  refine zkW Tryz.results76 O (fun w hI=>⟨_,rfl,zlM zc (fun _ _=>rfl) (hI.at 900 O) (fun g hg=>hI.own 900 0 O O g hg),hI.k0⟩)
end Go.Proofs.YtckdhgbepmpgiaaGreat
namespace Go.GL
def zdN (_ n:Nat) (us:List Value):List Value:=(List.replicate n us).flatten
theorem zad {k n:Nat} {us:List Value} (h:us.length=k):(zdN k n us).length=n*k:=by
 unfold zdN
 induction n with
 | zero=>simp
 | succ n ih=>rw [List.replicate_succ,List.flatten_cons,zor,ih,h,Nat.succ_mul];omega
theorem zep {k n:Nat} {us:List Value} (h:us.length=k) {i:Nat} (hi:i<n):((zdN k n us).drop (i*k)).take k=us:=by
 unfold zdN
 induction n generalizing i with
 | zero=>omega
 | succ n ih =>
  rw [List.replicate_succ,List.flatten_cons]
  cases i with
  | zero=>rw [Nat.zero_mul,List.drop_zero,List.take_left' h]
  | succ i=>rw [Nat.succ_mul,Nat.add_comm,<- List.drop_drop,List.drop_left' h];exact ih (by omega)
theorem zjh {k n:Nat} {us:List Value} (h:us.length=k) {j:Nat} (hj:j<n*k):(zdN k n us)[j]?=us[j % k]?:=by
 have hk:0<k:=by rcases Nat.eq_zero_or_pos k with e | e;(· subst e;omega);exact e
 have h1:=zep h (i:=j / k) (n:=n) ((Nat.div_lt_iff_lt_mul hk).2 hj)
 have h2:us[j % k]?=(((zdN k n us).drop (j / k*k)).take k)[j % k]?:=by rw [h1]
 rw [h2,List.getElem?_take_of_lt (Nat.mod_lt _ hk),List.getElem?_drop,Nat.mul_comm,Nat.div_add_mod]
theorem zjT {z:Value} {k n:Nat} {us:List Value} (hz:z.cells=us.toArray) (h:us.length=k):madeCells z.cells (n*k)=(zdN k n us).toArray:=by
 rw [hz]
 apply Array.ext
 . simp [madeCells,zad h]
 ·
  intro i h1 h2
  have hi:i<n*k:=by simpa [madeCells] using h1
  have:=zjh h (n:=n) hi
  rw [zoj (by rw [zad h];exact hi)] at this
  have hk:0<k:=by rcases Nat.eq_zero_or_pos k with e | e;(· subst e;omega);exact e
  rw [zoj (by rw [h];exact Nat.mod_lt _ hk)] at this
  simp only [madeCells,List.getElem_toArray,List.size_toArray]
  have h3:=Option.some.inj this
  rw [h3]
  simp [h,zoj (show i % k<us.length by rw [h];exact Nat.mod_lt _ hk)]
section
variable {P:Program} {n:Nat} {Q:Exit->Act->World->Prop} {ks:List Fr} {env:Env} {A:Tgs} {H Hs:Hp} {Bs B0:zG} {ops:Array Oper} {L:List Nat} {fuel:Nat} {listed:Array Bool} {d:Nat} {v:Value} {ty:TypeId} {ps:String} {aft:Array Edge} {g:Option (Nat × Bool)}
theorem znZ (is k j:Nat) {ts:TypeId} {kk:Nat} {x y:Operand} {b o:Nat} {cs us:List Value} {e:TypeId} (hss:∀ w,(sizeOf ts).run P w=.ok kk w) (hi:ops[is]?=some ⟨none,.store ts x y,ty,ps,aft,g⟩) (hr:Region.ready .any ops listed=[is])
  (hn:(gd ops env g,hget H k,ev env x,ev env y,L.contains is)=(some true,some (.own b cs e),some (.pointer (some ⟨b,o,none⟩)),some v,true)) (hv:v.cells=us.toArray) (hk:us.length=kk) (h1:∀ u ∈ us,u.oneCell'=true) (hj:o=j) (hl:j+kk<=cs.length)
  (h:VDx P n Q ks ops (VI B0 Hs) L fuel (listed.setIfInBounds is true) env A (yw H k (.own b (cs.take j++us++cs.drop (j+kk)) e)) Bs):VD P n Q ks ops Hs B0 L (fuel+1) listed env A H Bs:=by
 simp only [Prod.mk.injEq] at hn
 subst hj
 obtain⟨h2,h3,h4,h5,h6⟩:=hn
 intro hH hA w hI
 have hB:Blk w b cs e:=hI.at k h3
 refine znJ is hi hr h2 h6 (zlx hss h4 h5 hv hk h1 hB hl) ?_
 rintro w2 ⟨_,hB2,hk2⟩
 exact h (hA.set h3) w2 (hI.set h3 hk2 hB2 trivial (fun _ h=>h) fun q hq=>⟨.inl hq,by have hq:q=b:=hq;rw [hq];exact hB2.lt⟩)
end
section
variable {P:Program} {env:Env} {w:World} {dst:Option Tmp} {ty:TypeId} {pos:String} {aft:Array Edge} {g:Option (Nat × Bool)}
theorem M.bs0 {t e:TypeId} {k:Nat} (hu:∀ w,(underlying t).run P w=.ok (.slice e) w) (hs:∀ w,(sizeOf e).run P w=.ok k w) :
  yC P ⟨dst,.buildSlice t 0 #[],ty,pos,aft,g⟩ env w (fun u w'=>∃ b,u=.slice (some ⟨b,0,none⟩) 0 0/\New w [] e b w'):=by
 refine⟨.slice (some ⟨w.heap.size,0,none⟩) 0 0,w.alloc (.cells #[] e),?_,_,rfl,New.mk w [] e⟩
 intro n a ha
 have h0:Array.range 0=#[]:=Array.eq_empty_of_size_eq_zero (by simp)
 simp [execOp,Instr.buildSlice,hu,hs,newRow,Instr.fill,h0]
end
end Go.GL
namespace Go.Proofs.YtckdhgbepmpgiaaGreat
open Go.GL
theorem zi2 (vs:List Vr) (k:Int) (vv:Value) (D:Nat->Prop) (w:World) (hvs:SlR 5 RVr D w vv vs) (hlen:vs.length<=1000000):Calls Tryz.prog 85 #[vv,.int .i64 k] w (Ret fun r w'=>SlR 5 RVr (fun b=>w.heap.size<=b) w' r (zp k vs)/\Ext w w'):=by
 obtain⟨av,nv,rfl⟩:=hvs.form
 have hvs0:=hvs
 have hE:=Keep.refl (fun _=>False) w
 refine zmv Tryz.func85 O Tryz.ntmps85 O (Gs 7 O (zlr O O (M.bs0 tR22 ts142) ?_))
 rintro _ w0 ⟨b0,rfl,hg_b0,hs_b0,hB_b0,hk_b0⟩
 obtain⟨hE,hvs⟩:=Tr2 hk_b0 hE hvs
 have ho0:w0.ownsRow 0 142 5 (.slice (some ⟨b0,0,none⟩) 0 0) 0 []:=ym (k:=5) (n:=0) (cap:=0) hB_b0 (zoI _) (by decide) rfl
 refine Gs 10 O (G.loop (σ:=Nat × Value) (fun⟨i,vl⟩=>[(0,.slice av vs.length nv),(1,.int .i64 k),(5,vl),(6,.int .i64 i)]) (fun⟨i,vl⟩=>fun w'=>i<=vs.length/\w'.ownsRow 0 142 5 vl (zp k (vs.take i)).length ((zp k (vs.take i)).flatMap zdu)/\(∀ q,vl.ownBlock=some q->w.heap.size<=q)/\Ext w w') (fun⟨i,vl⟩=>vs.length - i) ((0,.slice (some ⟨b0,0,none⟩) 0 0)) (Sub.of O) (⟨zoy _,ho0,fun q hq=>by obtain rfl:b0=q:=Option.some.inj hq;omega,hE⟩) ?_)
 rintro⟨i,vl⟩ w2 ⟨hi,hown,hfr,hE2⟩
 show G _ _ _ _ _ [(0,.slice av vs.length nv),(1,.int .i64 k),(5,vl),(6,.int .i64 i)] _
 have hvs2:=hvs0.ext xf hE2
 refine Gs 9 O (zkF O (fun hlt=>?_) (fun hlt=>?_))
 ·
  obtain⟨x,he_x,hm_x⟩:=gE_ vs (i) (by omega)
  obtain⟨b_x,o_x,c_x,ha_x,_,hc_x,hR_x⟩:=hvs2.at he_x
  have h1_x:=RVr.one hR_x
  obtain rfl:=hR_x
  have hlt_x:b_x<_:=zol _ _ (hc_x 0 _ rfl)
  have hot:=zaN (k:=k) he_x
  have hol:=qZ k (vs.take i)
  rw [zoN] at hol
  refine Gs 8 O (zmk O O (zlh tR22 ts142 O O ha_x (by omega)) (Gs 1 O (zmo O tg100 (hc_x 1 _ O) (Gs 4 O (zkF O (fun hkx=>?_) (fun hkx=>?_))))))
  ·
   rw [zou hkx] at hot
   refine Gs 4 O (zmk O O (zlh tR22 ts142 O O ha_x (by omega)) (zmq O tg142 ts142 hc_x O (zlr O O (M.buildSlice (cs:=zdu x) [(0,_)] tR22 ts142 tz142 (by decide) O (by kernel_rfl)) ?_)))
   rintro _ w5 ⟨b5,rfl,hg_b5,hs_b5,hB_b5,hk_b5⟩
   have hown5:=zj hown hk_b5 (fun _ _ h=>h)
   have hE5:=hE2.ext hk_b5
   have hs5:=hE5.size
   refine zlr O O (M.append tu22 Tryz.el142 O (by decide) O O hown5 O (Cells.add hB_b5.cells) (ze9 _) (by omega) (by omega)) ?_
   rintro vl' w6 ⟨hown6,hfr6,hk6,_⟩
   refine Ga 9 O (by omega) (G.back ((i+1,vl')) (Sub.of O) (⟨by omega,?_,?_,hE5.trans hk6 (fun q hq h=>by have:=hfr q h;omega)⟩) (by first | omega | (dsimp only;omega)))
   ·
    rw [hot,zor,List.flatMap_append]
    exact hown6
   ·
    intro q hq
    rcases hfr6 with h | ⟨q',h,h'⟩
    . exact hfr q (by rw [<- h];exact hq)
    . rw [h] at hq;cases hq;omega
  ·
   rw [zot hkx,List.append_nil] at hot
   refine Ga 8 O (by omega) (G.back ((i+1,vl)) (Sub.of O) (⟨by omega,by rw [hot];exact hown,hfr,hE2⟩) (by first | omega | (dsimp only;omega)))
 ·
  obtain rfl:i=vs.length:=by omega
  rw [zoo] at hown
  refine Gs 12 O (zkV Tryz.results85 O ⟨_,rfl,zlN (by omega) zdu ze8 (fun x _=>rfl) hown hfr,hE2⟩)
theorem zae (l:List St):∀ (v:Value) (D:Nat->Prop) (w:World),SlR 10 RSt D w v l->ssize l<=1000000->Calls Tryz.prog 66 #[v] w (Ret fun r w'=>r=.int .i64 (widL l)/\Ext w w'):=by
 induction l using zm4 with
 | h l ih =>
 intro v D w hl hsz
 have hlen:=qT l
 obtain⟨ao,cap,rfl⟩:=hl.form
 refine zmu Tryz.func66 O Tryz.ntmps66 O (Gs 19 O (G.loop (σ:=Nat) (fun i=>[(3,.int .i64 (widL (l.take i))),(6,.slice ao l.length cap),(7,.int .i64 l.length),(8,.int .i64 i)]) (fun i=>fun w'=>i<=l.length/\Ext w w') (fun i=>l.length - i) (0) (Sub.of O) (⟨zoy _,Keep.refl _ _⟩) ?_))
 rintro i w1 ⟨hi,hL1⟩
 replace hl:=Tr1 hL1 hl
 refine Gs 6 O (zkF O (fun hlt=>?_) (fun hge=>?_))
 ·
  obtain⟨s,he_s,hm_s⟩:=gE_ l (i) (by omega)
  obtain⟨b_s,o_s,c_s,ha_s,_,hc_s,hR_s⟩:=hl.at he_s
  have h1_s:=RSt.one hR_s
  obtain⟨v1_s,v2_s,v3_s,v4_s,rfl,hk_s,ht_s,hs_s,hb_s⟩:=hR_s.get
  obtain⟨a1_s,n1_s,rfl⟩:=hk_s.form
  obtain⟨a2_s,n2_s,rfl⟩:=ht_s.form
  obtain⟨a3_s,n3_s,rfl⟩:=hs_s.form
  obtain⟨a4_s,n4_s,rfl⟩:=hb_s.form
  have hlt_s:b_s<_:=zol _ _ (hc_s 0 _ rfl)
  have hsp:=yT he_s
  have hse:=s.size_eq
  have hwe:=s.wid_eq
  have hwt:=zaz he_s
  have hw0:=yU l
  have hw1':=kq he_s
  have hw2:=yU s.thn
  have hw3:=yU s.els
  have hE:=Keep.refl (fun _=>False) w1
  refine Gs 6 O (zmk O O (zlh tR24 ts72 O O ha_s (by omega)) (zmq O tg72 ts72 hc_s O (zlr O O (M.alloc (cs:=_) tz72 O) ?_)))
  rintro _ wa1 ⟨b,rfl,hg_b,hs_b,hB_b,hk_b⟩
  refine zlw O (zlx ts72 O O O O h1_s hB_b (by simp)) ?_
  rintro w_b ⟨_,hB_b,hkk_b⟩
  replace hk_b:=hk_b.trans hkk_b (fun q hq h=>by have h:q=b:=h;omega)
  have hge_b:_<=b:=zop hE.size (Nat.le_of_eq hg_b.symm)
  obtain⟨hl,hL1,hc_s,hk_s,ht_s,hs_s,hb_s⟩:=Tr7 hk_b hl hL1 hc_s hk_s ht_s hs_s hb_s
  replace hE:=Tr1 hk_b hE
  refine Gs 3 O (Dw (fun q=>Ext w_b q) [] (fun wd2 hD _=>?_))
  refine Ds [0,1] (by kernel_rfl) O (WD.take 2 O (by kernel_rfl) O O O hD (fun w1 hw1=>R.load tg24 O ((hw1.blk hB_b (fun h=>h)).cells 7 _ O)) (Ds [5] (by kernel_rfl) O (WD.take 6 O (by kernel_rfl) O O O hD (fun w1 hw1=>R.load tg24 O ((hw1.blk hB_b (fun h=>h)).cells 8 _ O)) (WD.call 3 O (by kernel_rfl) O O O (F.call (vs:=[_]) tc66 O) ((ih s hm_s).1 _ D _ (ht_s.ext zb hD) (by omega)) ?_))))
  rintro _ wz3 ⟨rfl,hz3⟩
  replace hD:=hD.ext hz3
  refine⟨fun _=>hD,?_⟩
  refine Da [4] (by kernel_rfl) O (by omega) (WD.call 7 O (by kernel_rfl) O O O (F.call (vs:=[_]) tc66 O) ((ih s hm_s).2 _ D _ (hs_s.ext zb hD) (by omega)) ?_)
  rintro _ wz4 ⟨rfl,hz4⟩
  replace hD:=hD.ext hz4
  refine⟨fun _=>hD,?_⟩
  refine Da [8,9,10] (by kernel_rfl) O (by omega) (G.done (by kernel_rfl) ?_ _)
  obtain⟨hl,hL1,hc_s,hk_s,ht_s,hs_s,hb_s⟩:=Tr7 hD hl hL1 hc_s hk_s ht_s hs_s hb_s
  obtain⟨hE,hB_b⟩:=Tr2 hD hE hB_b
  refine Gs 4 O (zmo O tg66 (hB_b.cells 0 _ O) (Gs 3 O (zkF O (fun h4=>?_) (fun h4=>?_))))
  ·
   rw [zou h4] at hwe
   refine Ga 11 O (by omega) (G.back (i+1) (Sub.cons (yo O (by rw [hwt];omega)) (Sub.of O)) (⟨by omega,hL1⟩) (by first | omega | (dsimp only;omega)))
  ·
   rw [zot h4] at hwe
   refine Ga 7 O (by omega) (G.back (i+1) (Sub.cons (yo O (by rw [hwt];omega)) (Sub.of O)) (⟨by omega,hL1⟩) (by first | omega | (dsimp only;omega)))
 ·
  have:i=l.length:=by omega
  subst this
  refine Gs 12 O (zkV Tryz.results66 O ⟨_,rfl,by rw [zoo],hL1⟩)
theorem zo0 {α:Type} {k:Nat} {R:Rel α} {D:Nat->Prop} {w:World} {ao:Option Addr} {n c i:Nat} {l:List α} {x:α} (h:SlR k R D w (.slice ao n c) l) (hx:l[i]?=some x):SlR k R D w (.slice (if c=(i:Int).toNat then ao else ao.map (·.add ((i:Int).toNat*k))) (((i:Int)+1).toNat - (i:Int).toNat) (c - (i:Int).toNat)) [x]:=by
 have hi:=(zox.1 hx).1
 have h1:=(h.drop i (by omega)).take 1 (by rw [List.length_drop];omega)
 rw [zaC hx] at h1
 rw [zoF,show ((i:Int)+1).toNat - i=1 by omega]
 exact h1
theorem qL {w w1 w2:World} {vo vo':Value} {n:Nat} {xs:List Value} (hE:Ext w w1) (hf:∀ g,vo.ownBlock=some g->w.heap.size<=g) (hk:Keep (fun k=>vo.ownBlock=some k) w1 w2) (hfr:vo'.ownBlock=vo.ownBlock\/∃ g,vo'.ownBlock=some g/\w1.heap.size<=g) (_:w1.ownsRow 0 65 4 vo n xs) :
  Ext w w2/\(∀ g,vo'.ownBlock=some g->w.heap.size<=g):=by
 refine⟨Keep.trans hE hk (fun k hk h=>by have:=hf k h;omega),fun g hg=>?_⟩
 rcases hfr with h | ⟨g',h,h'⟩
 . exact hf g (by rw [<- h];exact hg)
 ·
  rw [h] at hg;cases hg
  have:=hE.size
  omega
theorem kG {w1 w2:World} {vo:Value} {n:Nat} {xs:List Value} {c:Nat} {cs:List Value} {e:TypeId} (ho:w1.ownsRow 0 65 4 vo n xs) (hk:Keep (fun k=>vo.ownBlock=some k) w1 w2) (hb:Blk w1 c cs e) (he:e ≠ 65):Blk w2 c cs e :=
 hk.blk hb (fun h=>by obtain⟨cs',hb'⟩:=yx ho h;exact he (hb.ty hb').1)
theorem zgr (x:Nd):[x].flatMap qv=qv x:=by simp
theorem qM (l:List Nd):∀ u ∈ l.flatMap qv,u.oneCell'=true:=by
 intro u hu
 obtain⟨x,_,hx⟩:=List.mem_flatMap.1 hu
 exact qV x u hx
theorem ja (l:List St):∀ a n e,(layL l a n e).length<=widL l:=by
 induction l using zm4 with
 | h l ih =>
 have key:∀ r:List St,(∀ x ∈ r,x ∈ l)->∀ a n e,(layL r a n e).length<=widL r:=by
  intro r
  induction r with
  | nil=>intro _ a n e;simp [layL]
  | cons s r ihr =>
   intro hm a n e
   have h1:=(ih s (hm s (zon ..))).1
   have h2:=(ih s (hm s (zon ..))).2
   have h3:=ihr (fun y hy=>hm y (zom _ hy)) (a+s.size) (n+s.wid) e
   have hw:=s.wid_eq
   have h4:∀ a n e,(s.lay a n e).length<=s.wid:=by
    intro a n e
    rw [s.lay_eq]
    split
    ·
     rw [zoM,zor]
     have:=h1 (a+1) (n+1) e
     have:=h2 (a+1+ssize s.thn) (n+1+widL s.thn) e
     omega
    ·
     split
     ·
      rename_i a4
      rw [zou a4] at hw
      have:=h1 (a+1) (n+2) (n+1)
      simp only [zoM]
      omega
     . simp;omega
   have:=h4 a n (if r.isEmpty=true then e else n+s.wid)
   rw [layL,zor,widL]
   omega
 exact key l (fun x h=>h)
theorem zb5 {α:Type} {l:List α} (h:(0:Int)<(l.length:Int)):l.isEmpty=false:=by cases l <;> simp_all
theorem zb6 {α:Type} {l:List α} (h:¬ (0:Int)<(l.length:Int)):l.isEmpty=true:=by
 cases l
 . rfl
 . simp at h
theorem zjU (l:List St):∀ (v:Value) (D:Nat->Prop) (w:World) (at_ node after:Nat),SlR 10 RSt D w v l->ssize l<=10000->at_+ssize l<=100000->node+widL l<=100000->Calls Tryz.prog 67 #[v,.int .i64 at_,.int .i64 node,.int .i64 after] w (Ret fun r w'=>w'.ownsRow 0 65 4 r (layL l at_ node after).length ((layL l at_ node after).flatMap qv)/\(∀ g,r.ownBlock=some g->w.heap.size<=g)/\Ext w w'):=by
 induction l using zm4 with
 | h l ih =>
 intro v D0 w at_ node after hl00 hsz hat hnode
 have hl0:=hl00.narrow (by decide) jz
 generalize hDD:(fun b=>D0 b/\b<w.heap.size)=D at hl0
 have hDw:∀ q,D q->q<w.heap.size:=fun q h=>by rw [<- hDD] at h;exact h.2
 have hlen:=qT l
 have hwl:=yU l
 obtain⟨av,cv,rfl⟩:=hl0.form
 have hmx:=hl0.max
 have hcap:=hl0.len_cap.2
 refine zmx Tryz.func67 O Tryz.ntmps67 O (Gs 19 O (G.loop (σ:=Nat × Value) (fun⟨i,vo⟩=>[(0,.slice av l.length cv),(1,.int .i64 (at_+ssize (l.take i):Nat)),(2,.int .i64 (node+widL (l.take i):Nat)),(3,.int .i64 after),(9,vo),(17,.slice av l.length cv),(18,.int .i64 l.length),(19,.int .i64 i)]) (fun⟨i,vo⟩=>fun w'=>i<=l.length/\(∃ pre:List Nd,w'.ownsRow 0 65 4 vo pre.length (pre.flatMap qv)/\pre.length<=widL (l.take i)/\pre++layL (l.drop i) (at_+ssize (l.take i)) (node+widL (l.take i)) after=layL l at_ node after)/\(∀ g,vo.ownBlock=some g->w.heap.size<=g)/\Ext w w') (fun⟨i,vo⟩=>l.length - i) ((0,.slice none 0 0)) (Sub.of O) (⟨zoy _,⟨[],kn _ _ _,by simp,by simp [ssize,widL]⟩,fun g hg=>by simp [Value.ownBlock] at hg,Keep.refl _ _⟩) ?_))
 rintro⟨i,vo⟩ w1 ⟨hi,⟨pre,ho,hpl,hpre⟩,hf,hE⟩
 show G _ _ _ _ _ [(0,.slice av l.length cv),(1,.int .i64 (at_+ssize (l.take i):Nat)),(2,.int .i64 (node+widL (l.take i):Nat)),(3,.int .i64 after),(9,vo),(17,.slice av l.length cv),(18,.int .i64 l.length),(19,.int .i64 i)] _
 have hl:=hl0.ext zb hE
 refine Gs 6 O (zkF O (fun hlt=>?_) (fun hge=>?_))
 ·
  obtain⟨s,he⟩:∃ x,l[i]?=some x:=⟨_,zoj (by omega)⟩
  have hm:=zok he
  obtain⟨bq,oq,cq,haq,_,hcq,hRq⟩:=hl.at he
  have hone:=hRq.one
  have hws:=kq he
  have hwt:=zaz he
  have hzs:=yT he
  have hzt:=qS he
  have hwe:=s.wid_eq
  have hze:=s.size_eq
  have hwl1:=yU s.thn
  have hwl2:=yU s.els
  obtain⟨v1,v2,v3,v4,rfl,q1,q2,q3,q4⟩:=hRq.get
  obtain⟨p2,n2,rfl⟩:=q2.form
  obtain⟨p3,n3,rfl⟩:=q3.form
  rw [zaC he,layL] at hpre
  generalize hA:at_+ssize (l.take i)=A at *
  generalize hN:node+widL (l.take i)=N at *
  refine Gs 7 O (zmk O O (zlh tR24 ts72 O O haq (by omega)) (zmq O tg72 ts72 hcq O (zlr O O (M.alloc (cs:=_) tz72 O) ?_)))
  rintro _ w2 ⟨c,rfl,hc,hsc,hBc0,hk2⟩
  refine Gs 1 O (zlw O (zlx ts72 O O O O hone hBc0 (by simp)) ?_)
  rintro w3 ⟨_,hBc,hkc⟩
  have hk3:Ext w1 w3:=hk2.trans hkc (fun q hq h=>by have h:q=c:=h;omega)
  replace hE:=hE.ext hk3
  replace ho:=zj ho hk3 (fun _ _ h=>h)
  replace hBc:Blk w3 c [.int .i64 s.act,.int .i64 s.cost,.int .i64 s.var,.int .i64 s.n,.int .i64 s.term.op,.int .i64 s.term.n,v1,.slice p2 s.thn.length n2,.slice p3 s.els.length n3,v4] 72:=hBc
  refine Ga 9 O (by omega) (zmk O O (zlm tR24 ts72 O O O (by omega) (by omega)) (G.call O tc66 (zae [s] _ D _ (zo0 (hl.ext zb hk3) he) (by simp only [ssize];omega)) ?_))
  rintro _ w4 ⟨rfl,hk4⟩
  replace hE:=hE.ext hk4
  replace ho:=zj ho hk4 (fun _ _ h=>h)
  replace hBc:=hk4.blk hBc (fun h=>h)
  have hw1:widL [s]=s.wid:=by simp [widL]
  rw [hw1]
  refine Ga 20 O (by omega) (zkQ (σ:=Unit) (fun u=>[(0,.slice av l.length cv),(1,.int .i64 A),(2,.int .i64 N),(3,.int .i64 after),(9,vo),(10,.int .i64 i),(11,.pointer (some ⟨c,0,none⟩)),(12,.int .i64 ((N:Int)+s.wid)),(13,.int .i64 (if (l.drop (i+1)).isEmpty then after else N+s.wid:Nat)),(17,.slice av l.length cv),(18,.int .i64 l.length),(19,.int .i64 i)]) (fun u=>fun w'=>w'=w4) ?_ ?_)
  ·
   refine zkF O (fun hl1=>?_) (fun hl1=>?_)
   ·
    have e:(l.drop (i+1)).isEmpty=true:=by rw [List.isEmpty_iff,List.drop_eq_nil_iff];omega
    refine Gs 4 O (zkS (()) (Sub.cons O (Sub.cons O (Sub.cons O (Sub.cons O (Sub.cons O (Sub.cons O (Sub.cons O (Sub.cons O (Sub.cons (yo O (by rw [zou e])) (Sub.of O)))))))))) (rfl))
   ·
    have e:¬ (l.drop (i+1)).isEmpty=true:=by rw [List.isEmpty_iff,List.drop_eq_nil_iff];omega
    refine Gs 1 O (zkS (()) (Sub.cons O (Sub.cons O (Sub.cons O (Sub.cons O (Sub.cons O (Sub.cons O (Sub.cons O (Sub.cons O (Sub.cons (yo O (by rw [zot e];omega)) (Sub.of O)))))))))) (rfl))
  rintro u w4' hw4
  subst hw4
  generalize hX:(if (l.drop (i+1)).isEmpty then after else N+s.wid)=X at *
  refine Gs 5 O (zmo O tg66 (hBc.cells 0 _ O) (Gs 9 O (zkQ (σ:=Value) (fun vo'=>[(0,.slice av l.length cv),(1,.int .i64 A),(2,.int .i64 N),(3,.int .i64 after),(9,vo'),(10,.int .i64 i),(11,.pointer (some ⟨c,0,none⟩)),(12,.int .i64 ((N:Int)+s.wid)),(17,.slice av l.length cv),(18,.int .i64 l.length),(19,.int .i64 i)]) (fun vo'=>fun w'=>w'.ownsRow 0 65 4 vo' (pre++s.lay A N X).length ((pre++s.lay A N X).flatMap qv)/\(pre++s.lay A N X).length<=widL (l.take (i+1))/\(∀ g,vo'.ownBlock=some g->w.heap.size<=g)/\Ext w w') ?_ ?_)))
  ·
   refine zkF O (fun a3=>?_) (fun a3=>?_)
   ·
    rw [zot (show ¬ s.act=4 by omega)] at hwe
    refine Gs 12 O (zmo O tg24 (hBc.cells 7 _ O) (Gs 4 O (zkQ (σ:=Unit) (fun u=>[(0,.slice av l.length cv),(1,.int .i64 A),(2,.int .i64 N),(3,.int .i64 after),(9,vo),(10,.int .i64 i),(11,.pointer (some ⟨c,0,none⟩)),(12,.int .i64 ((N:Int)+s.wid)),(13,.int .i64 X),(17,.slice av l.length cv),(18,.int .i64 l.length),(19,.int .i64 i),(14,.int .i64 (if s.thn.isEmpty then X else N+1:Nat)),(15,.int .i64 X)]) (fun u=>fun w'=>w'=w4') ?_ ?_)))
    ·
     refine zkF O (fun g1=>?_) (fun g1=>?_)
     . refine Ga 5 O (by omega) (zkS (()) (Sub.cons O (Sub.cons O (Sub.cons O (Sub.cons O (Sub.cons O (Sub.cons O (Sub.cons O (Sub.cons O (Sub.cons O (Sub.cons O (Sub.cons O (Sub.cons O (Sub.cons (yo O (by rw [zb5 g1];simp)) (Sub.of O)))))))))))))) (rfl))
     . refine Gs 1 O (zkS (()) (Sub.cons O (Sub.cons O (Sub.cons O (Sub.cons O (Sub.cons O (Sub.cons O (Sub.cons O (Sub.cons O (Sub.cons O (Sub.cons O (Sub.cons O (Sub.cons O (Sub.cons (yo O (by rw [zb6 g1];simp)) (Sub.of O)))))))))))))) (rfl))
    rintro u w5 hw5
    subst hw5
    refine Gs 5 O (zmo O tg24 (hBc.cells 8 _ O) (Gs 4 O (zkQ (σ:=Unit) (fun u=>[(0,.slice av l.length cv),(1,.int .i64 A),(2,.int .i64 N),(3,.int .i64 after),(9,vo),(10,.int .i64 i),(11,.pointer (some ⟨c,0,none⟩)),(12,.int .i64 ((N:Int)+s.wid)),(13,.int .i64 X),(17,.slice av l.length cv),(18,.int .i64 l.length),(19,.int .i64 i),(14,.int .i64 (if s.thn.isEmpty then X else N+1:Nat)),(15,.int .i64 (if s.els.isEmpty then X else N+1+widL s.thn:Nat))]) (fun u=>fun w'=>Ext w5 w') ?_ ?_)))
    ·
     refine zkF O (fun g1=>?_) (fun g1=>?_)
     ·
      refine Ga 4 O (by omega) (zmo O tg24 (hBc.cells 7 _ O) (G.call O tc66 (zae s.thn _ D _ (q2.ext zb (hk3.ext hk4)) (by omega)) ?_))
      rintro _ w5 ⟨rfl,hk5⟩
      refine Ga 3 O (by omega) (zkS (()) (Sub.cons O (Sub.cons O (Sub.cons O (Sub.cons O (Sub.cons O (Sub.cons O (Sub.cons O (Sub.cons O (Sub.cons O (Sub.cons O (Sub.cons O (Sub.cons O (Sub.cons O (Sub.cons (yo O (by rw [zb5 g1];simp)) Sub.nil)))))))))))))) (hk5))
     . refine Gs 1 O (zkS (()) (Sub.cons O (Sub.cons O (Sub.cons O (Sub.cons O (Sub.cons O (Sub.cons O (Sub.cons O (Sub.cons O (Sub.cons O (Sub.cons O (Sub.cons O (Sub.cons O (Sub.cons O (Sub.cons (yo O (by rw [zb6 g1];simp)) Sub.nil)))))))))))))) (Keep.refl _ _))
    rintro u w6 hk5
    have hE5:=hE.ext hk5
    have ho5:=zj ho hk5 (fun _ _ h=>h)
    have hBc5:=hk5.blk hBc (fun h=>h)
    refine Gs 7 O (zmk O O (R.build (v:=.agg #[.int .i64 3,.int .i64 A,.int .i64 (if s.thn.isEmpty then X else N+1:Nat),.int .i64 (if s.els.isEmpty then X else N+1+widL s.thn:Nat)]) [(0,_),(1,_),(2,_),(3,_)] O (fun _=>by kernel_rfl)) (zlr O O (M.buildSlice (cs:=qv ⟨3,A,(if s.thn.isEmpty then X else N+1:Nat),(if s.els.isEmpty then X else N+1+widL s.thn:Nat)⟩) [(0,_)] tR34 ts65 tz65 (by decide) O (by kernel_rfl)) ?_))
    rintro _ w6 ⟨g6,rfl,hg6,hs6,hB6,hk6⟩
    have hE6:=hE5.ext hk6
    have ho6:=zj ho5 hk6 (fun _ _ h=>h)
    have hBc6:=hk6.blk hBc5 (fun h=>h)
    refine zlr O O (M.append tu34 Tryz.el65 O (by decide) O O ho6 O (Cells.add hB6.cells) (qV _) (by omega) (by omega)) ?_
    rintro vo7 w7 ⟨ho7,hf7,hk7,_⟩
    obtain⟨hE7,hfr7⟩:=qL hE6 hf hk7 hf7 ho6
    have hBc7:=kG ho6 hk7 hBc6 (by decide)
    have hA7:Above w.heap.size w1 w7:=Above.then (znn ((hk3.ext hk4).ext (hk5.ext hk6))) (znq hk7 hf)
    refine Gs 7 O (zmo O tg24 (hBc7.cells 7 _ O) (Ga 5 O (by omega) (G.call O Tryz.call67 ((ih s hm).1 _ D w7 (A+1) (N+1) X (hA7.sl zb q2 hDw) (by omega) (by omega) (by omega)) ?_)))
    rintro r8 w8 ⟨hr8,hrf8,hk8⟩
    have hE8:=hE7.ext hk8
    have ho8:=zj ho7 hk8 (fun _ _ h=>h)
    have hBc8:=hk8.blk hBc7 (fun h=>h)
    have hll8:=ja s.thn (A+1) (N+1) X
    refine zlr O O (zmC tu34 Tryz.el65 O (by decide) O O ho8 hr8 (qM _) (by omega) (by omega)) ?_
    rintro vo9 w9 ⟨ho9,hf9,hk9⟩
    obtain⟨hE9,hfr9⟩:=qL hE8 hfr7 hk9 hf9 ho8
    have hBc9:=kG ho8 hk9 hBc8 (by decide)
    have hA9:=Above.then (hA7.ext' hk8) (znq hk9 hfr7)
    refine Gs 3 O (Dw (fun q=>Blk q c [.int .i64 s.act,.int .i64 s.cost,.int .i64 s.var,.int .i64 s.n,.int .i64 s.term.op,.int .i64 s.term.n,v1,.slice p2 s.thn.length n2,.slice p3 s.els.length n3,v4] 72) [] (fun x0 xk0 _=>?_))
    have xE0:=hE9.ext xk0
    have xA0:=hA9.ext' xk0
    have xo0:=zj ho9 xk0 (fun _ _ h=>h)
    have xB0:=xk0.blk hBc9 (fun h=>h)
    refine Ds [0,1] (by kernel_rfl) O (WD.take 2 O (by kernel_rfl) O O O xB0 (fun w1 hw1=>R.load tg24 O (hw1.cells 8 _ O)) (Da [3,4,5] (by kernel_rfl) O (by omega) (WD.take 6 O (by kernel_rfl) O O O xB0 (fun w1 hw1=>R.load tg24 O (hw1.cells 7 _ O)) (Da [9,10,11] (by kernel_rfl) O (by omega) (WD.take 12 O (by kernel_rfl) O O O xB0 (fun w1 hw1=>R.load tg24 O (hw1.cells 7 _ O)) (Ds [15] (by kernel_rfl) O (WD.call 7 O (by kernel_rfl) O O O (F.call (vs:=[_]) tc56 O) (qW s.thn _ D x0 (xA0.sl zb q2 hDw) (by omega)) ?_)))))))
    rintro _ x1 ⟨rfl,xk1⟩
    have xE1:=xE0.ext xk1
    have xA1:=xA0.ext' xk1
    have xo1:=zj xo0 xk1 (fun _ _ h=>h)
    have xB1:=xk1.blk xB0 (fun h=>h)
    refine⟨fun _=>xB1,?_⟩
    refine Da [8] (by kernel_rfl) O (by omega) (WD.call 13 O (by kernel_rfl) O O O (F.call (vs:=[_]) tc66 O) (zae s.thn _ D x1 (xA1.sl zb q2 hDw) (by omega)) ?_)
    rintro _ x2 ⟨rfl,xk2⟩
    have xE2:=xE1.ext xk2
    have xA2:=xA1.ext' xk2
    have xo2:=zj xo1 xk2 (fun _ _ h=>h)
    have xB2:=xk2.blk xB1 (fun h=>h)
    refine⟨fun _=>xB2,?_⟩
    refine Da [14] (by kernel_rfl) O (by omega) (WD.call 16 O (by kernel_rfl) O O O (F.call (vs:=[_,_,_,_]) Tryz.call67 O) ((ih s hm).2 _ D x2 (A+1+ssize s.thn) (N+1+widL s.thn) X (xA2.sl zb q3 hDw) (by omega) (by omega) (by omega)) ?_)
    rintro r3 x3 ⟨xr3,xrf3,xk3⟩
    have xE3:=xE2.ext xk3
    have xo3:=zj xo2 xk3 (fun _ _ h=>h)
    have xB3:=xk3.blk xB2 (fun h=>h)
    refine⟨fun _=>xB3,?_⟩
    have hll3:=ja s.els (A+1+ssize s.thn) (N+1+widL s.thn) X
    refine zlq 17 O (by kernel_rfl) O O O (zmC tu34 Tryz.el65 O (by decide) O O xo3 xr3 (qM _) (by omega) (by omega)) ?_
    rintro vo4 x4 ⟨xo4,xf4,xk4⟩
    obtain⟨xE4,xfr4⟩:=qL xE3 hfr9 xk4 xf4 xo3
    have xB4:=kG xo3 xk4 xB3 (by decide)
    refine⟨fun _=>xB4,?_⟩
    refine Ds [18] (by kernel_rfl) O (G.done (by kernel_rfl) ?_ _)
    have e5:pre++s.lay A N X=pre++[⟨3,A,(if s.thn.isEmpty then X else N+1:Nat),(if s.els.isEmpty then X else N+1+widL s.thn:Nat)⟩]++layL s.thn (A+1) (N+1) X++layL s.els (A+1+ssize s.thn) (N+1+widL s.thn) X:=by
     rw [s.lay_eq,zou a3]
     simp only [List.append_assoc,List.cons_append,List.nil_append,apply_ite (Nat.cast (R:=Int))]
    have e6:(pre++s.lay A N X).length=pre.length+1+(layL s.thn (A+1) (N+1) X).length+(layL s.els (A+1+ssize s.thn) (N+1+widL s.thn) X).length:=by rw [e5];simp only [zor,zoE]
    refine zkS (vo4) (Sub.of O) (⟨?_,by rw [e6];omega,xfr4,xE4⟩)
    rw [e6,e5,List.flatMap_append,List.flatMap_append,List.flatMap_append,zgr]
    exact xo4
   ·
    refine Gs 6 O (zkF O (fun a4=>?_) (fun a4=>?_))
    ·
     rw [zou a4] at hwe
     refine Ga 11 O (by omega) (zmo O tg24 (hBc.cells 7 _ O) (Gs 4 O (zkQ (σ:=Unit) (fun u=>[(0,.slice av l.length cv),(1,.int .i64 A),(2,.int .i64 N),(3,.int .i64 after),(9,vo),(10,.int .i64 i),(11,.pointer (some ⟨c,0,none⟩)),(12,.int .i64 ((N:Int)+s.wid)),(13,.int .i64 X),(17,.slice av l.length cv),(18,.int .i64 l.length),(19,.int .i64 i),(16,.int .i64 (if s.thn.isEmpty then N+1 else N+2:Nat))]) (fun u=>fun w'=>w'=w4') ?_ ?_)))
     ·
      refine zkF O (fun g1=>?_) (fun g1=>?_)
      . refine Ga 5 O (by omega) (zkS (()) (Sub.cons O (Sub.cons O (Sub.cons O (Sub.cons O (Sub.cons O (Sub.cons O (Sub.cons O (Sub.cons O (Sub.cons O (Sub.cons O (Sub.cons O (Sub.cons O (Sub.cons (yo O (by rw [zb5 g1];simp)) Sub.nil))))))))))))) (rfl))
      . refine Gs 1 O (zkS (()) (Sub.cons O (Sub.cons O (Sub.cons O (Sub.cons O (Sub.cons O (Sub.cons O (Sub.cons O (Sub.cons O (Sub.cons O (Sub.cons O (Sub.cons O (Sub.cons O (Sub.cons (yo O (by rw [zb6 g1];simp)) Sub.nil))))))))))))) (rfl))
     rintro u w5 hw5
     subst hw5
     refine Ga 7 O (by omega) (zmk O O (R.build (v:=.agg #[.int .i64 4,.int .i64 A,.int .i64 ((N:Int)+1),.int .i64 (-1)]) [(0,_),(1,_),(2,_),(3,_)] O (fun _=>by kernel_rfl)) (Gs 3 O (zmk O O (R.build (v:=.agg #[.int .i64 5,.int .i64 A,.int .i64 (if s.thn.isEmpty then N+1 else N+2:Nat),.int .i64 X]) [(0,_),(1,_),(2,_),(3,_)] O (fun _=>by kernel_rfl)) (zlr O O (M.buildSlice (cs:=[(⟨4,A,(N+1:Nat),-1⟩:Nd),⟨5,A,(if s.thn.isEmpty then N+1 else N+2:Nat),X⟩].flatMap qv) [(0,_),(1,_)] tR34 ts65 tz65 (by decide) O (by kernel_rfl)) ?_))))
     rintro _ w6 ⟨g6,rfl,hg6,hs6,hB6,hk6⟩
     have hE6:=hE.ext hk6
     have ho6:=zj ho hk6 (fun _ _ h=>h)
     have hBc6:=hk6.blk hBc (fun h=>h)
     refine zlr O O (M.append tu34 Tryz.el65 O (by decide) O O ho6 O (Cells.add hB6.cells) (qM _) (by omega) (by omega)) ?_
     rintro vo7 w7 ⟨ho7,hf7,hk7,_⟩
     obtain⟨hE7,hfr7⟩:=qL hE6 hf hk7 hf7 ho6
     have hBc7:=kG ho6 hk7 hBc6 (by decide)
     have hA7:Above w.heap.size w1 w7:=Above.then (znn ((hk3.ext hk4).ext hk6)) (znq hk7 hf)
     refine Gs 6 O (zmo O tg24 (hBc7.cells 7 _ O) (Ga 6 O (by omega) (G.call O Tryz.call67 ((ih s hm).1 _ D w7 (A+1) (N+2) (N+1) (hA7.sl zb q2 hDw) (by omega) (by omega) (by omega)) ?_)))
     rintro r8 w8 ⟨hr8,hrf8,hk8⟩
     have hE8:=hE7.ext hk8
     have ho8:=zj ho7 hk8 (fun _ _ h=>h)
     have hll8:=ja s.thn (A+1) (N+2) (N+1)
     refine zlr O O (zmC tu34 Tryz.el65 O (by decide) O O ho8 hr8 (qM _) (by omega) (by omega)) ?_
     rintro vo9 w9 ⟨ho9,hf9,hk9⟩
     obtain⟨hE9,hfr9⟩:=qL hE8 hfr7 hk9 hf9 ho8
     refine Gs 2 O ?_
     have e5:pre++s.lay A N X=pre++[⟨4,A,(N+1:Nat),-1⟩,⟨5,A,(if s.thn.isEmpty then N+1 else N+2:Nat),X⟩]++layL s.thn (A+1) (N+2) (N+1):=by
      rw [s.lay_eq,zot a3,zou a4]
      simp only [List.append_assoc,List.cons_append,List.nil_append,apply_ite (Nat.cast (R:=Int))]
     have e6:(pre++s.lay A N X).length=pre.length+2+(layL s.thn (A+1) (N+2) (N+1)).length:=by rw [e5];simp only [zor,zoM,List.length_nil]
     refine zkS (vo9) (Sub.of O) (⟨?_,by rw [e6];omega,hfr9,hE9⟩)
     rw [e6,e5,List.flatMap_append,List.flatMap_append]
     exact ho9
    ·
     rw [zot a4] at hwe
     refine Gs 4 O (zmk O O (R.build (v:=.agg #[.int .i64 2,.int .i64 A,.int .i64 X,.int .i64 (-1)]) [(0,_),(1,_),(2,_),(3,_)] O (fun _=>by kernel_rfl)) (zlr O O (M.buildSlice (cs:=qv ⟨2,A,X,-1⟩) [(0,_)] tR34 ts65 tz65 (by decide) O (by kernel_rfl)) ?_))
     rintro _ w6 ⟨g6,rfl,hg6,hs6,hB6,hk6⟩
     have hE6:=hE.ext hk6
     have ho6:=zj ho hk6 (fun _ _ h=>h)
     refine zlr O O (M.append tu34 Tryz.el65 O (by decide) O O ho6 O (Cells.add hB6.cells) (qV _) (by omega) (by omega)) ?_
     rintro vo7 w7 ⟨ho7,hf7,hk7,_⟩
     obtain⟨hE7,hfr7⟩:=qL hE6 hf hk7 hf7 ho6
     refine Gs 2 O ?_
     have e5:pre++s.lay A N X=pre++[⟨2,A,X,-1⟩]:=by rw [s.lay_eq,zot a3,zot a4]
     have e6:(pre++s.lay A N X).length=pre.length+1:=by rw [e5];simp
     refine zkS (vo7) (Sub.of O) (⟨?_,by rw [e6];omega,hfr7,hE7⟩)
     rw [e6,e5,List.flatMap_append,zgr]
     exact ho7
  ·
   rintro vo' w5 ⟨ho5,hpl5,hf5,hE5⟩
   show G _ _ _ _ _ [(0,.slice av l.length cv),(1,.int .i64 A),(2,.int .i64 N),(3,.int .i64 after),(9,vo'),(10,.int .i64 i),(11,.pointer (some ⟨c,0,none⟩)),(12,.int .i64 ((N:Int)+s.wid)),(17,.slice av l.length cv),(18,.int .i64 l.length),(19,.int .i64 i)] _
   have hl5:=hl0.ext zb hE5
   refine Ga 9 O (by omega) (zmk O O (zlm tR24 ts72 O O O (by omega) (by omega)) (G.call O tc56 (qW [s] _ D _ (zo0 hl5 he) (by simp only [ssize];omega)) ?_))
   rintro _ w6 ⟨rfl,hk6⟩
   have hz1:ssize [s]=s.size:=by simp [ssize]
   rw [hz1]
   refine Ga 14 O (by omega) (G.back ((i+1,vo')) (Sub.cons O (Sub.cons (yo O (by omega)) (Sub.cons (yo O (by omega)) (Sub.of O)))) (⟨by omega,⟨pre++s.lay A N X,zj ho5 hk6 (fun _ _ h=>h),hpl5,?_⟩,hf5,hE5.ext hk6⟩) (by first | omega | (dsimp only;omega)))
   rw [<- hpre,List.append_assoc,show at_+ssize (l.take (i+1))=A+s.size by omega,show node+widL (l.take (i+1))=N+s.wid by omega]
 ·
  have hii:i=l.length:=by omega
  subst hii
  rw [List.drop_length,layL,List.append_nil] at hpre
  refine Gs 12 O (zkV Tryz.results67 O ⟨_,rfl,by rw [<- hpre];exact ho,hf,hE⟩)
theorem zdO (f:Fl) (v1 v2 v3:Value) (D:Nat->Prop) (w:World) (hf:RFl D w f v1 v2 v3) (hsz:ssize f.body<=10000) :
  Calls Tryz.prog 33 #[.agg #[v1,v2,v3]] w (Ret fun r w'=>(∃ nv,r=.agg #[nv]/\SlR 4 RNd (fun b=>w.heap.size<=b) w' nv (zh f))/\Ext w w'):=by
 have hwl:=yU f.body
 have hll:=ja f.body 0 1 (1+widL f.body)
 refine zmu Tryz.func33 O Tryz.ntmps33 O (Gs 2 O (zlr O O (M.box O O) ?_))
 rintro _ w1 ⟨c,rfl,hc,hs1,hBc,hk1⟩
 refine zlr O O (M.alloc (cs:=[.slice none 0 0]) tz36 O) ?_
 rintro _ w2 ⟨r,rfl,hr,hs2,hBr,hk2⟩
 replace hBc:=hk2.blk hBc (fun h=>h)
 have hE2:=hk1.ext hk2
 refine Gs 5 O (zmo O tg24 (hBc.cells 2 _ O) (G.call O tc66 (zae f.body _ D w2 (hf.body.ext zb hE2) (by omega)) ?_))
 rintro _ w3 ⟨rfl,hk3⟩
 replace hBc:=hk3.blk hBc (fun h=>h)
 replace hBr:=hk3.blk hBr (fun h=>h)
 have hE3:=hE2.ext hk3
 refine Ga 6 O (by omega) (zmk O O (R.build (v:=.agg #[.int .i64 0,.int .i64 (-1),.int .i64 1,.int .i64 (-1)]) [(0,_),(1,_),(2,_),(3,_)] O (fun _=>by kernel_rfl)) (zlr O O (M.buildSlice (cs:=qv ⟨0,-1,1,-1⟩) [(0,_)] tR34 ts65 tz65 (by decide) O (by kernel_rfl)) ?_))
 rintro _ w4 ⟨g4,rfl,hg4,hs4,hB4,hk4⟩
 replace hBc:=hk4.blk hBc (fun h=>h)
 replace hBr:=hk4.blk hBr (fun h=>h)
 have hE4:=hE3.ext hk4
 have ho4:w4.ownsRow 0 65 4 (.slice (some ⟨g4,0,none⟩) 1 1) 1 (qv ⟨0,-1,1,-1⟩):=ym (k:=4) (n:=1) (cap:=1) hB4 (zoI _) (by decide) rfl
 have hf4:∀ g,Value.ownBlock (.slice (some ⟨g4,0,none⟩) 1 1)=some g->w.heap.size<=g:=fun g hg=>by
  obtain rfl:g4=g:=Option.some.inj hg
  have:=hE3.size;omega
 refine Gs 7 O (zmo O tg24 (hBc.cells 2 _ O) (Gs 1 O (G.call O Tryz.call67 (zjU f.body _ D w4 0 1 (1+widL f.body) (hf.body.ext zb hE4) hsz (by omega) (by omega)) ?_)))
 rintro r5 w5 ⟨hr5,hrf5,hk5⟩
 replace hBr:=hk5.blk hBr (fun h=>h)
 have hE5:=hE4.ext hk5
 have ho5:=zj ho4 hk5 (fun _ _ h=>h)
 refine zlr O O (zmC tu34 Tryz.el65 O (by decide) O O ho5 hr5 (qM _) (by omega) (by omega)) ?_
 rintro v6 w6 ⟨ho6,hf6,hk6⟩
 obtain⟨hE6,hfr6⟩:=qL hE5 hf4 hk6 hf6 ho5
 replace hBr:=kG ho5 hk6 hBr (by decide)
 refine Gs 6 O (zmk O O (R.build (v:=.agg #[.int .i64 1,.int .i64 (-1),.int .i64 (-1),.int .i64 (-1)]) [(0,_),(1,_),(2,_),(3,_)] O (fun _=>by kernel_rfl)) (zlr O O (M.buildSlice (cs:=qv ⟨1,-1,-1,-1⟩) [(0,_)] tR34 ts65 tz65 (by decide) O (by kernel_rfl)) ?_))
 rintro _ w7 ⟨g7,rfl,hg7,hs7,hB7,hk7⟩
 replace hBr:=hk7.blk hBr (fun h=>h)
 have hE7:=hE6.ext hk7
 have ho7:=zj ho6 hk7 (fun _ _ h=>h)
 refine zlr O O (M.append tu34 Tryz.el65 O (by decide) O O ho7 O (Cells.add hB7.cells) (qV _) (by omega) (by omega)) ?_
 rintro v8 w8 ⟨ho8,hf8,hk8,_⟩
 obtain⟨hE8,hfr8⟩:=qL hE7 hfr6 hk8 hf8 ho7
 replace hBr:=kG ho7 hk8 hBr (by decide)
 obtain⟨av,cv,rfl⟩:=xL ho8
 refine zmk O O (R.build (v:=.agg #[.slice av (1+(layL f.body 0 1 (1+widL f.body)).length+1) cv]) [(0,_)] O (fun _=>by kernel_rfl)) (zlw O (zlx ts36 O O O O (by simp [Value.oneCell']) hBr (by simp)) ?_)
 rintro wf ⟨_,hBf,hkf⟩
 have hown':=zj ho8 hkf (fun g hg h=>by
  obtain⟨cs',hb'⟩:=yx ho8 hg
  exact hb'.ne hBr (by decide) h)
 refine Gs 3 O (zl3 Tryz.results33 O (zi tg36 ts36 O hBf.cells) ?_)
 refine⟨_,rfl,⟨_,rfl,?_⟩,hE8.trans hkf (fun q hq h=>by have h:q=r:=h;have:=hk1.size;omega)⟩
 refine zlN (by decide) qv zR (fun _ _=>rfl) (n:=1+(layL f.body 0 1 (1+widL f.body)).length+1) (e:=65) ?_ hfr8
 unfold zh
 rw [List.flatMap_cons,List.flatMap_append,zgr,<- List.append_assoc]
 exact hown'
def InE (ns:List Nd) (n e1 e2:Nat):Prop:=∀ x ∈ ns,∀ to,to=x.next\/to=x.other->to=-1\/to=(e1:Int)\/to=(e2:Int)\/((n:Int)<=to/\to<(n+ns.length:Nat))
structure LoopAt (ns:List Nd) (n j:Nat) (y:Nd) (E:Nat):Prop where
 pos:0<j
 lt:n+j<E
 le:E<=n+ns.length
 out:y.other<((n+j:Nat):Int)\/(E:Int)<=y.other
 only:∀ (i:Nat) x,ns[i]?=some x->∀ to,to=x.next\/to=x.other->((n+j:Nat):Int)<=to->to<(E:Int)->(j<=i/\n+i<E)\/(i+1=j/\x.kind=4/\to=((n+j:Nat):Int))
def Loops (ns:List Nd) (n:Nat):Prop:=∀ (j:Nat) y,ns[j]?=some y->y.kind=5->∃ E,LoopAt ns n j y E
theorem InE.append {A B:List Nd} {n e1 e2 f1 f2 g1 g2:Nat} (hA:InE A n e1 e2) (hB:InE B (n+A.length) f1 f2) (he:∀ e,e=e1\/e=e2->e=g1\/e=g2\/n+A.length<=e/\e<n+A.length+B.length) (hf:∀ e,e=f1\/e=f2->e=g1\/e=g2\/n<=e/\e<n+A.length):InE (A++B) n g1 g2:=by
 intro x hx to h
 rw [zor]
 have p1:=he e1 (.inl rfl)
 have p2:=he e2 (.inr rfl)
 have q1:=hf f1 (.inl rfl)
 have q2:=hf f2 (.inr rfl)
 rcases zoC.1 hx with hx | hx
 ·
  have:=hA x hx to h
  omega
 ·
  have:=hB x hx to h
  omega
theorem Loops.append {A B:List Nd} {n e1 e2 f1 f2:Nat} (lA:Loops A n) (lB:Loops B (n+A.length)) (hA:InE A n e1 e2) (hB:InE B (n+A.length) f1 f2) (h1:∀ e,e=e1\/e=e2->e<=n+A.length\/n+A.length+B.length<=e) (h2:∀ e,e=f1\/e=f2->e<n\/n+A.length+B.length<=e):Loops (A++B) n:=by
 have p1:=h1 e1 (.inl rfl)
 have p2:=h1 e2 (.inr rfl)
 have q1:=h2 f1 (.inl rfl)
 have q2:=h2 f2 (.inr rfl)
 intro j y hy hk
 by_cases hj:j<A.length
 ·
  rw [zoJ hj] at hy
  obtain⟨E,p1,p2,p3,p4,p5⟩:=lA j y hy hk
  refine⟨E,p1,p2,by rw [zor];omega,p4,fun i x hx to h hl hu=>?_⟩
  by_cases hi:i<A.length
  ·
   rw [zoJ hi] at hx
   exact p5 i x hx to h hl hu
  ·
   rw [zoK (by omega)] at hx
   have:=hB x (zok hx) to h
   omega
 ·
  rw [zoK (by omega)] at hy
  obtain⟨E,p1,p2,p3,p4,p5⟩:=lB _ y hy hk
  refine⟨E,by omega,by omega,by rw [zor];omega,by omega,fun i x hx to h hl hu=>?_⟩
  by_cases hi:i<A.length
  ·
   rw [zoJ hi] at hx
   have:=hA x (zok hx) to h
   omega
  ·
   rw [zoK (by omega)] at hx
   rcases p5 _ x hx to h (by omega) hu with h | h
   . exact .inl (by omega)
   . exact .inr ⟨by omega,h.2.1,by omega⟩
theorem zo1 {x:Nd} {n:Nat} (h:x.kind ≠ 5):Loops [x] n:=by
 intro j y hy hk
 cases j with
 | zero=>simp at hy;subst hy;exact absurd hk h
 | succ j=>simp at hy
theorem zcf {l:List St} (h:l.isEmpty=false):1<=widL l:=by
 cases l with
 | nil=>simp at h
 | cons s t=>have:=s.wid_eq;simp only [widL];omega
theorem zgs (l:List St):plainL l=true->∀ a n e:Nat,(e<n\/n+widL l<=e)->InE (layL l a n e) n e e/\Loops (layL l a n e) n:=by
 induction l using zm4 with
 | h l ih =>
 intro hp
 have key:∀ r:List St,(∀ x ∈ r,x ∈ l)->∀ a n e:Nat,(e<n\/n+widL r<=e)->InE (layL r a n e) n e e/\Loops (layL r a n e) n:=by
  intro r
  induction r with
  | nil=>intro _ a n e _;exact⟨fun x hx=>by simp [layL] at hx,fun j y hy=>by simp [layL] at hy⟩
  | cons s r ihr =>
   intro hm a n e hne
   have hs:=yF hp s (hm s (zon ..))
   have hr:plainL r=true:=zaB fun y hy=>yF hp y (hm y (zom _ hy))
   have hps:=hs
   rw [s.plainB_eq,Bool.and_eq_true,Bool.and_eq_true] at hs
   have h1:=(ih s (hm s (zon ..))).1 hs.1.2
   have h2:=(ih s (hm s (zon ..))).2 hs.2
   have hw:=s.wid_eq
   simp only [widL] at hne
   have hlr:=zQ r hr (a+s.size) (n+s.wid) e
   have hlen:(s.lay a n (if r.isEmpty then e else n+s.wid)).length=s.wid:=by
    have h1:=zQ [s] (by rw [plainL,hps];rfl) a n (if r.isEmpty then e else n+s.wid)
    simpa [layL,widL] using h1
   obtain⟨r1,r2⟩:=ihr (fun y hy=>hm y (zom _ hy)) (a+s.size) (n+s.wid) e (by omega)
   rw [layL]
   have he':(if r.isEmpty then e else n+s.wid)=e\/(if r.isEmpty then e else n+s.wid)=n+s.wid/\1<=widL r:=by
    cases hre:r.isEmpty
    . exact .inr ⟨by simp,zcf hre⟩
    . exact .inl (by simp)
   generalize (if r.isEmpty then e else n+s.wid)=e' at hlen he'
   have hne':e'<n\/n+s.wid<=e':=by omega
   have hS:InE (s.lay a n e') n e' e'/\Loops (s.lay a n e') n:=by
    rw [s.lay_eq] at hlen ⊢
    split
    ·
     rename_i a3
     rw [zou a3] at hlen
     rw [zot (show ¬ s.act=4 by omega)] at hw
     obtain⟨t1,t2⟩:=h1 (a+1) (n+1) e' (by omega)
     obtain⟨u1,u2⟩:=h2 (a+1+ssize s.thn) (n+1+widL s.thn) e' (by omega)
     have hl1:=zQ s.thn hs.1.2 (a+1) (n+1) e'
     have hl2:=zQ s.els hs.2 (a+1+ssize s.thn) (n+1+widL s.thn) e'
     generalize hb:layL s.thn (a+1) (n+1) e'=B at t1 t2 hl1 ⊢
     generalize hc:layL s.els (a+1+ssize s.thn) (n+1+widL s.thn) e'=C at u1 u2 hl2 ⊢
     have hT:∀ m1 m2:Nat,m1=(if s.thn.isEmpty then e' else n+1)->m2=(if s.els.isEmpty then e' else n+1+widL s.thn)->InE [(⟨3,a,if s.thn.isEmpty then (e':Int) else (n+1:Nat),if s.els.isEmpty then (e':Int) else (n+1+widL s.thn:Nat)⟩:Nd)] n m1 m2/\(m1=e'\/m1=n+1/\1<=widL s.thn)/\(m2=e'\/m2=n+1+widL s.thn/\1<=widL s.els):=by
      rintro m1 m2 rfl rfl
      refine⟨fun x hx to h=>?_,?_,?_⟩
      ·
       rw [zoB] at hx
       subst hx
       dsimp only at h
       rcases h with rfl | rfl
       . exact .inr (.inl (by split <;> rfl))
       . exact .inr (.inr (.inl (by split <;> rfl)))
      ·
       cases ht:s.thn.isEmpty
       . exact .inr ⟨by simp,zcf ht⟩
       . exact .inl (by simp)
      ·
       cases ht:s.els.isEmpty
       . exact .inr ⟨by simp,zcf ht⟩
       . exact .inl (by simp)
     obtain⟨k1,k2,k3⟩:=hT _ _ rfl rfl
     generalize (if s.thn.isEmpty then e' else n+1)=m1 at k1 k2
     generalize (if s.els.isEmpty then e' else n+1+widL s.thn)=m2 at k1 k3
     generalize hx0:(⟨3,a,if s.thn.isEmpty then (e':Int) else (n+1:Nat),if s.els.isEmpty then (e':Int) else (n+1+widL s.thn:Nat)⟩:Nd)=x0 at k1 ⊢
     have k0:x0.kind ≠ 5:=by rw [<- hx0];intro h;cases h
     have s1:InE ([x0]++B) n e' m2:=InE.append k1 t1 (by simp only [zoE];omega) (by omega)
     have s2:Loops ([x0]++B) n:=Loops.append (zo1 k0) t2 k1 t1 (by simp only [zoE];omega) (by simp only [zoE];omega)
     have hl3:([x0]++B).length=1+widL s.thn:=by rw [zor,hl1];rfl
     have u1':InE C (n+([x0]++B).length) e' e':=by rw [hl3,show n+(1+widL s.thn)=n+1+widL s.thn by omega];exact u1
     have u2':Loops C (n+([x0]++B).length):=by rw [hl3,show n+(1+widL s.thn)=n+1+widL s.thn by omega];exact u2
     exact⟨InE.append s1 u1' (by rw [hl3];omega) (by omega),Loops.append s2 u2' s1 u1' (by rw [hl3];omega) (by rw [hl3];omega)⟩
    ·
     rename_i a3
     split
     ·
      rename_i a4
      rw [zot a3,zou a4] at hlen
      rw [zou a4] at hw
      obtain⟨t1,t2⟩:=h1 (a+1) (n+2) (n+1) (by omega)
      have hl1:=zQ s.thn hs.1.2 (a+1) (n+2) (n+1)
      have hnx:(if s.thn.isEmpty then ((n+1:Nat):Int) else (n+2:Nat))=(n+1:Nat)\/(if s.thn.isEmpty then ((n+1:Nat):Int) else (n+2:Nat))=(n+2:Nat)/\1<=widL s.thn:=by
       cases ht:s.thn.isEmpty
       . exact .inr ⟨by simp,zcf ht⟩
       . exact .inl (by simp)
      generalize layL s.thn (a+1) (n+2) (n+1)=B at t1 t2 hl1 hlen ⊢
      generalize (if s.thn.isEmpty then ((n+1:Nat):Int) else (n+2:Nat))=m at hnx ⊢
      refine⟨fun x hx to h=>?_,fun j y hy hk=>?_⟩
      ·
       rw [zoM,zoM,hl1]
       rcases zoz.1 hx with rfl | hx
       . dsimp only at h;omega
       rcases zoz.1 hx with rfl | hx
       . dsimp only at h;omega
       . have:=t1 x hx to h;rw [hl1] at this;omega
      ·
       match j with
       | 0=>simp at hy;subst hy;cases hk
       | 1 =>
        simp at hy
        subst hy
        refine⟨n+2+widL s.thn,by omega,by omega,by rw [zoM,zoM,hl1];omega,by dsimp only;omega,fun i x hx to h hl hu=>?_⟩
        match i with
        | 0=>simp at hx;subst hx;dsimp only at h;exact .inr ⟨rfl,rfl,by omega⟩
        | i+1 =>
         have:=(zox.1 hx).1
         rw [zoM,zoM,hl1] at this
         exact .inl (by omega)
       | j+2 =>
        rw [List.getElem?_cons_succ,List.getElem?_cons_succ] at hy
        obtain⟨E,p1,p2,p3,p4,p5⟩:=t2 j y hy hk
        rw [hl1] at p3
        refine⟨E,by omega,by omega,by rw [zoM,zoM,hl1];omega,by omega,fun i x hx to h hl hu=>?_⟩
        match i with
        | 0=>simp at hx;subst hx;dsimp only at h;omega
        | 1=>simp at hx;subst hx;dsimp only at h;omega
        | i+2 =>
         rw [List.getElem?_cons_succ,List.getElem?_cons_succ] at hx
         rcases p5 i x hx to h (by omega) hu with h | h
         . exact .inl (by omega)
         . exact .inr ⟨by omega,h.2.1,by omega⟩
     ·
      rename_i a4
      refine⟨fun x hx to h=>?_,zo1 (fun h=>by cases h)⟩
      rw [zoB] at hx
      subst hx
      dsimp only at h
      omega
   exact⟨InE.append hS.1 (by rw [hlen];exact r1) (by rw [hlen,hlr];omega) (by omega),Loops.append hS.2 (by rw [hlen];exact r2) hS.1 (by rw [hlen];exact r1) (by rw [hlen,hlr];omega) (by rw [hlen,hlr];omega)⟩
 exact key l (fun x h=>h)
theorem zji (f:Fl) (hs:List Int) (x:Nd) (s:St) (σ:Sg) (rd:Int->Int):(yK f hs x s σ rd).1=x.next\/(yK f hs x s σ rd).1=x.other:=by
 unfold yK
 split
 . exact .inl O
 split
 . exact .inl O
 split
 . exact .inl O
 split
 . exact .inr O
 ·
  dsimp only;split
  . exact .inl O
  . exact .inr O
structure OnWalk (f:Fl) (r:Ins) (K i:Nat) (n:Nat) (x:Nd):Prop where
 at_:(yB f r i).at_=(n:Int)
 nd:(zh f)[n]?=some x
 go:i<K->yB f r (i+1)=⟨(yK f (zY f r) x (zU f x.at_) (yB f r i).σ (yB f r i).rd).1,(yK f (zY f r) x (zU f x.at_) (yB f r i).σ (yB f r i).rd).2.1,(yK f (zY f r) x (zU f x.at_) (yB f r i).σ (yB f r i).rd).2.2⟩/\(x.kind=0\/x.kind=2\/x.kind=3\/x.kind=4\/x.kind=5)
 fin:i=K->n+1=(zh f).length/\x.kind=1
theorem zgt {f:Fl} {r:Ins} (vd:Valid f) {K:Nat} (hg:GoesAll f r K) {i:Nat} (hi:i<=K):∃ n x,OnWalk f r K i n x:=by
 have hlen:=yz f vd.plain
 rcases Nat.lt_or_ge i K with h | h
 ·
  have h3:0<=(yB f r i).at_/\(yB f r i).at_<((zh f).length:Int) - 1:=by
   obtain⟨_,_,h2⟩:=hg
   exact h2 i h
  obtain⟨h4,h5⟩:=vd.node h3.1 h3.2
  refine⟨(yB f r i).at_.toNat,_,by omega,h4,fun _=>⟨?_,h5.kind⟩,fun h'=>by omega⟩
  rw [show yB f r (i+1)=jb f (zY f r) (zh f) (yB f r i) from zbx _ _ _ _ _]
  rfl
 ·
  obtain rfl:i=K:=by omega
  obtain⟨_,h1,_⟩:=hg
  have h1':yB f r i=_:=h1
  refine⟨(zh f).length - 1,⟨1,-1,-1,-1⟩,by rw [h1'];dsimp only;omega,?_,fun h'=>by omega,fun _=>⟨by omega,rfl⟩⟩
  obtain⟨x,hx⟩:∃ x,(zh f)[(zh f).length - 1]?=some x:=⟨_,zoj (by omega)⟩
  rw [hx,(zja vd hx).1 (by omega)]
theorem zjj {f:Fl} {r:Ins} (vd:Valid f) {K:Nat} (hg:GoesAll f r K):1<=K/\K<=8193:=by
 obtain⟨K',rd',hK,hgo⟩:=vd.walk (zY f r) (zhE f r)
 obtain rfl:=hg.unique ⟨rd',hgo⟩
 refine⟨?_,hK⟩
 cases K with
 | zero =>
  obtain⟨_,h1,_⟩:=hg
  have h1':yB f r 0=_:=h1
  have h2:(yB f r 0).at_=((zh f).length:Int) - 1:=by rw [h1']
  have h3:(yB f r 0).at_=0:=rfl
  have:=yz f vd.plain
  omega
 | succ K=>omega
theorem Valid.away {f:Fl} (V:Valid f) {i:Nat} {x:Nd} (hx:(zh f)[i]?=some x):(∀ to,to=x.next\/to=x.other->to=-1\/1<=to)/\(x.kind=0->i=0):=by
 obtain⟨k1,_⟩:=zgs f.body V.plain 0 1 (1+widL f.body) (.inr (zoI _))
 unfold zh at hx
 cases i with
 | zero=>simp at hx;subst hx;exact⟨fun to h=>by dsimp only at h;omega,fun _=>rfl⟩
 | succ i =>
  rw [List.getElem?_cons_succ] at hx
  rcases zoC.1 (zok hx) with hm | hm
  ·
   refine⟨fun to h=>by have:=k1 x hm to h;omega,fun h=>?_⟩
   have:=jT _ _ _ _ x hm
   omega
  ·
   rw [zoB] at hm
   subst hm
   exact⟨fun to h=>by dsimp only at h;omega,fun h=>by (cases h)⟩
end Go.Proofs.YtckdhgbepmpgiaaGreat
namespace Go.GL
theorem zeq {w:World} {e:TypeId} {k b n:Nat} {xs:List Value} (h:w.ownsRow 0 e k (.slice (some ⟨b,0,none⟩) n n) n xs):Blk w b xs e:=by
 obtain⟨h1,h2⟩:=h
 rcases h2 with⟨h2,_⟩ | ⟨b',cap,cur,hv,_,hg,hc,hcm,hcs,htake⟩
 . cases h2
 ·
  cases hv
  have:cur.toList=xs:=by rw [<- htake,List.take_of_length_le (by rw [Array.length_toList];omega)]
  unfold Blk
  rw [<- this]
  simpa using hg
end Go.GL
namespace Go.Proofs.YtckdhgbepmpgiaaGreat
open Go.GL
theorem zd7 {α:Type} {l:List α} {k:Nat} {x y:α} (hx:l[k]?=some x):y ∈ l.take (k+1) ↔ y ∈ l.take k\/y=x:=by
 rw [List.take_add_one,hx]
 simp
theorem zgu (l:List Int) (x:Int) (v:Value) (D:Nat->Prop) (W:World) (hv:SlR 1 yj D W v l):Calls Tryz.prog 91 #[v,.int .i64 x] W (Ret fun r w'=>(∃ i:Int,r=.int .i64 i/\(0<=i ↔ x ∈ l))/\Ext W w'):=by
 obtain⟨av,cv,rfl⟩:=hv.form
 have hmx:=hv.max
 refine zmv Tryz.func91 O Tryz.ntmps91 O (zmE ?_)
 refine Vs 14 O ?_
 refine znd (σ:=Nat) [0,1,7] [] [] O (fun e k=>(8,.int .i64 k)::e) (fun e k=>e) (fun k=>k<=l.length/\x ∉ l.take k) (fun k=>l.length - k) (0) (Sub.of O) (Has.of O) (fun _=>rfl) (fun _=>rfl) (fun _=>rfl) (⟨zoy _,by simp⟩) ?_
 rintro k ⟨hk,hn⟩
 refine Vs 6 O ?_
 refine zkG O (fun hlt=>?_) (fun hlt=>?_)
 ·
  refine Vs 15 O ?_
  obtain⟨y,he_y,hm_y⟩:=gE_ l (k) (by omega)
  obtain⟨b_y,o_y,c_y,ha_y,_,hc_y,hR_y⟩:=hv.at he_y
  obtain rfl:=hR_y
  refine zna 1000 0 O O hc_y ?_
  refine zmN 1000 tR27 ts3 O ha_y (by omega) (_) (rfl) O ?_
  refine Vs 4 O ?_
  refine zkG O (fun he=>?_) (fun he=>?_)
  ·
   refine Vs 12 O ?_
   refine zkW Tryz.results91 O (fun w hI=>⟨_,rfl,⟨_,rfl,by rw [he];exact⟨fun _=>hm_y,fun _=>by omega⟩⟩,hI.k0⟩)
  ·
   refine Va 7 O (by omega) ?_
   refine V.back (k+1) (Sub.of O) (Has.of O) (⟨by omega,fun h=>((zd7 he_y).1 h).elim hn he⟩) (by first | omega | (dsimp only;omega)) 0 O O
 ·
  have:k=l.length:=by omega
  subst this
  rw [zoo] at hn
  refine Vs 11 O ?_
  refine zkW Tryz.results91 O (fun w hI=>⟨_,rfl,⟨_,rfl,⟨fun h=>by omega,fun h=>absurd h hn⟩⟩,hI.k0⟩)
theorem zd8 (l:List Int) (x:Int) (v:Value) (D:Nat->Prop) (W:World) (hv:SlR 1 yj D W v l):Calls Tryz.prog 77 #[v,.int .i64 x] W (Ret fun r w'=>r=.bool (decide (x ∈ l))/\Ext W w'):=by
 refine zmv Tryz.func77 O Tryz.ntmps77 O (zmE ?_)
 refine Vs 9 O ?_
 refine zn1 Tryz.call91 O (fun w hI=>zgu l x v D w (Tr1 hI.k0 hv)) ?_
 rintro r w1 w2 hI1 hk12 ⟨i,rfl,hi⟩ hlow
 refine Vs 5 O ?_
 refine zkW Tryz.results77 O (fun w hI=>⟨_,rfl,by simp [hi],hI.k1⟩)
structure PrOk (f:Fl) (g:List Nd):Prop where
 at_:∀ x ∈ g,x.at_<((preL f.body).length:Int)
 to:∀ x ∈ g,∀ y ∈ zd5 x,y<(g.length:Int)
def zco (g:List Nd) (i:Nat) (S:List Int) (n:Nat):List Int:=List.map (fun y:Nat=>(y:Int)) (((List.range i).filter fun y:Nat=>decide ((xF g y).next=(n:Int)\/(xF g y).other=(n:Int)))++(if (n:Int) ∈ S then [i] else []))
def kX (g:List Nd) (i:Nat) (S:List Int):List (List Int):=(List.range g.length).map (zco g i S)
theorem zaf (g:List Nd) (i:Nat) (S:List Int):(kX g i S).length=g.length:=by simp [kX]
theorem zcg {g:List Nd} {i n:Nat} {S:List Int} (h:n<g.length):(kX g i S)[n]?=some (zco g i S n):=by unfold kX;rw [zoA,List.getElem?_range h];rfl
theorem zi3 (g:List Nd) (i:Nat) (S:List Int) (n:Nat):(zco g i S n).length<=i+1:=by
 unfold zco
 rw [zoD,zor]
 refine Nat.add_le_add (zop (List.length_filter_le _ _) (by rw [List.length_range];exact zoI _)) ?_
 split <;> simp
theorem zer (g:List Nd) (i n:Nat):zco g i [] n=List.map (fun y:Nat=>(y:Int)) ((List.range i).filter fun y:Nat=>decide ((xF g y).next=(n:Int)\/(xF g y).other=(n:Int))):=by
 unfold zco
 rw [zot (List.not_mem_nil),List.append_nil]
theorem zi4 {g:List Nd} {i n:Nat} {S:List Int}:(i:Int) ∈ zco g i S n ↔ (n:Int) ∈ S:=by
 unfold zco
 rw [List.mem_map]
 constructor
 ·
  rintro⟨y,hy,e⟩
  obtain rfl:y=i:=by omega
  rcases zoC.1 hy with hy | hy
  . have:=List.mem_range.1 (List.mem_filter.1 hy).1;omega
  ·
   split at hy
   . assumption
   . cases hy
 ·
  intro h
  exact⟨i,zoC.2 (.inr (by rw [zou h];exact zoB.2 O)),rfl⟩
theorem zi5 {g:List Nd} {i n:Nat} {S:List Int} (h:(n:Int) ∉ S):zco g i (S++[(n:Int)]) n=zco g i S n++[(i:Int)]:=by
 unfold zco
 rw [zot h,zou (by simp),List.append_nil,List.map_append];rfl
theorem zd9 {g:List Nd} {i n:Nat} {S:List Int} {t:Int} (h:t ≠ (n:Int)\/t ∈ S):zco g i (S++[t]) n=zco g i S n:=by
 have:(n:Int) ∈ S++[t] ↔ (n:Int) ∈ S:=by
  rw [zoC,zoB]
  constructor
  ·
   rintro (h1 | h1)
   . exact h1
   ·
    rcases h with h | h
    . exact absurd h1.symm h
    . rw [h1];exact h
  . exact .inl
 unfold zco
 by_cases h2:(n:Int) ∈ S
 . rw [zou h2,zou (this.2 h2)]
 . rw [zot h2,zot (fun e=>h2 (this.1 e))]
theorem zgv {g:List Nd} {i:Nat} {S:List Int} {t:Int} (h:t ∈ S):kX g i (S++[t])=kX g i S:=by
 unfold kX
 exact List.map_congr_left fun n _=>zd9 (.inr h)
theorem zi6 {g:List Nd} {i n:Nat} {S:List Int} (hn:n<g.length) (h:(n:Int) ∉ S):(kX g i S).set n (zco g i S n++[(i:Int)])=kX g i (S++[(n:Int)]):=by
 apply List.ext_getElem?
 intro j
 rw [List.getElem?_set]
 by_cases hj:j<g.length
 ·
  rw [zcg (S:=S++[(n:Int)]) hj]
  by_cases e:n=j
  ·
   subst e
   rw [zou rfl,zou (by rw [zaf];exact hn),zi5 h]
  . rw [zot e,zcg hj,zd9 (.inl (by omega))]
 ·
  rw [zoH (by rw [zaf];omega),zoH (by rw [zaf];omega)]
  split
  . rename_i e;subst e;rw [zot (by rw [zaf];omega)]
  . rfl
theorem zgw {g:List Nd} {i:Nat} {x:Nd} (h:g[i]?=some x):kX g i (zd5 x)=kX g (i+1) []:=by
 unfold kX
 refine List.map_congr_left fun n _=>?_
 rw [zer,List.range_succ,List.filter_append]
 unfold zco
 refine congrArg (List.map _) (congrArg (List.append _) ?_)
 have hx:=zaZ h
 have hm:(n:Int) ∈ zd5 x ↔ (x.next=(n:Int)\/x.other=(n:Int)):=by rw [mem_succ];exact⟨fun h=>h.2,fun h=>⟨by omega,h⟩⟩
 by_cases hs:(n:Int) ∈ zd5 x
 . rw [zou hs,List.filter_cons_of_pos (by rw [hx];simpa using hm.1 hs)];rfl
 . rw [zot hs,List.filter_cons_of_neg (by rw [hx];simpa using fun e=>hs (hm.2 e))];rfl
theorem zgx (g:List Nd):kX g 0 []=List.replicate g.length []:=by
 unfold kX
 apply List.ext_getElem?
 intro j
 by_cases hj:j<g.length
 . rw [zoA,List.getElem?_range hj,List.getElem?_replicate,zou hj];simp [zco]
 . rw [zoH (by simp;omega),zoH (by simp;omega)]
theorem zi7 (g:List Nd):kX g g.length []=zdI g:=by
 unfold kX zdI
 refine List.map_congr_left fun n _=>?_
 rw [zer];rfl
def zdP (f:Fl) (g:List Nd) (i:Nat):List St:=(g.take i).map (stN f)++List.replicate (g.length - i) zjA
def st0:List Value:=[.int .i64 0,.int .i64 0,.int .i64 0,.int .i64 0,.int .i64 0,.int .i64 0,.slice none 0 0,.slice none 0 0,.slice none 0 0,.slice none 0 0]
theorem zes {f:Fl} {g:List Nd} {i:Nat} (h:i<=g.length):(zdP f g i).length=g.length:=by unfold zdP;rw [zor,zoD,zoN,List.length_replicate];omega
theorem zi8 {f:Fl} {g:List Nd} {i:Nat} {x:Nd} (h:g[i]?=some x):(zdP f g i).set i (stN f x)=zdP f g (i+1):=by
 have hl:=(zox.1 h).1
 unfold zdP
 rw [zd h,List.set_append_right _ _ (by rw [zoD,zoN];omega),zoD,zoN,show i - min i g.length=0 by omega,show g.length - i=(g.length - (i+1))+1 by omega,List.replicate_succ]
 simp
theorem zgy {f:Fl} {g:List Nd} {i:Nat} {x:Nd} (h:g[i]?=some x) (hn:x.at_<0):zdP f g i=zdP f g (i+1):=by
 have hl:=(zox.1 h).1
 unfold zdP
 rw [zd h,show g.length - i=(g.length - (i+1))+1 by omega,List.replicate_succ]
 have:stN f x=zjA:=by unfold stN;rw [zot (by omega)]
 simp [this]
theorem EncS.set {D:Nat->Prop} {w:World} {l:List St} {xs us:List Value} {x:St} {i:Nat} (h:EncS D w l xs) (hx:RSt D w x us) (hu:us.length=10) (hi:i<l.length):EncS D w (l.set i x) (xs.take (i*10)++us++xs.drop (i*10+10)):=by
 have h1:=h.1
 refine⟨by simp only [zor,zoN,List.length_drop,List.length_set];omega,fun j y hy=>?_⟩
 rw [List.getElem?_set] at hy
 have hlt:(xs.take (i*10)).length=i*10:=by rw [zoN];omega
 by_cases e:i=j
 ·
  subst e
  rw [zou rfl,zou hi] at hy
  obtain rfl:=Option.some.inj hy
  rw [List.append_assoc,List.drop_left' hlt,List.take_left' hu]
  exact hx
 ·
  rw [zot e] at hy
  have hy2:=h.2 j y hy
  have hjl:=(zox.1 hy).1
  have key:((xs.take (i*10)++us++xs.drop (i*10+10)).drop (j*10)).take 10=(xs.drop (j*10)).take 10:=by
   apply List.ext_getElem?
   intro q
   rw [zoP,zoP]
   split
   ·
    rename_i hq
    rw [List.getElem?_drop,List.getElem?_drop]
    by_cases hji:j<i
    . rw [List.append_assoc,zoJ (by omega),List.getElem?_take_of_lt (by omega)]
    ·
     rw [zoK (by rw [zor];omega),zor,hlt,hu,List.getElem?_drop]
     congr 1;omega
   . rfl
  rw [key]
  exact hy2
theorem EncS.zero {D:Nat->Prop} {w:World} (n:Nat):EncS D w (List.replicate n zjA) (zdN 10 n st0):=by
 refine⟨by rw [zad (k:=10) rfl,List.length_replicate],fun i x hx=>?_⟩
 rw [List.getElem?_replicate] at hx
 split at hx
 ·
  rename_i hi
  obtain rfl:=Option.some.inj hx
  rw [zep (k:=10) rfl hi]
  exact RSt.put (s:=zjA) SlR.nil SlR.nil SlR.nil SlR.nil
 . cases hx
def zkw (D0:Nat->Prop) (W0:World):Rel St:=fun _ _ x cs=>RSt D0 W0 x cs
theorem zeW (D0:Nat->Prop) (W0:World):ya (zkw D0 W0):=fun _ _ _ _ _ _ _ _ h=>h
theorem zgz (l:List St) (D:Nat->Prop) (W0 W:World) (v:Value) (hl:SlR 10 RSt D W0 v l) (he:EqD D W0 W) (hs:ssize l<=1000000) :
  Calls Tryz.prog 75 #[v,.slice none 0 0] W (Ret fun r w'=>SlR 10 (zkw D W0) (fun q=>W.heap.size<=q) w' r (preL l)/\Ext W w'):=by
 refine Calls.mono (zi0 l D W0 W v (.slice none 0 0) [] [] hl he EncS.nil (kn _ _ _) (fun q _ h=>by cases h) (by simpa using zop hs (by omega))) ?_
 rintro e w' ⟨r,rfl,⟨u,xs⟩,⟨rfl,hx⟩,ho,hk,hlow⟩
 simp only [List.nil_append] at hx ho hlow
 refine⟨_,rfl,OwnR.sl (e:=72) (D:=fun _=>False) ⟨xs,ho,hx.2⟩ (by decide) (zeW _ _) (fun q h=>h.elim) (fun g hg=>?_),hk.mono fun q _ h=>by cases h⟩
 exact ((hlow g hg).1).elim (fun h=>by cases h) id
theorem zi9 {w:World} {e:TypeId} (n:Nat):RowsOk zc e w (List.replicate n (.slice none 0 0)) (List.replicate n []):=by
 refine⟨by simp,fun i v r hv hr=>?_,fun i j vi vj g _ hi hj h=>?_⟩
 ·
  rw [List.getElem?_replicate] at hv hr
  split at hv
  ·
   rename_i h
   rw [zou h] at hr
   obtain rfl:=Option.some.inj hv
   obtain rfl:=Option.some.inj hr
   exact kn _ _ _
  . cases hv
 ·
  rw [List.getElem?_replicate] at hi
  split at hi
  ·
   obtain rfl:=Option.some.inj hi
   cases h
  . cases hi
@[simp] theorem zkk (n:Nat):(zdN 10 n st0).length=n*10:=zad rfl
theorem grS {f:Fl} {g:List Nd} {D:Nat->Prop} {W w:World} {b:Nat} {ys:List Value} (_:∀ q,D q->q<W.heap.size) (hy:EncS D W (g.map (stN f)) ys) (hE:Ext W w) (hB:Blk w b ys 72) (hb:W.heap.size<=b) (hN:g.length<=100000):SlR 10 RSt (fun q=>D q\/(W.heap.size<=q/\q<w.heap.size)) w (.slice (some ⟨b,0,none⟩) g.length g.length) (g.map (stN f)):=by
 have hl:=hy.1
 have ho:=ym (k:=10) (n:=g.length) (cap:=g.length) hB (zoI _) (by omega) (by rw [hl,zoD])
 rw [List.take_of_length_le (by rw [hl,zoD];exact zoI _)] at ho
 have hO:OwnR 72 10 RSt D w (.slice (some ⟨b,0,none⟩) g.length g.length) (g.map (stN f)):=⟨ys,by rw [zoD];exact ho,fun i x hx=>zb D D W w (fun _ h=>h) (fun q hq hl=>hE.block q hl (fun h=>h)) x _ (hy.2 i x hx)⟩
 exact hO.sl (by decide) zb (fun q h=>.inl h) fun q h=>by cases h;exact .inr ⟨hb,hB.lt⟩
theorem grP {g:List Nd} {D:Nat->Prop} {W w:World} {b:Nat} {rv:List Value} (hrv:rv.length=g.length) (hR:RowsOk zc 3 w rv (zdI g)) (hB:Blk w b rv 27) (hb:W.heap.size<=b) (hN:g.length<=100000) (hq:∀ q,(∃ (i:Nat) (v:Value),rv[i]?=some v/\v.ownBlock=some q)->W.heap.size<=q):SlR 1 (RSl 1 yj) (fun q=>D q\/(W.heap.size<=q/\q<w.heap.size)) w (.slice (some ⟨b,0,none⟩) g.length g.length) (zdI g):=by
 have hl:(zdI g).length=g.length:=by simp [zdI]
 have ho:=ym (k:=1) (n:=g.length) (cap:=g.length) hB (zoI _) (by omega) (by rw [hrv,Nat.mul_one])
 rw [List.take_of_length_le (by rw [hrv,Nat.mul_one];exact zoI _)] at ho
 exact zdL (by rw [hl];exact ho) hR (fun q h=>by cases h;exact .inr ⟨hb,hB.lt⟩) fun i u q h1 h2=>.inr ⟨hq q ⟨i,u,h1,h2⟩,hR.blk h1 h2⟩
theorem yE (f:Fl) (g:List Nd) (hp:PrOk f g) (hN:g.length<=100000) (hss:ssize f.body<=100000) (v1 v2 v3 gv:Value) (D:Nat->Prop) (W:World) (hf:RFl D W f v1 v2 v3) (hg:SlR 4 RNd D W gv g) (hD:∀ q,D q->q<W.heap.size) :
  Calls Tryz.prog 37 #[.agg #[v1,v2,v3],.agg #[gv]] W (Ret fun r w'=>(∃ b,r=.pointer (some ⟨b,0,none⟩)/\GrO (fun q=>D q\/(W.heap.size<=q/\q<w'.heap.size)) w' f g b)/\Ext W w'):=by
 have hg0:=hg
 have hf0:=hf
 obtain⟨ag,cg,rfl⟩:=hg.form
 have hmx:=hg.max
 obtain⟨a1,c1,rfl⟩:=hf.vars.form
 obtain⟨a2,c2,rfl⟩:=hf.hatches.form
 obtain⟨a3,c3,rfl⟩:=hf.body.form
 have hpl:=zZ f.body
 refine zmv Tryz.func37 O Tryz.ntmps37 O (zmE ?_)
 refine Vs 2 O ?_
 refine V.box 2 O O (fun b2=>?_)
 refine V.box 3 O O (fun b3=>?_)
 refine Vs 4 O ?_
 refine zne (σ:=Nat × Nat × Nat) [2,3] [2,3] [2,3] O (fun e ⟨b17,b21,b23⟩=>(5,.pointer (some ⟨b23,0,none⟩))::e) (fun e ⟨b17,b21,b23⟩=>(17,.row 72 10 (.slice (some ⟨b17,0,none⟩) g.length g.length) g.length (zdN 10 g.length st0))::(21,.row 27 1 (.slice (some ⟨b21,0,none⟩) g.length g.length) g.length (List.replicate g.length (.slice none 0 0)))::(23,.own b23 [.slice a1 f.vars.length c1,.slice a2 f.hatches.length c2,.slice a3 f.body.length c3,.slice ag g.length cg,.slice (some ⟨b17,0,none⟩) g.length g.length,.slice (some ⟨b21,0,none⟩) g.length g.length] 113)::e) (fun⟨b17,b21,b23⟩=>True) (fun _=>rfl) (fun _=>rfl) ?_ ?_
 ·
  refine Vw [2,3] [] O ?_
  refine Vd [0,1,2,3,4,5,7,8,9] 0 (by kernel_rfl) O O O ?_
  refine znM 6 10 17 21 0 tu24 Tryz.el72 tu89 Tryz.el27 O (by kernel_rfl) O O O O (⟨by omega,by omega,by omega,by omega⟩) ((by exact zjT (us:=st0) O O:madeCells _ _=(zdN 10 g.length st0).toArray)) ((by exact qw _ _ O:madeCells _ _=(List.replicate g.length (Value.slice none 0 0)).toArray)) (by simp) (fun b17=>?_) (fun b21=>?_)
  ·
   refine zlA 10 21 0 tu89 Tryz.el27 O (by kernel_rfl) O O (by omega) (by omega) ((by exact qw _ _ O:madeCells _ _=(List.replicate g.length (Value.slice none 0 0)).toArray)) (by simp) (fun b21=>?_)
   refine zni 11 [Value.slice none 0 0,Value.slice none 0 0,Value.slice none 0 0,Value.slice none 0 0,Value.slice none 0 0,Value.slice none 0 0] [(0,3),(3,1),(4,1),(5,1)] [(0,_),(1,_),(2,_),(3,_)] O (by kernel_rfl) O O (fun _=>by kernel_rfl) ?_
   refine zmK 12 23 0 O (by kernel_rfl) O O (fun _ _=>M.box O O) (fun b23=>?_)
   refine Vd [13] 0 (by kernel_rfl) O O O ?_
   refine VD.done (by kernel_rfl) ?_
   refine zkT (⟨b17,b21,b23⟩) (Sub.of O) (Has.of O) (trivial) 0 O O
  ·
   refine zlA 6 17 0 tu24 Tryz.el72 O (by kernel_rfl) O O (by omega) (by omega) ((by exact zjT (us:=st0) O O:madeCells _ _=(zdN 10 g.length st0).toArray)) (by simp) (fun b17=>?_)
   refine zni 11 [Value.slice none 0 0,Value.slice none 0 0,Value.slice none 0 0,Value.slice none 0 0,Value.slice none 0 0,Value.slice none 0 0] [(0,3),(3,1),(4,1),(5,1)] [(0,_),(1,_),(2,_),(3,_)] O (by kernel_rfl) O O (fun _=>by kernel_rfl) ?_
   refine zmK 12 23 0 O (by kernel_rfl) O O (fun _ _=>M.box O O) (fun b23=>?_)
   refine Vd [13] 0 (by kernel_rfl) O O O ?_
   refine VD.done (by kernel_rfl) ?_
   refine zkT (⟨b17,b21,b23⟩) (Sub.of O) (Has.of O) (trivial) 0 O O
 rintro⟨b17,b21,b23⟩ _
 show V _ _ _ _ _ ((5,.pointer (some ⟨b23,0,none⟩))::_) _ ((17,.row 72 10 (.slice (some ⟨b17,0,none⟩) g.length g.length) g.length (zdN 10 g.length st0))::(21,.row 27 1 (.slice (some ⟨b21,0,none⟩) g.length g.length) g.length (List.replicate g.length (.slice none 0 0)))::(23,.own b23 [.slice a1 f.vars.length c1,.slice a2 f.hatches.length c2,.slice a3 f.body.length c3,.slice ag g.length cg,.slice (some ⟨b17,0,none⟩) g.length g.length,.slice (some ⟨b21,0,none⟩) g.length g.length] 113)::_) _
 refine zmL 5 23 0 O O ?_
 refine znH 17 (e':=.own b17 (zdN 10 g.length st0) 72) O (fun w hI=>zeq (hI.at 17 O)) (trivial) (fun _ h=>h) (fun q (hq:q=b17)=>by subst hq;rfl) ?_
 refine znH 21 (e':=.own b21 (List.replicate g.length (.slice none 0 0)) 27) O (fun w hI=>zeq (hI.at 21 O)) (trivial) (fun _ h=>h) (fun q (hq:q=b21)=>by subst hq;rfl) ?_
 refine zmR 902 3 1 O ?_
 refine znH 902 (e':=RowsP zc 3 (List.replicate g.length (.slice none 0 0)) (kX g 0 [])) O (fun w hI=>by rw [zgx];exact zi9 _) RowsP.loc (fun _ h=>h) (fun q hq=>by obtain⟨i,u,h,h2⟩:=hq;rw [List.getElem?_replicate] at h;split at h <;> cases h;cases h2) ?_
 generalize hL:preL f.body=L at *
 refine Vs 5 O ?_
 refine zn1 Tryz.call75 O (fun w hI=>(hL ▸ zgz f.body D W w _ hf0.body (EqD.keep (EqD.refl hD) hI.k0 hD (fun _ _ h=>h)) (by omega))) ?_
 rintro rr w1 w2 hI1 hk12 hst hlow
 obtain⟨ast,cst,rfl⟩:=hst.form
 have hstm:=hst.max
 refine Vs 13 O ?_
 refine znd (σ:=Nat × List Value × List Value) [5,6,28,29] [23] [5] O (fun e ⟨i,ys,rv⟩=>(30,.int .i64 i)::e) (fun e ⟨i,ys,rv⟩=>(17,.own b17 ys 72)::(21,.own b21 rv 27)::(902,RowsP zc 3 rv (kX g i []))::e) (fun⟨i,ys,rv⟩=>i<=g.length/\EncS D W (zdP f g i) ys/\rv.length=g.length) (fun⟨i,ys,rv⟩=>g.length - i) ((0,zdN 10 g.length st0,List.replicate g.length (.slice none 0 0))) (Sub.of O) (Has.of O) (fun _=>rfl) (fun _=>rfl) (fun _=>rfl) (⟨zoy _,by simp only [zdP,List.take_zero,List.map_nil,List.nil_append,Nat.sub_zero];exact EncS.zero _,by simp⟩) ?_
 rintro⟨i,ys,rv⟩ ⟨hi,hys,hrv⟩
 show V _ _ _ _ _ ((30,.int .i64 i)::_) _ ((17,.own b17 ys 72)::(21,.own b21 rv 27)::(902,RowsP zc 3 rv (kX g i []))::_) _
 refine Vs 6 O ?_
 refine zkG O (fun lt=>?_) (fun lt=>?_)
 ·
  refine Vs 7 O ?_
  obtain⟨x,he_x,hm_x⟩:=gE_ g (i) (by omega)
  obtain⟨b_x,o_x,c_x,ha_x,_,hc_x,hR_x⟩:=hg.at he_x
  obtain rfl:=hR_x
  refine zna 1000 1 O O hc_x ?_
  refine zmN 1000 tR34 ts65 O ha_x (by omega) (_) (rfl) O ?_
  have hat:=hp.at_ x hm_x
  rw [hL] at hat
  have hysl:=hys.1
  rw [zes hi] at hysl
  refine Vs 1 O ?_
  refine V.alloc 8 tz65 O O (fun b8=>?_)
  refine Vs 5 O ?_
  refine zne (σ:=List Value) [5,6,7,8,28,29,30] [8,23,902] [5,8] O (fun e ys=>e) (fun e ys=>(17,.own b17 ys 72)::(21,.own b21 rv 27)::e) (fun ys=>EncS D W (zdP f g (i+1)) ys) (fun _=>rfl) (fun _=>rfl) ?_ ?_
  ·
   refine Vs 7 O ?_
   refine zkG O (fun c0=>?_) (fun c0=>?_)
   ·
    have hc0:0<=x.at_:=c0
    obtain⟨k,hk⟩:∃ k:Nat,x.at_=(k:Int):=⟨x.at_.toNat,by omega⟩
    obtain⟨s,he_s,hm_s⟩:=gE_ L (k) (by omega)
    obtain⟨b_s,o_s,c_s,ha_s,hd_s,hc_s,hR_s⟩:=hst.atD he_s
    obtain⟨v1_s,v2_s,v3_s,v4_s,rfl,hk_s,ht_s,hs_s,hb_s⟩:=hR_s.get
    obtain⟨a1_s,n1_s,rfl⟩:=hk_s.form
    obtain⟨a2_s,n2_s,rfl⟩:=ht_s.form
    obtain⟨a3_s,n3_s,rfl⟩:=hs_s.form
    obtain⟨a4_s,n4_s,rfl⟩:=hb_s.form
    refine znb 2000 0 O O (fun h_=>by have h1_:=hlow _ h_;have h2_:=hd_s;first | omega | exact h1_ h2_) hc_s ?_
    refine Vw [23,17,21,1000,8,2000] [11] O ?_
    refine Vd [0,1,2,3,4,5,6,7] 0 (by kernel_rfl) O O O ?_
    refine zmO 8 2000 tR24 ts72 O (by kernel_rfl) O ha_s (by omega) (k) (by omega) O ?_
    refine Vd [9] 0 (by kernel_rfl) O O O ?_
    refine znj 10 O (by kernel_rfl) O (fun w=>zlh tR24 ts72 O O O (by omega)) ?_
    refine znZ 11 17 (i*10) (us:=[.int .i64 s.act,.int .i64 s.cost,.int .i64 s.var,.int .i64 s.n,.int .i64 s.term.op,.int .i64 s.term.n,.slice a1_s s.term.kids.length n1_s,.slice a2_s s.thn.length n2_s,.slice a3_s s.els.length n3_s,.slice a4_s s.bounds.length n4_s]) ts72 O (by kernel_rfl) O (rfl) O (RSt.one hR_s) (by omega) (by omega) ?_
    have hsx:stN f x=s:=by unfold stN;rw [zou hc0,hk];exact zfR (hL ▸ he_s)
    have hnx:EncS D W (zdP f g (i+1)) (ys.take (i*10)++[.int .i64 s.act,.int .i64 s.cost,.int .i64 s.var,.int .i64 s.n,.int .i64 s.term.op,.int .i64 s.term.n,.slice a1_s s.term.kids.length n1_s,.slice a2_s s.thn.length n2_s,.slice a3_s s.els.length n3_s,.slice a4_s s.bounds.length n4_s]++ys.drop (i*10+10)):=by
     rw [<- zi8 he_x,hsx]
     exact hys.set hR_s O (by rw [zes hi];omega)
    refine VDx.done (by kernel_rfl) ?_
    refine zkT (ys.take (i*10)++[.int .i64 s.act,.int .i64 s.cost,.int .i64 s.var,.int .i64 s.n,.int .i64 s.term.op,.int .i64 s.term.n,.slice a1_s s.term.kids.length n1_s,.slice a2_s s.thn.length n2_s,.slice a3_s s.els.length n3_s,.slice a4_s s.bounds.length n4_s]++ys.drop (i*10+10)) (Sub.of O) (Has.of O) (hnx) 0 O O
   ·
    have hc0:¬ 0<=x.at_:=c0
    have hnx:EncS D W (zdP f g (i+1)) ys:=by rw [<- zgy he_x (by omega)];exact hys
    refine Vs 1 O ?_
    refine zkT (ys) (Sub.of O) (Has.of O) (hnx) 0 O O
  rintro ys hys2
  generalize hS:zd5 x=S
  have hSl:S.length<=2:=by rw [<- hS];exact zd6 x 2
  have hto:∀ y ∈ S,0<=y/\y<(g.length:Int):=fun y hy=>by
   rw [<- hS] at hy
   exact⟨(mem_succ.1 hy).1,hp.to x hm_x y hy⟩
  refine Vs 4 O ?_
  refine zn1 Tryz.call76 O (fun w hI=>zi1 x w) ?_
  rintro rs w3 w4 hI3 hk34 hsu hlow2
  rw [hS] at hsu
  obtain⟨asu,csu,rfl⟩:=hsu.form
  have hsum:=hsu.max
  refine Vs 4 O ?_
  refine znc 902 O (e':=RowsP zc 3 rv (kX g i (S.take 0))) (by rw [List.take_zero]) ?_
  refine Vs 1 O ?_
  refine znd (σ:=Nat × List Value) [5,6,7,28,29,30,50,51] [23] [5] O (fun e ⟨q,rv⟩=>(52,.int .i64 q)::e) (fun e ⟨q,rv⟩=>(17,.own b17 ys 72)::(21,.own b21 rv 27)::(902,RowsP zc 3 rv (kX g i (S.take q)))::e) (fun⟨q,rv⟩=>q<=S.length/\rv.length=g.length) (fun⟨q,rv⟩=>S.length - q) ((0,rv)) (Sub.of O) (Has.of O) (fun _=>rfl) (fun _=>rfl) (fun _=>rfl) (⟨zoy _,hrv⟩) ?_
  rintro⟨q,rv⟩ ⟨hq,hrv⟩
  show V _ _ _ _ _ ((52,.int .i64 q)::_) _ ((17,.own b17 ys 72)::(21,.own b21 rv 27)::(902,RowsP zc 3 rv (kX g i (S.take q)))::_) _
  refine Vs 6 O ?_
  refine zkG O (fun lq=>?_) (fun lq=>?_)
  ·
   refine Vs 6 O ?_
   obtain⟨y,he_y,hm_y⟩:=gE_ S (q) (by omega)
   obtain⟨b_y,o_y,c_y,ha_y,hd_y,hc_y,hR_y⟩:=hsu.atD he_y
   obtain rfl:=hR_y
   refine znb 3000 0 O O (fun h_=>by have h1_:=hlow2 _ h_;have h2_:=hd_y;first | omega | exact h1_ h2_) hc_y ?_
   refine zmN 3000 tR27 ts3 O ha_y (by omega) (_) (rfl) O ?_
   obtain⟨hy0,hyl⟩:=hto y hm_y
   obtain⟨n,rfl⟩:=Int.eq_ofNat_of_zero_le hy0
   have hng:n<g.length:=by omega
   have htk:=zd he_y
   obtain⟨u,hu⟩:∃ u,rv[n]?=some u:=⟨_,zoj (by omega)⟩
   have hrow:=zcg (i:=i) (S:=S.take q) hng
   have hral:=zi3 g i (S.take q) n
   have hmem:=zi4 (g:=g) (i:=i) (n:=n) (S:=S.take q)
   refine Vs 11 O ?_
   refine zml O (fun w hI=>zlh tR89 ts27 O O O (by omega)) ?_
   refine zml O (fun w hI=>R.load tg27 O (zmP (hI.at 21 O) hu)) ?_
   refine Vs 1 O ?_
   refine zmZ Tryz.call77 O (fun w hI=>zd8 (zco g i (S.take q) n) i _ (fun _=>True) w (zhY (hI.at 902 O) hu hrow)) ?_
   refine zml O (fun w hI=>zlV O (by first | exact za | rfl)) ?_
   refine Vs 2 O ?_
   refine zkG O (fun m=>?_) (fun m=>?_)
   ·
    refine Vw [23,17,21,3000] [16] O ?_
    refine Vd [0,1,2,3,4,5,6,7,8,9,12] 0 (by kernel_rfl) O O O ?_
    refine znj 10 O (by kernel_rfl) O (fun w=>zlh tR89 ts27 O O O (by omega)) ?_
    refine znI 11 O (by kernel_rfl) O 0 O O (fun w hI=>R.load tg27 O (zmP (hI.at 21 O) hu)) ?_
    refine VD.bs 13 79 0 [(0,_)] tR27 ts3 tz3 (by decide) O (by kernel_rfl) O O (by kernel_rfl) (fun b79=>?_)
    refine znK 14 902 79 0 (n) tu27 Tryz.el3 O O (by kernel_rfl) O O (hu) (hrow) (by omega) (fun u902 ho_902=>?_)
    refine znj 15 O (by kernel_rfl) O (fun w=>zlh tR89 ts27 O O O (by omega)) ?_
    refine znL 16 21 (n) ts27 O (by kernel_rfl) O (ho_902) (by omega) (by omega) ?_
    refine VDx.done (by kernel_rfl) ?_
    refine Vs 2 O ?_
    refine znc 902 O (e':=RowsP zc 3 (rv.set n u902) (kX g i (S.take (q+1)))) (by rw [htk,<- zi6 hng (fun h=>m (hmem.2 h))]) ?_
    refine Va 4 O (by omega) ?_
    refine V.back (⟨q+1,rv.set n u902⟩) (Sub.of O) (Has.of O) (⟨by omega,by rw [List.length_set];exact hrv⟩) (by first | omega | (dsimp only;omega)) 0 O O
   ·
    have m:=zos.1 m
    refine znc 902 O (e':=RowsP zc 3 rv (kX g i (S.take (q+1)))) (by rw [htk,zgv (hmem.1 m)]) ?_
    refine Va 7 O (by omega) ?_
    refine V.back (⟨q+1,rv⟩) (Sub.of O) (Has.of O) (⟨by omega,hrv⟩) (by first | omega | (dsimp only;omega)) 0 O O
  ·
   obtain rfl:q=S.length:=by omega
   refine znc 902 O (e':=RowsP zc 3 rv (kX g (i+1) [])) (by rw [zoo,<- hS,zgw he_x]) ?_
   refine Va 10 O (by omega) ?_
   refine V.back (⟨i+1,ys,rv⟩) (Sub.of O) (Has.of O) (⟨by omega,hys2,hrv⟩) (by first | omega | (dsimp only;omega)) 1 O O
 ·
  obtain rfl:i=g.length:=by omega
  rw [show zdP f g g.length=g.map (stN f) by simp [zdP]] at hys
  refine Vs 12 O ?_
  refine zkW Tryz.results37 O (fun w hI=>⟨_,rfl,⟨b23,rfl,_,_,_,_,_,_,.inr ⟨hI.own 23 1 O O b23 rfl,(show Blk _ _ _ _ from hI.at 23 O).lt⟩,Blk.cells (hI.at 23 O),⟨(hf0.vars.keep xf hI.k1 (fun _ _ _ h=>h)).wide xf (fun _ h=>.inl h),(hf0.hatches.keep xg hI.k1 (fun _ _ _ h=>h)).wide xg (fun _ h=>.inl h),(hf0.body.keep zb hI.k1 (fun _ _ _ h=>h)).wide zb (fun _ h=>.inl h)⟩,(hg0.keep zI hI.k1 (fun _ _ _ h=>h)).wide zI (fun _ h=>.inl h),grS hD hys hI.k1 (hI.at 17 O) (hI.own 17 1 O O b17 O) hN,grP hrv (zi7 g ▸ hI.at 902 O) (hI.at 21 O) (hI.own 21 1 O O b21 O) hN (fun q hq=>hI.own 902 1 O O q hq)⟩,hI.k1⟩)
theorem Valid.ends {f:Fl} (V:Valid f) {i:Nat} {x:Nd} (hx:(zh f)[i]?=some x):(x.at_<0->x.kind=0\/x.kind=1)/\(0<=x.at_->x.at_<((preL f.body).length:Int)):=by
 have hlen:=yz f V.plain
 have hi:=(zox.1 hx).1
 by_cases hl:i<(zh f).length - 1
 ·
  obtain⟨h1,h2⟩:=V.node (k:=(i:Int)) (by omega) (by omega)
  rw [zoF,hx] at h1
  have e:=Option.some.inj h1
  rw [<- e] at h2
  by_cases k0:x.kind=0
  ·
   obtain rfl:=(V.away hx).2 k0
   unfold zh at hx
   rw [List.getElem?_cons_zero] at hx
   obtain rfl:=Option.some.inj hx
   exact⟨fun _=>.inl rfl,fun h=>by simp at h⟩
  ·
   obtain⟨h3,h4,_⟩:=h2.step k0
   have:=(zox.1 h4).1
   exact⟨fun h=>by omega,fun _=>by omega⟩
 ·
  obtain rfl:i=(zh f).length - 1:=by omega
  have hll:=zQ f.body V.plain 0 1 (1+widL f.body)
  unfold zh at hx
  rw [zoM,zor,zoE,Nat.add_sub_cancel,List.getElem?_cons_succ,zoK (zoI _),Nat.sub_self] at hx
  obtain rfl:(⟨1,-1,-1,-1⟩:Nd)=x:=by simpa using hx
  exact⟨fun _=>.inr rfl,fun h=>by simp at h⟩
theorem Valid.prOk {f:Fl} (V:Valid f):PrOk f (zh f):=by
 refine⟨fun x hx=>?_,fun x hx y hy=>?_⟩
 ·
  obtain⟨i,hi⟩:=List.mem_iff_getElem?.1 hx
  have:=(V.ends hi).2
  by_cases h:0<=x.at_
  . exact this h
  . omega
 ·
  obtain⟨i,hi⟩:=List.mem_iff_getElem?.1 hx
  obtain⟨h0,h1⟩:=mem_succ.1 hy
  exact ((V.edge hi).1 y (h1.elim (fun e=>.inl e.symm) (fun e=>.inr e.symm))).2
theorem zeX {l:List Tm} (h:∀ k ∈ l,(xm k).length<=k.nodes):(mentL l).length<=tnodes l:=by
 induction l with
 | nil=>simp [mentL]
 | cons k r ih =>
  have h1:=h k (zon ..)
  have h2:=ih fun x hx=>h x (zom _ hx)
  rw [mentL,zor,tnodes];omega
theorem zeY (t:Tm):(xm t).length<=t.nodes:=by
 induction t using zm2 with
 | h t ih =>
  rw [zab,zor,t.nodes_eq]
  have:=zeX ih
  have h2:(if t.op=24 then [t.n] else []).length<=1:=by split <;> simp
  omega
theorem Valid.gOk {f:Fl} (V:Valid f):GOk f (zh f):=fun i x hx=>by
 obtain⟨h1,h2⟩:=V.ends hx
 refine⟨h1,fun h=>⟨h2 h,?_⟩⟩
 have hg:=jW h (h2 h)
 have hn:=zcU f.body _ (zok hg)
 have hs:=V.size
 have ht:=zeY (zU f x.at_).term
 rw [St.nodes_eq] at hn
 omega
noncomputable def yn (f:Fl) (g:List Nd) (s:Sf):Int:=by
 classical
 exact if yD f g ≠ 0 then yD f g else if RightF f g s (rdV f g) then 0 else 13
section
variable {f:Fl} {g:List Nd} {s:Sf}
theorem sc_g (h:yD f g ≠ 0):yn f g s=yD f g:=by unfold yn;rw [zou h]
theorem zeZ (h:¬ yD f g ≠ 0) (hr:¬ RightF f g s (rdV f g)):yn f g s=13:=by unfold yn;rw [zot h,zot hr]
theorem ziF (h:¬ yD f g ≠ 0) (hr:RightF f g s (rdV f g)):yn f g s=0:=by unfold yn;rw [zot h,zou hr]
theorem zgA (h:yn f g s=0):yD f g=0/\RightF f g s (rdV f g):=by
 unfold yn at h
 split at h
 . contradiction
 ·
  rename_i h0
  split at h
  . rename_i h1;exact⟨zos.1 h0,h1⟩
  . cases h
theorem jq (h:¬ yD f g ≠ 0):yp f=0/\g=zh f:=by
 unfold yD at h
 split at h
 . contradiction
 ·
  rename_i h0
  split at h
  . rename_i h1;exact⟨zos.1 h0,h1.symm⟩
  . exact absurd (by decide) h
theorem zgB (hof:OfF f s) (hlen:s.nodes.length=g.length) (hn:∀ (n:Nat) x,s.nodes[n]?=some x->NodF f g s (rdV f g) n x) (h1:∀ k:Nat,f.vars.length<=k->k<s.of_.length->(xG f g s).count (k:Int)=1) (hu:zbB f g s):RightF f g s (rdV f g):=⟨⟨hof,hlen,hn,h1⟩,hu.1,hu.2⟩
end
theorem zia {P:Prop} {q:Bool} (h:q=true ↔ P):q=@decide P (Classical.propDecidable P):=by
 by_cases hp:P
 . rw [@zov P (Classical.propDecidable P) hp];exact h.2 hp
 ·
  rw [@zow P (Classical.propDecidable P) hp]
  cases q with
  | true=>exact absurd (h.1 rfl) hp
  | false=>rfl
theorem zb7 {p:Program} {n:FuncId} {a:Array Value} {W:World} {P:Prop} (h:Calls p n a W (Ret fun r w'=>(∃ q:Bool,r=.bool q/\(q=true ↔ P))/\Ext W w')):Calls p n a W (Ret fun r w'=>r=.bool (@decide P (Classical.propDecidable P))/\Ext W w'):=by
 refine Calls.mono h ?_
 rintro e w' ⟨r,rfl,⟨q,rfl,hq⟩,hE⟩
 exact⟨_,rfl,by rw [zia hq],hE⟩
end Go.Proofs.YtckdhgbepmpgiaaGreat
namespace Go.GL
theorem zjV {P:Program} {f:FuncId} {args:Array Value} {w:World} {H:Hp} {k:Nat} {e:HE} {α:Type} {E:α->HE} {Φ:Value->α->Prop} (hg:hget H k=some e) (hE:∀ x,(E x).loc/\∀ b,¬ (E x).fz b) (h:Calls P f args w (Ret fun r w'=>∃ x,Φ r x/\(E x).holds w'/\Keep e.S w w'/\∀ q,(E x).S q->(e.S q\/w.heap.size<=q)/\q<w'.heap.size)):Calls P f args w (Ret fun r w'=>∃ x,Φ r x/\Hands H [k] [(k,E x)] w w'):=by
 refine Calls.mono h ?_
 rintro e' w' ⟨r,rfl,x,h1,h2,h3,h4⟩
 have hin:∀ q,e.S q->InS H [k] q:=fun q hq=>⟨(k,e),zx hg,by simp [zg6,Nat.beq_refl],hq⟩
 refine⟨r,rfl,x,h1,h3.mono fun q _ hq=>hin q hq,fun y hy=>?_,List.pairwise_singleton _ _⟩
 rw [zoB] at hy
 subst hy
 exact⟨h2,(hE x).1,(hE x).2,fun q hq=>⟨(h4 q hq).1.imp (hin q) id,(h4 q hq).2⟩⟩
end Go.GL
namespace Go.Proofs.YtckdhgbepmpgiaaGreat
open Go.GL
attribute [local instance 1] Classical.propDecidable
theorem jZ (f:Fl) (g:List Nd) (s:Sf) (hsz:snodes f.body+zA f.hatches<=1024) (hbk:sbulk f.body<=1000000) (hbig:s.of_.length<=1000000/\(LP s g.length).length<=1000000) (v1 v2 v3 gv ofv nodv:Value) (D:Nat->Prop) (W:World) (hf:RFl D W f v1 v2 v3) (hg:SlR 4 RNd D W gv g) (hS:RSf D W s ofv nodv) (hD:∀ q,D q->q<W.heap.size) :
  Calls Tryz.prog 16 #[.agg #[v1,v2,v3],.agg #[gv],.agg #[ofv,nodv]] W (Ret fun r w'=>r=.int .i64 (yn f g s)/\Ext W w'):=by
 have hf0:=hf
 have hg0:=hg
 have hS0:=hS
 obtain⟨ag,cg,rfl⟩:=hg.form
 obtain⟨an,cn,rfl⟩:=hS.nodes.form
 obtain⟨ao,co,rfl⟩:=hS.of_.form
 have hnm:=hS.nodes.max
 have hgm:=hg.max
 refine zmw Tryz.func16 O Tryz.ntmps16 O (zmE ?_)
 refine Vs 2 O ?_
 refine V.box 3 O O (fun b3=>?_)
 refine V.box 4 O O (fun b4=>?_)
 refine V.box 5 O O (fun b5=>?_)
 refine Vs 8 O ?_
 refine zmZ Tryz.call36 O (fun w hI=>zdB f g _ _ _ _ D D w (Tr1 hI.k0 hf0) (Tr1 hI.k0 hg0) hsz hbk) ?_
 refine Vs 9 O ?_
 refine zkG O (fun c0=>?_) (fun c0=>?_)
 ·
  refine Vs 8 O ?_
  refine zkW tr16 O (fun w hI=>⟨_,rfl,by rw [sc_g c0],hI.k0⟩)
 ·
  obtain⟨hck,hgc⟩:=jq c0
  have vd:Valid f:=⟨hck,hsz,hbk⟩
  have hk:GOk f g:=by rw [hgc];exact vd.gOk
  have hp:PrOk f g:=by rw [hgc];exact vd.prOk
  have hlens:=vd.lens
  have hss:=vd.ssize
  have hgl1:1<=g.length/\g.length<=8000:=by
   have h1:=yz f vd.plain
   have h2:=yU f.body
   rw [hgc];omega
  refine Vs 3 O ?_
  refine Vw [3,4,5] [] O ?_
  refine Vd [0,1,3] 0 (by kernel_rfl) O O O ?_
  refine zn2 2 0 tc37 O (by kernel_rfl) O O (fun w hI=>yE f g hp (by omega) (by omega) _ _ _ _ D w (Tr1 hI.k0 hf0) (Tr1 hI.k0 hg0) (fun q hq=>Nat.lt_of_lt_of_le (hD q hq) (Keep.size hI.k0))) ?_
  rintro gp w1 w2 hI1 hk12 ⟨gb,rfl,hG⟩ hlow
  have hDs:∀ q,(D q\/(w1.heap.size<=q/\q<w2.heap.size))->q<w2.heap.size:=fun q hq=>by
   have h1:w1.heap.size<=w2.heap.size:=hk12.size
   have h2:W.heap.size<=w1.heap.size:=hI1.k0.size
   rcases hq with hq | hq
   . have:=hD q hq;omega
   . omega
  refine zni 4 [Value.pointer none,Value.slice none 0 0,Value.slice none 0 0,Value.slice none 0 0,Value.slice none 0 0] [(0,1),(1,2),(3,1),(4,1)] [(0,_),(1,_)] O (by kernel_rfl) O O (fun _=>by kernel_rfl) ?_
  refine zmK 5 20 1 O (by kernel_rfl) O O (fun _ _=>M.box O O) (fun b20=>?_)
  refine Vd [6] 1 (by kernel_rfl) O O O ?_
  refine VD.done (by kernel_rfl) ?_
  refine Vs 5 O ?_
  refine zmZ Tryz.call38 O (fun w hI=>zb7 (zd0 f g s b20 gb _ _ _ _ D (fun q=>D q\/(w1.heap.size<=q/\q<w2.heap.size)) w (Blk.cells (hI.at 20 O)) (Tr1 hI.k1 hS0.of_) (hG.keep hI.k0 (fun q hq _ hs=>by have h1:=hlow q hs;have h2:=hI1.hsE 0 O hs;rcases hq with hq | hq;(· have:=hD q hq;omega);omega)))) ?_
  refine zml O (fun w hI=>zlV O (by first | exact za | rfl)) ?_
  refine Vs 1 O ?_
  refine V.sp 24 O (fun n1=>?_) (fun n1=>?_)
  ·
   have hb:¬ RightF f g s (rdV f g):=fun h=>n1 h.of_
   refine Vs 33 O ?_
   refine zkW tr16 O (fun w hI=>⟨_,rfl,by rw [zeZ c0 hb],hI.k1⟩)
  ·
   have hof:OfF f s:=Classical.not_not.1 n1
   refine Vs 9 O ?_
   refine V.sp 33 O (fun n2=>?_) (fun n2=>?_)
   ·
    have hb:¬ RightF f g s (rdV f g):=fun h=>by have:=h.len;omega
    refine Vs 24 O ?_
    refine zkW tr16 O (fun w hI=>⟨_,rfl,by rw [zeZ c0 hb],hI.k1⟩)
   ·
    have hlen:s.nodes.length=g.length:=by omega
    refine Vs 1 O ?_
    refine zmZ Tryz.call39 O (fun w hI=>zb7 (zeU f g s hk hlen b20 gb _ _ _ _ D (fun q=>D q\/(w1.heap.size<=q/\q<w2.heap.size)) w (Blk.cells (hI.at 20 O)) (Tr1 hI.k1 hS0) (hG.keep hI.k0 (fun q hq _ hs=>by have h1:=hlow q hs;have h2:=hI1.hsE 0 O hs;rcases hq with hq | hq;(· have:=hD q hq;omega);omega)))) ?_
    refine zml O (fun w hI=>zlV O (by first | exact za | rfl)) ?_
    refine Vs 2 O ?_
    refine V.sp 38 O (fun n3=>?_) (fun n3=>?_)
    ·
     have hb:¬ RightF f g s (rdV f g):=fun h=>n3 h.nod
     refine Vs 19 O ?_
     refine zkW tr16 O (fun w hI=>⟨_,rfl,by rw [zeZ c0 hb],hI.k1⟩)
    ·
     have hnod:=Classical.not_not.1 n3
     refine Vs 1 O ?_
     refine zmZ Tryz.call40 O (fun w hI=>zb7 (zhQ f g s (rdV f g) hlen hnod hof.len hbig b20 gb _ _ _ _ D (fun q=>D q\/(w1.heap.size<=q/\q<w2.heap.size)) w (Blk.cells (hI.at 20 O)) (Tr1 hI.k1 hS0) (hG.keep hI.k0 (fun q hq _ hs=>by have h1:=hlow q hs;have h2:=hI1.hsE 0 O hs;rcases hq with hq | hq;(· have:=hD q hq;omega);omega)))) ?_
     refine zml O (fun w hI=>zlV O (by first | exact za | rfl)) ?_
     refine Vs 2 O ?_
     refine V.sp 43 O (fun n4=>?_) (fun n4=>?_)
     ·
      have hb:¬ RightF f g s (rdV f g):=fun h=>n4 h.one
      refine Vs 14 O ?_
      refine zkW tr16 O (fun w hI=>⟨_,rfl,by rw [zeZ c0 hb],hI.k1⟩)
     ·
      have hone:=Classical.not_not.1 n4
      have hFm:FormF f g s (rdV f g):=⟨hof,hlen,hnod,hone⟩
      refine Vs 1 O ?_
      refine znQ [20] (Hn:=fun x:Value × Bool=>[(20,.own b20 (chk gb (.slice ao s.of_.length co) (.slice an s.nodes.length cn) x.1 (.slice none 0 0)) 97)]) [(3,some (3,0)),(4,some (4,0)),(5,some (5,0)),(8,some (20,0)),(20,some (20,0)),(21,some (20,0)),(25,some (5,1)),(28,some (4,0)),(34,some (20,0)),(39,some (20,0)),(44,some (20,0))] Tryz.call41 O (fun _ _=>rfl) (fun _=>rfl) (fun w hI=>zjV (k:=20) O (fun _=>⟨trivial,fun _ h=>h⟩) (zgq f g s hk hFm hgl1.1 (by omega) (by omega) b20 gb _ _ _ (fun q=>D q\/(w1.heap.size<=q/\q<w2.heap.size)) w (hI.at 20 O) (fun q hq=>⟨Nat.lt_of_lt_of_le (hDs q hq) (Keep.size hI.k0),by exact hI.offD 0 20 O O (hDs q hq) (fun hs=>by have h1:=hlow q hs;have h2:=hI1.hsE 0 O hs;rcases hq with hq | hq;(· have:=hD q hq;omega);omega)⟩) ((Tr1 hI.k1 hS0).wide (fun q h=>.inl h)) (hG.keep hI.k0 (fun q hq _ hs=>by have h1:=hlow q hs;have h2:=hI1.hsE 0 O hs;rcases hq with hq | hq;(· have:=hD q hq;omega);omega)))) ?_
      rintro _ ⟨u,q⟩ ⟨rfl,hq⟩
      refine zml O (fun w hI=>zlV O (by first | exact za | rfl)) ?_
      refine Vs 3 O ?_
      refine V.bool O (fun n5=>?_) (fun n5=>?_)
      ·
       have hb:¬ RightF f g s (rdV f g):=fun h=>by
        have:q=true:=hq.2 ⟨h.use,h.arg⟩
        rw [this] at n5;cases n5
       refine Vs 7 O ?_
       refine zkW tr16 O (fun w hI=>⟨_,rfl,by rw [zeZ c0 hb],hI.k1⟩)
      ·
       have hr:RightF f g s (rdV f g):=zgB hof hlen hnod hone (hq.1 (by cases q;(· cases n5);rfl))
       refine Vs 8 O ?_
       refine zkW tr16 O (fun w hI=>⟨_,rfl,by rw [ziF c0 hr],hI.k1⟩)
theorem zda (a b c:Int) (w:World) (hbc:b<=c):Calls Tryz.prog 46 #[.int .i64 a,.int .i64 b,.int .i64 c] w (Ret fun r w'=>r=.int .i64 (yR a b c)/\Ext w w'):=by
 refine zmw Tryz.func46 O Tryz.ntmps46 O (Gs 16 O (zkV Tryz.results46 O ⟨_,rfl,?_,Keep.refl _ _⟩))
 congr 1
 unfold yR
 split
 . omega
 . split <;> omega
end Go.Proofs.YtckdhgbepmpgiaaGreat
