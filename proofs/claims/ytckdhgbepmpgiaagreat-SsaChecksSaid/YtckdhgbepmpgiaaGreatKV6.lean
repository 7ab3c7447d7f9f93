/-
  Contracts and the mathematics that the proof needs. Nothing here is a claim.
-/
import Derived.Test.YtckdhgbepmpgiaaGreatKV5
namespace Go.Proofs.YtckdhgbepmpgiaaGreat
open Go.GL
def rnr (gb:Nat) (ofv nodv vv hv rv ov tv:Value):List Value:=[.pointer (some ⟨gb,0,none⟩),ofv,nodv,vv,hv,rv,ov,tv]
structure TlOk (f:Fl) (vals:List Int) (l:List (Int × Int)) (tl:List Int):Prop where
 inv:InV f.vars tl
 eq:∀ u ∈ l,lki tl u.1.toNat=lki vals u.1.toNat
def zf0 (f:Fl):List Int:=f.vars.map fun v=>v.low
theorem kf (f:Fl):(zf0 f).length=f.vars.length:=zoD _
theorem znB {f:Fl} {vals:List Int} (hg:∀ v ∈ f.vars,yr (v.low,v.high)):TlOk f vals [] (zf0 f):=by
 refine⟨⟨kf f,fun i v hv=>?_⟩,fun u hu=>by cases hu⟩
 have:lki (zf0 f) i=v.low:=zfM (by unfold zf0;rw [zoA,hv];rfl)
 have h2:=(hg v (zok hv))
 unfold yr at h2
 rw [this]
 simp at h2
 omega
theorem zgC {l:List Int} {i j:Nat} {x:Int} (h:i<l.length):lki (l.set i x) j=if j=i then x else lki l j:=by
 unfold lki
 by_cases e:j=i
 . subst e;rw [zou rfl,List.getElem?_set_self h];rfl
 . rw [zot e,List.getElem?_set_ne (fun h=>e h.symm)]
theorem TlOk.next {f:Fl} {vals tl:List Int} {l:List (Int × Int)} (h:TlOk f vals l tl) (hV:InV f.vars vals) {u:Int × Int} {v:Nat} (hu:u.1=(v:Int)) (hv:v<f.vars.length):TlOk f vals (l++[u]) (tl.set v (lki vals v)):=by
 have hl:=h.inv.len
 refine⟨⟨by rw [List.length_set,hl],fun i x hx=>?_⟩,fun w hw=>?_⟩
 ·
  rw [zgC (by omega)]
  split
  . rename_i e;subst e;exact hV.at_ i x hx
  . exact h.inv.at_ i x hx
 ·
  rw [zgC (by omega)]
  split
  . rename_i e;rw [e]
  ·
   rename_i e
   rcases zoC.1 hw with hw | hw
   . exact h.eq w hw
   ·
    rw [zoB] at hw
    subst hw
    exact absurd (by omega) e
theorem zet (f:Fl) (g:List Nd) (s:Sf) (hgood:∀ v ∈ f.vars,yr (v.low,v.high)) (hR:RightF f g s (rdV f g)) (n:Nat) (hn:n<g.length) (hso:StepOk f (stN f (xF g n))) (hat:0<=(xF g n).at_) (hrd:rdB f (xF g n)=true) (hvl:f.vars.length<=1000) (_:g.length<=100000) (vl vals:List Int) (hV:InV f.vars vals) (hInv:InvV f g s n vl vals) (b gb:Nat) (ofv nodv vv hv rv ov tv:Value) (D Dg Dv:Nat->Prop) (W:World) (hc:Cells W b 0 (rnr gb ofv nodv vv hv rv ov tv)) (hS:RSf D W s ofv nodv) (hG:GrO Dg W f g gb) (hvv:SlR 1 yj Dv W vv vl) :
  Calls Tryz.prog 92 #[.pointer (some ⟨b,0,none⟩),.int .i64 n] W (Ret fun r w'=>r=.int .i64 (xZ vals (stN f (xF g n)).term)/\Ext W w'):=by
 have hG0:=hG
 obtain⟨v1,v2,v3,gv,sv,pv,hD,hcell,hf,hg,hs,hpr⟩:=hG0
 have hfv:=hf.vars
 obtain⟨a1,c1,rfl⟩:=hfv.form
 obtain⟨as1,cs1,rfl⟩:=hs.form
 have hnd:=hS.nodes
 obtain⟨an,cn,rfl⟩:=hnd.form
 obtain⟨av,cv,rfl⟩:=hvv.form
 have hnm:=hnd.max
 have hvm:=hvv.max
 have hgs:(g.map (stN f)).length=g.length:=zoD _
 have hlen:=hR.len
 obtain⟨x,he_x⟩:∃ x,s.nodes[n]?=some x:=⟨_,zoj (by omega)⟩
 have hnod:=hR.nod n x he_x
 have hstn:(g.map (stN f))[n]?=some (stN f (xF g n)):=by
  have e:=zoj hn
  rw [zoA,e,xd e];rfl
 generalize hgm:g.map (stN f)=gm at *
 refine zmv Tryz.func92 O Tryz.ntmps92 O (zmE ?_)
 refine znb 900 0 O O (fun h=>h) hc ?_
 refine znb 901 0 O O (fun h=>h) hcell ?_
 refine zmL 0 900 0 O O ?_
 refine Vs 11 O ?_
 refine zmL 15 901 0 O O ?_
 refine Vs 5 O ?_
 refine zlz 21 tu27 Tryz.el3 O (by omega) (by omega) (zs:=List.replicate f.vars.length (.int .i64 0)) (qw _ _ O) (by simp) (fun b21=>?_)
 refine znc 21 O (e':=.row 3 1 (.slice (some ⟨b21,0,none⟩) f.vars.length f.vars.length) f.vars.length (((zf0 f).take 0++List.replicate (f.vars.length - 0) 0).map zc)) (by simp [zc]) ?_
 refine Vs 10 O ?_
 refine zmL 25 901 0 O O ?_
 refine Vs 9 O ?_
 refine znd (σ:=Nat) [0,1,5,29,30] [900,901] [0] O (fun e i=>(31,.int .i64 i)::e) (fun e i=>(21,.row 3 1 (.slice (some ⟨b21,0,none⟩) f.vars.length f.vars.length) f.vars.length (((zf0 f).take i++List.replicate (f.vars.length - i) 0).map zc))::e) (fun i=>i<=f.vars.length) (fun i=>f.vars.length - i) (0) (Sub.of O) (Has.of O) (fun _=>rfl) (fun _=>rfl) (fun _=>rfl) (zoy _) ?_
 rintro i hi
 refine Vs 6 O ?_
 refine zkG O (fun lt=>?_) (fun lt=>?_)
 ·
  refine Vs 7 O ?_
  obtain⟨vr,he_vr,hm_vr⟩:=gE_ f.vars (i) (by omega)
  obtain⟨b_vr,o_vr,c_vr,ha_vr,_,hc_vr,hR_vr⟩:=hfv.at he_vr
  obtain rfl:=hR_vr
  refine zna 1000 0 O O hc_vr ?_
  refine zmN 1000 tR22 ts142 O ha_vr (by omega) (_) (rfl) O ?_
  have hlw:(zf0 f)[i]?=some vr.low:=by unfold zf0;rw [zoA,he_vr];rfl
  have hst:((zf0 f).take i++List.replicate (f.vars.length - i) 0).set i vr.low=(zf0 f).take (i+1)++List.replicate (f.vars.length - (i+1)) 0:=by
   rw [zd hlw,List.set_append_right _ _ (by rw [zoN,kf];omega),zoN,kf,show i - min i f.vars.length=0 by omega,show f.vars.length - i=(f.vars.length - (i+1))+1 by omega,List.replicate_succ]
   simp
  refine Vs 1 O ?_
  refine V.alloc 7 tz142 O O (fun b7=>?_)
  refine Va 10 O (by omega) ?_
  refine zmX 21 (i) ts3 O (by omega) (by simp [kf];omega) ?_
  refine znc 21 O (e':=.row 3 1 (.slice (some ⟨b21,0,none⟩) f.vars.length f.vars.length) f.vars.length (((zf0 f).take (i+1)++List.replicate (f.vars.length - (i+1)) 0).map zc)) (by rw [<- hst,List.map_set]) ?_
  refine Va 7 O (by omega) ?_
  refine V.back (i+1) (Sub.of O) (Has.of O) (by omega) (by first | omega | (dsimp only;omega)) 0 O O
 ·
  obtain rfl:i=f.vars.length:=by omega
  refine znc 21 O (e':=.row 3 1 (.slice (some ⟨b21,0,none⟩) f.vars.length f.vars.length) f.vars.length ((zf0 f).map zc)) (by rw [List.take_of_length_le (by rw [kf];omega),Nat.sub_self,List.replicate_zero,List.append_nil]) ?_
  refine Vs 14 O ?_
  obtain⟨x2,he_x2,hm_x2⟩:=gE_ s.nodes (n) (by omega)
  obtain⟨b_x2,o_x2,c_x2,ha_x2,_,hc_x2,hR_x2⟩:=hnd.at he_x2
  obtain⟨v1_x2,v2_x2,rfl,hp_x2,hu_x2⟩:=hR_x2
  obtain⟨a1_x2,n1_x2,rfl⟩:=hp_x2.form
  obtain⟨a2_x2,n2_x2,rfl⟩:=hu_x2.form
  refine zna 2000 0 O O hc_x2 ?_
  refine zmN 2000 tR28 ts59 O ha_x2 (by omega) (_) (rfl) O ?_
  obtain rfl:x2=x:=Option.some.inj (he_x2.symm.trans he_x)
  have hum:=hu_x2.max
  refine Vs 7 O ?_
  refine znd (σ:=Nat × List Int) [0,1,5,50,51] [900,901] [0] O (fun e ⟨k,tl⟩=>(52,.int .i64 k)::e) (fun e ⟨k,tl⟩=>(21,.row 3 1 (.slice (some ⟨b21,0,none⟩) f.vars.length f.vars.length) f.vars.length (tl.map zc))::e) (fun⟨k,tl⟩=>k<=x2.uses.length/\TlOk f vals (x2.uses.take k) tl) (fun⟨k,tl⟩=>x2.uses.length - k) ((0,zf0 f)) (Sub.of O) (Has.of O) (fun _=>rfl) (fun _=>rfl) (fun _=>rfl) (⟨zoy _,znB hgood⟩) ?_
  rintro⟨k,tl⟩ ⟨hk,htl⟩
  show V _ _ _ _ _ ((52,.int .i64 k)::_) _ ((21,.row 3 1 (.slice (some ⟨b21,0,none⟩) f.vars.length f.vars.length) f.vars.length (tl.map zc))::_) _
  have htll:=htl.inv.len
  refine Vs 6 O ?_
  refine zkG O (fun lk=>?_) (fun lk=>?_)
  ·
   refine Vs 6 O ?_
   obtain⟨u,he_u,hm_u⟩:=gE_ x2.uses (k) (by omega)
   obtain⟨b_u,o_u,c_u,ha_u,_,hc_u,hR_u⟩:=hu_x2.at he_u
   obtain rfl:=hR_u
   refine zna 3000 0 O O hc_u ?_
   refine zmN 3000 tR57 ts85 O ha_u (by omega) (_) (rfl) O ?_
   have hub:=zce hR.of_ (hnod.ver u hm_u)
   have huk:=(hnod.ver u hm_u).1
   have huse:=hR.use n x2 he_x2 u hm_u
   obtain⟨v,hv⟩:∃ v:Nat,u.1=(v:Int):=⟨u.1.toNat,by omega⟩
   obtain⟨q,hq⟩:∃ q:Nat,u.2=(q:Int):=⟨u.2.toNat,by omega⟩
   have hvn:v<f.vars.length:=by omega
   have hval:=(hInv v hvn).2 (by rw [<- hv,huse];exact huk)
   rw [<- hv,huse,hq,zoF] at hval
   have hvals:=zbu (l:=vals) (i:=v) (by rw [hV.len];exact hvn)
   have hql:q<vl.length:=(zox.1 (hval.trans hvals)).1
   have hnx:=htl.next hV hv hvn
   obtain⟨z,he_z,hm_z⟩:=gE_ vl (q) (by omega)
   obtain⟨b_z,o_z,c_z,ha_z,_,hc_z,hR_z⟩:=hvv.at he_z
   obtain rfl:=hR_z
   refine zna 4000 0 O O hc_z ?_
   have hz:z=lki vals v:=Option.some.inj (he_z.symm.trans (hval.trans hvals))
   refine Vs 1 O ?_
   refine V.alloc 9 tz85 O O (fun b9=>?_)
   refine Vs 3 O ?_
   refine Vw [900,901,3000,4000,9] [] O ?_
   refine Vd [0,1,2,3,4,5,6,7,8] 0 (by kernel_rfl) O O O ?_
   refine zmO 9 4000 tR27 ts3 O (by kernel_rfl) O ha_z (by omega) (q) (by omega) O ?_
   refine Vb [10,11] 0 (by kernel_rfl) O O O (by omega) ?_
   refine zmY 12 21 0 (v) ts3 O (by kernel_rfl) O O (by omega) (by rw [zoD];omega) ?_
   refine VD.done (by kernel_rfl) ?_
   refine Vs 2 O ?_
   refine znc 21 O (e':=.row 3 1 (.slice (some ⟨b21,0,none⟩) f.vars.length f.vars.length) f.vars.length ((tl.set v (lki vals v)).map zc)) (by rw [hz,List.map_set]) ?_
   refine Va 4 O (by omega) ?_
   refine V.back (⟨k+1,tl.set v (lki vals v)⟩) (Sub.of O) (Has.of O) (⟨by omega,by rw [zd he_u];exact hnx⟩) (by first | omega | (dsimp only;omega)) 0 O O
  ·
   obtain rfl:k=x2.uses.length:=by omega
   rw [zoo] at htl
   obtain⟨st,he_st,hm_st⟩:=gE_ gm (n) (by omega)
   obtain⟨b_st,o_st,c_st,ha_st,_,hc_st,hR_st⟩:=hs.at he_st
   obtain⟨v1_st,v2_st,v3_st,v4_st,rfl,hk_st,ht_st,hs_st,hb_st⟩:=hR_st.get
   obtain⟨a1_st,n1_st,rfl⟩:=hk_st.form
   obtain⟨a2_st,n2_st,rfl⟩:=ht_st.form
   obtain⟨a3_st,n3_st,rfl⟩:=hs_st.form
   obtain⟨a4_st,n4_st,rfl⟩:=hb_st.form
   refine zna 5000 0 O O hc_st ?_
   obtain rfl:st=stN f (xF g n):=Option.some.inj (he_st.symm.trans hstn)
   have hval:xZ tl (stN f (xF g n)).term=xZ vals (stN f (xF g n)).term:=zhB _ fun v hv=>by
    have hst:stN f (xF g n)=zU f (xF g n).at_:=by unfold stN;rw [zou hat]
    rw [hst] at hv
    have hm:=(zjO hrd).2 hv
    rw [show rdN f (xF g n)=x2.uses.map (·.1) from hnod.use.symm] at hm
    obtain⟨u,hu,rfl⟩:=List.mem_map.1 hm
    exact htl.eq u hu
   refine Vs 6 O ?_
   refine Vw [900,901,5000] [] O ?_
   refine Vd [0,1,2,3] 0 (by kernel_rfl) O O O ?_
   refine zmM 73 901 0 O O ?_
   refine Vd [4,5,6,7,8,9,10,11,12] 0 (by kernel_rfl) O O O ?_
   refine zmM 82 901 0 O O ?_
   refine Vd [13,14,15,16] 0 (by kernel_rfl) O O O ?_
   refine zmO 17 5000 tR24 ts72 O (by kernel_rfl) O ha_st (by omega) (n) (by omega) O ?_
   refine Vd [18,19] 0 (by kernel_rfl) O O O ?_
   refine zn0 20 0 Tryz.call45 O (by kernel_rfl) O O (fun w hI=>zaX hgood htl.inv (stN f (xF g n)).term hso.formed hso.ranged hso.small _ _ _ (fun _=>True) w _ _ (Tr1 hI.k0 hfv) (zlM zc (fun _ _=>rfl) (show w.ownsRow 0 3 1 _ tl.length _ from htll ▸ hI.at 21 O) (fun _ _=>trivial)) (RTm.put (Tr1 hI.k0 hk_st))) ?_
   refine Vd [21,22,23,24,25] 0 (by kernel_rfl) O O O ?_
   refine VD.done (by kernel_rfl) ?_
   refine Vs 8 O ?_
   refine zkW Tryz.results92 O (fun w hI=>⟨_,rfl,by rw [hval],hI.k0⟩)
end Go.Proofs.YtckdhgbepmpgiaaGreat
namespace Go.GL
open Go.RowKit Go.ChangeMaps
section
variable {κ:Type} [DecidableEq κ]
variable {ke:κ->Value}
omit [DecidableEq κ] in
section
variable {P:Program} {env:Env} {w:World} {dst:Option Tmp} {ty:TypeId} {pos:String} {aft:Array Edge} {g:Option (Nat × Bool)} {t kt et:TypeId} {m:Nat} {l:List (κ × Value)}
omit [DecidableEq κ] in
end
end
open Go.RowKit Go.ChangeMaps
section
variable {κ:Type} [DecidableEq κ] {ke:κ->Value}
section
variable {P:Program} {env:Env} {w:World} {dst:Option Tmp} {ty:TypeId} {pos:String} {aft:Array Edge} {g:Option (Nat × Bool)} {t kt et:TypeId} {m:Nat} {l:List (κ × Value)}
omit [DecidableEq κ] in
end
end
section
variable {P:Program} {n:Nat} {Q:Exit->Act->World->Prop} {ks:List Fr} {env:Env} {A:Tgs} {H Hs:Hp} {Bs B0:zG} {ops:Array Oper} {L:List Nat} {fuel:Nat} {listed:Array Bool}
variable {d d2:Nat} {op op2:Op} {ty ty2:TypeId} {ps ps2:String} {aft aft2:Array Edge} {g:Option (Nat × Bool)} {v:Value}
theorem zo2 (i k j:Nat) {β:Type} {e:HE} {E':β->HE} {r:β->Value} (hi:ops[i]?=some ⟨some d,op,ty,ps,aft,g⟩) (hr:Region.ready .any ops listed=[i]) (hn:(Nat.blt d n,gd ops env g,hget H k,qR H k,qd (Hs.map (·.1)),xW k (Hs.map (·.1)))=(true,some true,some e,none,true,true)) (hB:Bs.drop j=B0)
  (hE:∀ x,(E' x).loc/\∀ b,¬ (E' x).fz b) (hm:∀ w,VI Bs H w->yC P ⟨some d,op,ty,ps,aft,g⟩ env w (fun u w'=>∃ x,u=r x/\(E' x).holds w'/\Keep e.S w w'/\∀ q,(E' x).S q->(e.S q\/w.heap.size<=q)/\q<w'.heap.size))
  (h:∀ x,VD P n Q ks ops Hs B0 L fuel (listed.setIfInBounds i true) ((d,r x)::env) ((d,none)::A) (yw H k (E' x)) Bs):VD P n Q ks ops Hs B0 L (fuel+1) listed env A H Bs:=by
 simp only [Prod.mk.injEq] at hn
 subst hB
 obtain⟨h1,h2,h3,h4,h5,h6⟩:=hn
 refine fun hH hA w hI=>zn6 i hi hr h1 h2 (.inl (hm w hI)) ?_
 rintro _ w' ⟨x,rfl,hh,hk,hS⟩
 have hI':=hI.set h3 hk hh (hE x).1 (hE x).2 hS
 have hH':Has Hs (yw H k (E' x)):=hH.set h3 h6
 exact⟨(hI'.drop j).pick hH' h5,h x hH' (TgOk.none (hA.res h3 h4)) w' hI'⟩
theorem znw (i k j:Nat) {e e':HE} (hi:ops[i]?=some ⟨none,op,ty,ps,aft,g⟩) (hr:Region.ready .any ops listed=[i]) (hn:(gd ops env g,hget H k,qR H k,qd (Hs.map (·.1)),xW k (Hs.map (·.1)))=(some true,some e,none,true,true)) (hB:Bs.drop j=B0) (hl:e'.loc) (hz:∀ b,¬ e'.fz b)
  (hm:∀ w,VI Bs H w->xB P ⟨none,op,ty,ps,aft,g⟩ env w (fun w'=>e'.holds w'/\Keep e.S w w'/\∀ q,e'.S q->(e.S q\/w.heap.size<=q)/\q<w'.heap.size))
  (h:VD P n Q ks ops Hs B0 L fuel (listed.setIfInBounds i true) env A (yw H k e') Bs):VD P n Q ks ops Hs B0 L (fuel+1) listed env A H Bs:=by
 simp only [Prod.mk.injEq] at hn
 subst hB
 obtain⟨h1,h3,h4,h5,h6⟩:=hn
 refine fun hH hA w hI=>zn8 i hi hr h1 (hm w hI) ?_
 rintro w' ⟨hh,hk,hS⟩
 have hI':=hI.set h3 hk hh hl hz hS
 have hH':Has Hs (yw H k e'):=hH.set h3 h6
 exact⟨(hI'.drop j).pick hH' h5,h hH' (hA.res h3 h4) w' hI'⟩
end
end Go.GL
namespace Go.Proofs.YtckdhgbepmpgiaaGreat
open Go.GL
theorem zeu {w:World} {e:TypeId} {b n c i:Nat} {xs:List Value} {v:Value} (h:w.ownsRow 0 e 1 (.slice (some ⟨b,0,none⟩) n c) n xs) (hv:xs[i]?=some v):w.cell? ⟨b,0+(i:Int).toNat*1,none⟩=some v:=by
 have:=(qQ h).2.2 i v hv
 simpa using this
theorem zgD {l:List Int} {x:Int} {k:Nat} (h:l[k]?=some x) (hn:x ∉ l.take k):l.idxOf x=k:=by
 induction l generalizing k with
 | nil=>simp at h
 | cons y l ih =>
  cases k with
  | zero=>simp at h;subst h;simp
  | succ k =>
   rw [List.take_succ_cons,zoz] at hn
   have hne:(y == x)=false:=by simpa using fun e:y=x=>hn (.inl e.symm)
   rw [List.idxOf_cons,hne,cond_false,ih (by simpa using h) (fun e=>hn (.inr e))]
theorem zf1 (l:List Int) (x:Int) (v:Value) (D:Nat->Prop) (W:World) (hv:SlR 1 yj D W v l) (hx:x ∈ l):Calls Tryz.prog 91 #[v,.int .i64 x] W (Ret fun r w'=>r=.int .i64 ((l.idxOf x:Nat):Int)/\Ext W w'):=by
 obtain⟨av,cv,rfl⟩:=hv.form
 have hmx:=hv.max
 refine zmv Tryz.func91 O Tryz.ntmps91 O (zmE ?_)
 refine Vs 14 O ?_
 refine znd (σ:=Nat) [0,1,7] [] [] O (fun e k=>(8,.int .i64 k)::e) (fun e k=>e) (fun k=>k<=l.length/\x ∉ l.take k) (fun k=>l.length - k) (0) (Sub.of O) (Has.of O) (fun _=>rfl) (fun _=>rfl) (fun _=>rfl) (⟨zoy _,by simp⟩) ?_
 rintro k ⟨hk,hn⟩
 refine Vs 6 O ?_
 refine zkG O (fun hlt=>?_) (fun hlt=>?_)
 ·
  refine Vs 15 O ?_
  obtain⟨y,he_y,hm_y⟩:=gE_ l (k) (by omega)
  obtain⟨b_y,o_y,c_y,ha_y,_,hc_y,hR_y⟩:=hv.at he_y
  obtain rfl:=hR_y
  refine zna 1000 0 O O hc_y ?_
  refine zmN 1000 tR27 ts3 O ha_y (by omega) (_) (rfl) O ?_
  refine Vs 4 O ?_
  refine zkG O (fun he=>?_) (fun he=>?_)
  ·
   refine Vs 12 O ?_
   refine zkW Tryz.results91 O (fun w hI=>⟨_,rfl,by rw [zgD (he ▸ he_y) hn],hI.k0⟩)
  ·
   refine Va 7 O (by omega) ?_
   refine V.back (k+1) (Sub.of O) (Has.of O) (⟨by omega,fun h=>((zd7 he_y).1 h).elim hn he⟩) (by first | omega | (dsimp only;omega)) 0 O O
 ·
  have:k=l.length:=by omega
  subst this
  rw [zoo] at hn
  exact absurd hx hn
noncomputable def phV (f:Fl) (g:List Nd) (s:Sf) (y:Nat) (vl:List Int) (p:Phn):Int:=lki vl (za9 f g s y p.var).toNat
noncomputable def qs (f:Fl) (g:List Nd) (s:Sf) (y:Nat) (vl:List Int) (l:List Phn):List Int:=l.foldl (fun t p=>t.set p.ver.toNat (phV f g s y vl p)) vl
theorem zf2 {f:Fl} {g:List Nd} {s:Sf} {y:Nat} {vl:List Int} {l:List Phn} {i:Nat} {p:Phn} (h:l[i]?=some p):qs f g s y vl (l.take (i+1))=(qs f g s y vl (l.take i)).set p.ver.toNat (phV f g s y vl p):=by
 unfold qs
 rw [zd h,List.foldl_append];rfl
theorem zb8 {f:Fl} {g:List Nd} {s:Sf} {y:Nat} {vl:List Int} (l:List Phn):(qs f g s y vl l).length=vl.length:=by
 unfold qs
 suffices ∀ t:List Int,(l.foldl (fun t p=>t.set p.ver.toNat (phV f g s y vl p)) t).length=t.length from this vl
 induction l with
 | nil=>intro t;rfl
 | cons p l ih=>intro t;rw [List.foldl_cons,ih,List.length_set]
theorem zib (f:Fl) (g:List Nd) (s:Sf) (hR:RightF f g s (rdV f g)) (n:Nat) (hn:n<g.length) (y:Nat) (hy:(zk s n).phis ≠ []->y ∈ qa g n) (_:g.length<=100000) (hpl:(zk s n).phis.length<=1000000) (vl:List Int) (hvll:vl.length=s.of_.length) (_:vl.length<=1000000) (b gb bv cv:Nat) (ofv nodv hv rv ov tv:Value) (D:Nat->Prop) (W:World) (hc:Cells W b 0 (rnr gb ofv nodv (.slice (some ⟨bv,0,none⟩) vl.length cv) hv rv ov tv)) (hS:RSf D W s ofv nodv) (hown:(qq (.slice (some ⟨bv,0,none⟩) vl.length cv) vl).holds W) (hap:∀ q,D q->bv ≠ q) (hapb:bv ≠ b) :
  Calls Tryz.prog 47 #[.pointer (some ⟨b,0,none⟩),.int .i64 y,.int .i64 n] W (Ret fun r w'=>∃ _x:Unit,r=.tuple #[]/\(qq (.slice (some ⟨bv,0,none⟩) vl.length cv) (qs f g s y vl (zk s n).phis)).holds w'/\Keep (qq (.slice (some ⟨bv,0,none⟩) vl.length cv) vl).S W w'/\∀ q,(qq (.slice (some ⟨bv,0,none⟩) vl.length cv) (qs f g s y vl (zk s n).phis)).S q->((qq (.slice (some ⟨bv,0,none⟩) vl.length cv) vl).S q\/W.heap.size<=q)/\q<w'.heap.size):=by
 have hnd:=hS.nodes
 obtain⟨an,cn,rfl⟩:=hnd.form
 have hnm:=hnd.max
 have hlen:=hR.len
 obtain⟨x,he_x⟩:∃ x,s.nodes[n]?=some x:=⟨_,zoj (by omega)⟩
 have hnod:=hR.nod n x he_x
 have hxn:zk s n=x:=yO he_x
 rw [hxn] at hpl hy ⊢
 have haS:∀ q,(qq (.slice (some ⟨bv,0,none⟩) vl.length cv) vl).S q->¬ D q:=fun q h hd=>hap q hd (by cases h;rfl)
 have hver:∀ p ∈ x.phis,∃ q:Nat,p.ver=(q:Int)/\q<vl.length:=fun p hp=>by
  obtain⟨q,h1,h2⟩:=qJ (hnod.phi.ver p hp)
  exact⟨q,h1,by omega⟩
 refine zmw Tryz.func47 O Tryz.ntmps47 O (znG 900 (.row 3 1 (.slice (some ⟨bv,0,none⟩) vl.length cv) vl.length (vl.map zc)) (hown) trivial (fun _ h=>h) (fun q hq=>qt hown hq) ?_)
 refine znb 901 0 O O (fun h=>hapb (by cases h;rfl)) hc ?_
 refine zmL 0 901 0 O O ?_
 refine Vs 8 O ?_
 obtain⟨x2,he_x2,hm_x2⟩:=gE_ s.nodes (n) (by omega)
 obtain⟨b_x2,o_x2,c_x2,ha_x2,hd_x2,hc_x2,hR_x2⟩:=hnd.atD he_x2
 obtain⟨v1_x2,v2_x2,rfl,hp_x2,hu_x2⟩:=hR_x2
 obtain⟨a1_x2,n1_x2,rfl⟩:=hp_x2.form
 obtain⟨a2_x2,n2_x2,rfl⟩:=hu_x2.form
 refine znb 1000 0 O O (fun h_=>by have h1_:=haS _ h_;have h2_:=hd_x2;first | omega | exact h1_ h2_) hc_x2 ?_
 refine zmN 1000 tR28 ts59 O ha_x2 (by omega) (_) (rfl) O ?_
 obtain rfl:x2=x:=Option.some.inj (he_x2.symm.trans he_x)
 refine Vs 9 O ?_
 refine zlz 23 tu27 Tryz.el3 O (by omega) (by omega) (zs:=List.replicate x2.phis.length (.int .i64 0)) (qw _ _ O) (by simp) (fun b23=>?_)
 generalize hm:x2.phis.length=m at *
 have hpm2:=hp_x2.max
 refine Vs 11 O ?_
 refine znc 23 O (e':=.row 3 1 (.slice (some ⟨b23,0,none⟩) m m) m (((x2.phis.take 0).map (phV f g s y vl)++List.replicate (m - 0) 0).map zc)) (by simp [zc]) ?_
 refine Vs 1 O ?_
 refine znd (σ:=Nat) [0,1,6,7,24,25] [901] [0] O (fun e i=>(26,.int .i64 i)::e) (fun e i=>(23,.row 3 1 (.slice (some ⟨b23,0,none⟩) m m) m (((x2.phis.take i).map (phV f g s y vl)++List.replicate (m - i) 0).map zc))::(900,.row 3 1 (.slice (some ⟨bv,0,none⟩) vl.length cv) vl.length (vl.map zc))::e) (fun i=>i<=m) (fun i=>m - i) (0) (Sub.of O) (Has.of O) (fun _=>rfl) (fun _=>rfl) (fun _=>rfl) (zoy _) ?_
 rintro i hi
 refine Vs 6 O ?_
 refine zkG O (fun li=>?_) (fun li=>?_)
 ·
  refine Vs 7 O ?_
  obtain⟨p,he_p,hm_p⟩:=gE_ x2.phis (i) (by omega)
  obtain⟨b_p,o_p,c_p,ha_p,hd_p,hc_p,hR_p⟩:=hp_x2.atD he_p
  obtain⟨v1_p,v2_p,rfl,hf_p,hg_p⟩:=hR_p
  obtain⟨a1_p,n1_p,rfl⟩:=hf_p.form
  obtain⟨a2_p,n2_p,rfl⟩:=hg_p.form
  refine znb 2000 0 O O (fun h_=>by have h1_:=haS _ h_;have h2_:=hd_p;first | omega | exact h1_ h2_) hc_p ?_
  refine zmN 2000 tR56 ts88 O ha_p (by omega) (_) (rfl) O ?_
  have hfr:=hnod.phi.frm p hm_p
  have hal:=hnod.phi.len p hm_p
  have hmem:(y:Int) ∈ p.frm:=by rw [hfr];exact List.mem_map.2 ⟨y,hy (fun e=>by rw [e] at hm_p;cases hm_p),rfl⟩
  generalize hj:p.frm.idxOf (y:Int)=j
  have hjl:j<p.frm.length:=by rw [<- hj];exact List.idxOf_lt_length_iff.2 hmem
  obtain⟨a,he_a,hm_a⟩:=gE_ p.args (j) (by omega)
  obtain⟨b_a,o_a,c_a,ha_a,hd_a,hc_a,hR_a⟩:=hg_p.atD he_a
  obtain rfl:=hR_a
  refine znb 3000 0 O O (fun h_=>by have h1_:=haS _ h_;have h2_:=hd_a;first | omega | exact h1_ h2_) hc_a ?_
  have hfy:p.frm[j]?=some (y:Int):=by rw [zoj hjl];congr 1;subst hj;exact List.getElem_idxOf hjl
  have hao:=hR.arg n x2 he_x2 p hm_p j _ a hfy he_a
  rw [zoF] at hao
  obtain⟨q,hq,hql⟩:=qJ (hnod.phi.args p hm_p a hm_a)
  subst hq
  have hph:phV f g s y vl p=lki vl q:=by unfold phV;rw [hao,zoF]
  refine Vs 1 O ?_
  refine V.alloc 9 tz88 O O (fun b9=>?_)
  refine Vs 4 O ?_
  refine Vw [901,900,2000,3000,9] [17] O ?_
  refine Vd [0,1,2,3,4,5,6,7,8,9,10] 0 (by kernel_rfl) O O O ?_
  refine zn0 11 0 Tryz.call91 O (by kernel_rfl) O O (fun w hI=>zf1 p.frm y _ _ w (hf_p.keep ze hI.k0 fun q hd _ h=>haS q h hd) hmem) ?_
  refine zmO 12 3000 tR27 ts3 O (by kernel_rfl) O ha_a (by omega) (j) (by rw [hj]) O ?_
  refine Vd [13] 0 (by kernel_rfl) O O O ?_
  refine znj 14 O (by kernel_rfl) O (fun w=>zlh tR27 ts3 O O O (by omega)) ?_
  refine znI 15 O (by kernel_rfl) O 0 O O (fun w hI=>R.load tg3 O (zeu (show w.ownsRow 0 3 1 (.slice (some ⟨bv,0,none⟩) vl.length cv) vl.length (vl.map zc) from hI.at 900 O) (show (vl.map zc)[q]?=some (zc (lki vl q)) by rw [zoA,zbu (by omega)];rfl))) ?_
  have hst:(((x2.phis.take i).map (phV f g s y vl))++List.replicate (m - i) 0).set i (phV f g s y vl p)=((x2.phis.take (i+1)).map (phV f g s y vl))++List.replicate (m - (i+1)) 0:=by
   rw [zd he_p,List.map_append,List.set_append_right _ _ (by rw [zoD,zoN];omega),zoD,zoN,show i - min i x2.phis.length=0 by omega,show m - i=(m - (i+1))+1 by omega,List.replicate_succ]
   simp
  refine Vb [16] 0 (by kernel_rfl) O O O (by omega) ?_
  refine zmY 17 23 0 (i) ts3 O (by kernel_rfl) O O (by omega) (by simp;omega) ?_
  refine VD.done (by kernel_rfl) ?_
  refine Vs 2 O ?_
  refine znc 23 O (e':=.row 3 1 (.slice (some ⟨b23,0,none⟩) m m) m (((x2.phis.take (i+1)).map (phV f g s y vl)++List.replicate (m - (i+1)) 0).map zc)) (by rw [<- hst,List.map_set,hph]) ?_
  refine Va 4 O (by omega) ?_
  refine V.back (i+1) (Sub.of O) (Has.of O) (by omega) (by first | omega | (dsimp only;omega)) 0 O O
 ·
  obtain rfl:i=m:=by omega
  refine znc 23 O (e':=.row 3 1 (.slice (some ⟨b23,0,none⟩) i i) i ((x2.phis.map (phV f g s y vl)).map zc)) (by rw [List.take_of_length_le (by omega),Nat.sub_self,List.replicate_zero,List.append_nil]) ?_
  refine Vs 12 O ?_
  refine znc 900 O (e':=.row 3 1 (.slice (some ⟨bv,0,none⟩) vl.length cv) vl.length ((qs f g s y vl (x2.phis.take 0)).map zc)) (by rfl) ?_
  refine Vs 1 O ?_
  refine znd (σ:=Nat) [0,7,49,50] [23,901] [0] O (fun e k=>(51,.int .i64 k)::e) (fun e k=>(900,.row 3 1 (.slice (some ⟨bv,0,none⟩) vl.length cv) vl.length ((qs f g s y vl (x2.phis.take k)).map zc))::e) (fun k=>k<=i) (fun k=>i - k) (0) (Sub.of O) (Has.of O) (fun _=>rfl) (fun _=>rfl) (fun _=>rfl) (zoy _) ?_
  rintro k hk
  refine Vs 6 O ?_
  refine zkG O (fun lk=>?_) (fun lk=>?_)
  ·
   refine Vs 7 O ?_
   obtain⟨p,he_p,hm_p⟩:=gE_ x2.phis (k) (by omega)
   obtain⟨b_p,o_p,c_p,ha_p,hd_p,hc_p,hR_p⟩:=hp_x2.atD he_p
   obtain⟨v1_p,v2_p,rfl,hf_p,hg_p⟩:=hR_p
   obtain⟨a1_p,n1_p,rfl⟩:=hf_p.form
   obtain⟨a2_p,n2_p,rfl⟩:=hg_p.form
   refine znb 4000 0 O O (fun h_=>by have h1_:=haS _ h_;have h2_:=hd_p;first | omega | exact h1_ h2_) hc_p ?_
   refine zmN 4000 tR56 ts88 O ha_p (by omega) (_) (rfl) O ?_
   obtain⟨q,hq,hql⟩:=hver p hm_p
   have hjl:=zb8 (f:=f) (g:=g) (s:=s) (y:=y) (vl:=vl) (x2.phis.take k)
   refine Vs 1 O ?_
   refine V.alloc 11 tz88 O O (fun b11=>?_)
   refine Vs 4 O ?_
   refine Vw [23,901,4000,11] [11] O ?_
   refine Vb [0,1,2,3,4,5,6,7,8] 0 (by kernel_rfl) O O O (by omega) ?_
   refine znI 9 O (by kernel_rfl) O 0 O O (fun w hI=>R.load tg3 O (zeu (show w.ownsRow 0 3 1 (.slice (some ⟨b23,0,none⟩) i i) i _ from hI.at 23 O) (show ((x2.phis.map (phV f g s y vl)).map zc)[k]?=some (zc (phV f g s y vl p)) by rw [zoA,zoA,he_p];rfl))) ?_
   refine znj 10 O (by kernel_rfl) O (fun w=>zlh tR27 ts3 O O O (by omega)) ?_
   refine znN 11 900 (q) ts3 O (by kernel_rfl) O (by omega) (by rw [zoD,hjl];exact hql) ?_
   refine VDx.done (by kernel_rfl) ?_
   refine Vs 2 O ?_
   refine znc 900 O (e':=.row 3 1 (.slice (some ⟨bv,0,none⟩) vl.length cv) vl.length ((qs f g s y vl (x2.phis.take (k+1))).map zc)) (by rw [zf2 he_p,hq,zoF,List.map_set]) ?_
   refine Va 4 O (by omega) ?_
   refine V.back (k+1) (Sub.of O) (Has.of O) (by omega) (by first | omega | (dsimp only;omega)) 0 O O
  ·
   obtain rfl:k=i:=by omega
   refine znc 900 O (e':=qq (.slice (some ⟨bv,0,none⟩) vl.length cv) (qs f g s y vl x2.phis)) (by rw [List.take_of_length_le (by omega)];unfold qq;rw [zb8]) ?_
   refine Vs 4 O ?_
   refine zla Tryz.results47 (fun w hI=>⟨_,rfl,(),rfl,hI.at 900 rfl,hI.k0,fun q hq=>hI.inS 0 900 O O hq⟩)
theorem zgE {F:Phn->Int} {k:Nat} {l:List Phn} (h:∀ p ∈ l,p.ver.toNat ≠ k):∀ t:List Int,(l.foldl (fun t p=>t.set p.ver.toNat (F p)) t)[k]?=t[k]?:=by
 induction l with
 | nil=>exact fun _=>rfl
 | cons q l ih =>
  intro t
  rw [List.foldl_cons,ih fun p hp=>h p (zom _ hp),List.getElem?_set_ne (h q (zon ..))]
theorem zic {F:Phn->Int} {l:List Phn} (hnd:(l.map fun p=>p.ver.toNat).Nodup) {p:Phn} (hp:p ∈ l):∀ t:List Int,p.ver.toNat<t.length->(l.foldl (fun t p=>t.set p.ver.toNat (F p)) t)[p.ver.toNat]?=some (F p):=by
 induction l with
 | nil=>cases hp
 | cons q l ih =>
  intro t ht
  rw [List.map_cons,List.nodup_cons] at hnd
  rw [List.foldl_cons]
  rcases zoz.1 hp with rfl | hp
  . rw [zgE fun r hr e=>hnd.1 (List.mem_map.2 ⟨r,hr,e⟩),List.getElem?_set_self ht]
  . exact ih hnd.2 hp _ (by rw [List.length_set];exact ht)
theorem zf3 {f:Fl} {g:List Nd} {s:Sf} {rd:Nat->List Int} (h:FormF f g s rd) {n:Nat} (hn:n<g.length):((zk s n).phis.map fun p=>p.ver.toNat).Nodup:=by
 have hph:=(h.at hn).phi
 have h1:((zk s n).phis.map (·.ver)).Nodup:=by
  rw [List.nodup_iff_count]
  intro a
  have hs1:((zk s n).phis.map (·.ver)).count a<=(dfL f g s n).count a:=by unfold dfL;rw [List.count_append];omega
  have hs2:(dfL f g s n).count a<=(xG f g s).count a:=by
   unfold xG
   rw [List.flatMap_def]
   exact (List.sublist_flatten_of_mem (List.mem_map.2 ⟨n,List.mem_range.2 hn,rfl⟩)).count_le a
  by_cases ha:a ∈ (zk s n).phis.map (·.ver)
  ·
   obtain⟨h2,h3⟩:=zcW h hn (show a ∈ dfL f g s n by unfold dfL;exact List.mem_append_left _ ha)
   obtain⟨k,rfl⟩:=Int.eq_ofNat_of_zero_le (show 0<=a by omega)
   have:=h.one k (by omega) (by omega)
   omega
  . rw [List.count_eq_zero.2 ha];omega
 rw [show ((zk s n).phis.map fun p=>p.ver.toNat)=((zk s n).phis.map (·.ver)).map Int.toNat by rw [List.map_map];rfl]
 refine List.Pairwise.map _ (fun a b hab=>hab) (List.Pairwise.imp_of_mem (fun {a b} ha hb hab e=>?_) h1)
 obtain⟨p,hp,rfl⟩:=List.mem_map.1 ha
 obtain⟨q,hq,rfl⟩:=List.mem_map.1 hb
 have h2:=(hph.ver p hp).1
 have h3:=(hph.ver q hq).1
 exact hab (by omega)
theorem zgF {f:Fl} {g:List Nd} {s:Sf} {rd:Nat->List Int} (h:RightF f g s rd) {n y:Nat} (h0:n ≠ 0) (hn:n<g.length) (hy:y ∈ qa g n) {vl vals:List Int} (hlen:vl.length=s.of_.length) (hp:zg4 f g s y vl vals):InvV f g s n (qs f g s y vl (zk s n).phis) vals:=by
 have hf:=h.toFormF
 have hph:=(hf.at hn).phi
 have hnd:=zf3 hf hn
 have hl:=hf.len
 have e:=zoj (show n<s.nodes.length by omega)
 have hxn:=yO e
 have harg:∀ p ∈ (zk s n).phis,∃ q:Nat,za9 f g s y p.var=(q:Int)/\q<s.of_.length:=fun p hpm=>by
  have hmem:(y:Int) ∈ p.frm:=by rw [hph.frm p hpm];exact List.mem_map.2 ⟨y,hy,rfl⟩
  obtain⟨i,hi⟩:=List.mem_iff_getElem?.1 hmem
  have hil:=(zox.1 hi).1
  have ha:=zoj (show i<p.args.length by have:=hph.len p hpm;omega)
  have:=h.arg n _ e p (by rw [<- hxn];exact hpm) i _ _ hi ha
  rw [zoF] at this
  rw [this]
  exact qJ (hph.args p hpm _ (zok ha))
 refine znE h h0 hn hy hp (fun p hpm=>?_) (fun k hk=>?_) fun p hpm=>?_
 ·
  obtain⟨q,hq,hql⟩:=harg p hpm
  obtain⟨m,hm,hml⟩:=qJ (hph.ver p hpm)
  unfold qs
  rw [zic (F:=phV f g s y vl) hnd hpm vl (by rw [hm,zoF];omega)]
  unfold phV
  rw [hq,zoF,zbu (by omega)]
 ·
  unfold qs
  exact zgE (F:=phV f g s y vl) (fun p hpm e2=>hk p hpm (by have:=(hph.ver p hpm).1;omega)) vl
 ·
  obtain⟨q,hq,_⟩:=harg p hpm
  omega
def zkl:Tm:=.mk 24 0 []
def zkm:Tm:=.mk 24 1 []
def zkn:Tm:=.mk 0 1 []
def zid:St:=.mk 0 0 1 0 zkn [] [] []
def zjW:St:=.mk 3 0 0 0 zkl [zid] [] []
def zjX:St:=.mk 1 0 0 0 zkm [] [] []
def exF22:Fl:=⟨[⟨⟨#[120]⟩,1,0,1,0⟩,⟨⟨#[121]⟩,0,0,1,0⟩],[],[zjW,zjX]⟩
def exG22:List Nd:=[⟨0,-1,1,-1⟩,⟨3,0,2,3⟩,⟨2,1,3,-1⟩,⟨2,2,4,-1⟩,⟨1,-1,-1,-1⟩]
def exS22:Sf:=⟨[0,1,1,1],[⟨[],[],-1⟩,⟨[],[(0,0)],-1⟩,⟨[],[],2⟩,⟨[⟨1,3,[1,2],[1,2]⟩],[(1,3)],-1⟩,⟨[],[],-1⟩]⟩
theorem zf4:yp exF22=0:=by decide +kernel
theorem zbC:zh exF22=exG22:=by rfl
theorem zgG:snodes exF22.body+zA exF22.hatches<=1024:=by decide +kernel
theorem zgH:sbulk exF22.body<=1000000:=by decide +kernel
theorem zjk:OfF exF22 exS22:=by
 refine⟨by decide,fun k v hk hl=>?_,fun k v hk hl=>?_⟩
 ·
  match k with
  | 0=>simp [exS22] at hk;omega
  | 1=>simp [exS22] at hk;omega
  | k+2=>exact absurd hl (by show ¬ k+2<2;omega)
 ·
  match k with
  | 0=>simp [exF22] at hl
  | 1=>simp [exF22] at hl
  | 2=>simp [exS22] at hk;subst hk;exact⟨by decide,_,rfl,rfl⟩
  | 3=>simp [exS22] at hk;subst hk;exact⟨by decide,_,rfl,rfl⟩
  | k+4=>simp [exS22] at hk
theorem zag {f:Fl} {g:List Nd} {s:Sf} {n:Nat}:PhiF f g s n []:=⟨fun _=>rfl,List.Pairwise.nil,fun p h=>(by cases h),fun p h=>(by cases h),fun p h=>(by cases h),fun p h=>(by cases h)⟩
theorem ex22_form:FormF exF22 exG22 exS22 (rdV exF22 exG22):=by
 refine⟨zjk,rfl,fun n x hx=>?_,fun k h1 h2=>?_⟩
 ·
  match n with
  | 0=>simp [exS22] at hx;subst hx;exact⟨zag,fun _=>rfl,fun h=>absurd h (by decide +kernel),by decide +kernel,fun u h=>by cases h⟩
  | 1=>simp [exS22] at hx;subst hx;exact⟨zag,fun _=>rfl,fun h=>absurd h (by decide +kernel),by decide +kernel,fun u h=>by simp at h;subst h;decide +kernel⟩
  | 2=>simp [exS22] at hx;subst hx;exact⟨zag,fun h=>absurd h (by decide +kernel),fun _=>by decide +kernel,by decide +kernel,fun u h=>by cases h⟩
  | 3 =>
   simp [exS22] at hx;subst hx
   refine⟨⟨fun h=>(by cases h),List.pairwise_singleton _ _,fun p h=>?_,fun p h=>?_,fun p h=>?_,fun p h a ha=>?_⟩,fun _=>rfl,fun h=>absurd h (by decide +kernel),by decide +kernel,fun u h=>?_⟩
   . rw [zoB] at h;subst h;decide +kernel
   . rw [zoB] at h;subst h;decide +kernel
   . rw [zoB] at h;subst h;rfl
   . rw [zoB] at h;subst h;simp at ha;rcases ha with rfl | rfl <;> decide +kernel
   . rw [zoB] at h;subst h;decide +kernel
  | 4=>simp [exS22] at hx;subst hx;exact⟨zag,fun _=>rfl,fun h=>absurd h (by decide +kernel),by decide +kernel,fun u h=>by cases h⟩
  | n+5=>simp [exS22] at hx
 ·
  match k with
  | 0=>exact absurd h1 (by decide)
  | 1=>exact absurd h1 (by decide)
  | 2=>decide +kernel
  | 3=>decide +kernel
  | k+4=>exact absurd h2 (by show ¬ k+4<4;omega)
def zbm:List (List Int):=[[0,1],[0,1],[0,1],[0,3],[0,3]]
theorem zjl:∀ i:Nat,i<5->RV exF22 exG22 exS22 0 i 0:=by
 have h0:RV exF22 exG22 exS22 0 0 0:=.ini
 have h1:RV exF22 exG22 exS22 0 1 0:=.pass (y:=0) (by decide) (by decide +kernel) (by decide +kernel) (by decide +kernel) h0
 have h2:RV exF22 exG22 exS22 0 2 0:=.pass (y:=1) (by decide) (by decide +kernel) (by decide +kernel) (by decide +kernel) h1
 have h3:RV exF22 exG22 exS22 0 3 0:=.pass (y:=1) (by decide) (by decide +kernel) (by decide +kernel) (by decide +kernel) h1
 have h4:RV exF22 exG22 exS22 0 4 0:=.pass (y:=3) (by decide) (by decide +kernel) (by decide +kernel) (by decide +kernel) h3
 intro i hi
 match i with
 | 0=>exact h0
 | 1=>exact h1
 | 2=>exact h2
 | 3=>exact h3
 | 4=>exact h4
 | i+5=>omega
theorem zjm:∀ i:Nat,i<5->RV exF22 exG22 exS22 1 i (bfV zbm i 1):=by
 have h0:RV exF22 exG22 exS22 1 0 1:=.ini
 have h1:RV exF22 exG22 exS22 1 1 1:=.pass (y:=0) (by decide) (by decide +kernel) (by decide +kernel) (by decide +kernel) h0
 have h2:RV exF22 exG22 exS22 1 2 1:=.pass (y:=1) (by decide) (by decide +kernel) (by decide +kernel) (by decide +kernel) h1
 have h3:RV exF22 exG22 exS22 1 3 3:=.phi (by decide) (by decide +kernel)
 have h4:RV exF22 exG22 exS22 1 4 3:=.pass (y:=3) (by decide) (by decide +kernel) (by decide +kernel) (by decide +kernel) h3
 intro i hi
 match i with
 | 0=>exact h0
 | 1=>exact h1
 | 2=>exact h2
 | 3=>exact h3
 | 4=>exact h4
 | i+5=>omega
theorem ex22_sol:SolV exF22 exG22 exS22 2 (bfV zbm):=by
 have key:∀ i:Nat,i<5->0<=bfV zbm i 0/\bfV zbm i 0=0/\0<=bfV zbm i 1/\bfV zbm i 0=eqV exG22 exS22 (yP exF22 exG22 exS22 (bfV zbm)) i 0/\bfV zbm i 1=eqV exG22 exS22 (yP exF22 exG22 exS22 (bfV zbm)) i 1:=by decide +kernel
 refine⟨fun i hi v h0 h1=>?_,fun i hi v h0 h1=>?_⟩
 ·
  obtain⟨k1,k2,k3,_⟩:=key i hi
  have hv:v=0\/v=1:=by omega
  rcases hv with rfl | rfl
  . exact .inr (.inl ⟨k1,by rw [k2];exact zjl i hi⟩)
  . exact .inr (.inl ⟨k3,zjm i hi⟩)
 ·
  obtain⟨_,_,_,k4,k5⟩:=key i hi
  have hv:v=0\/v=1:=by omega
  rcases hv with rfl | rfl
  . exact k4
  . exact k5
theorem zf5:RightF exF22 exG22 exS22 (rdV exF22 exG22):=by
 have hs:=ex22_form.nn
 have hin:∀ i:Nat,i<5->∀ v:Int,0<=v->v<2->inV exF22 exG22 exS22 i v=bfV zbm i v:=fun i hi v h0 h1=>(ex22_sol.is hs h0 h1 hi).symm
 refine⟨ex22_form,fun n x hx u hu=>?_,fun n x hx p hp i y a hy ha=>?_⟩
 ·
  match n with
  | 0=>simp [exS22] at hx;subst hx;cases hu
  | 1=>simp [exS22] at hx;subst hx;rw [zoB] at hu;subst hu;rw [hin 1 (by decide) 0 (by decide) (by decide)];decide +kernel
  | 2=>simp [exS22] at hx;subst hx;cases hu
  | 3=>simp [exS22] at hx;subst hx;rw [zoB] at hu;subst hu;rw [hin 3 (by decide) 1 (by decide) (by decide)];decide +kernel
  | 4=>simp [exS22] at hx;subst hx;cases hu
  | n+5=>simp [exS22] at hx
 ·
  match n with
  | 0=>simp [exS22] at hx;subst hx;cases hp
  | 1=>simp [exS22] at hx;subst hx;cases hp
  | 2=>simp [exS22] at hx;subst hx;cases hp
  | 3 =>
   simp [exS22] at hx;subst hx;rw [zoB] at hp;subst hp
   match i with
   | 0=>simp at hy ha;subst hy;subst ha;show yP exF22 exG22 exS22 (inV exF22 exG22 exS22) 1 1=1;unfold yP;rw [hin 1 (by decide) 1 (by decide) (by decide)];decide +kernel
   | 1=>simp at hy ha;subst hy;subst ha;show yP exF22 exG22 exS22 (inV exF22 exG22 exS22) 2 1=2;unfold yP;rw [hin 2 (by decide) 1 (by decide) (by decide)];decide +kernel
   | i+2=>simp at hy
  | 4=>simp [exS22] at hx;subst hx;cases hp
  | n+5=>simp [exS22] at hx
def exT22:Sf:=⟨[0,1,1,1],[⟨[],[],-1⟩,⟨[],[(0,0)],-1⟩,⟨[],[],2⟩,⟨[],[(1,2)],-1⟩,⟨[],[],-1⟩]⟩
theorem zf6:¬ RightF exF22 exG22 exT22 (rdV exF22 exG22):=fun h=>absurd (h.one 3 (by decide) (by decide)) (by decide +kernel)
theorem zb9:¬ yD exF22 exG22 ≠ 0:=fun h=>h (by unfold yD;rw [zot (by rw [zf4];exact fun h=>h rfl),zou zbC])
theorem zba:yn exF22 exG22 exS22=0:=ziF zb9 zf5
theorem zf7:yn exF22 exG22 exT22=13:=zeZ zb9 zf6
end Go.Proofs.YtckdhgbepmpgiaaGreat
namespace Go.GL.Dfs
def Edge (R:List (List Int)) (a b:Nat):Prop:=∃ r,R[a]?=some r/\(b:Int) ∈ r
inductive Reach (R:List (List Int)) (root:Nat):Nat->Prop
 | refl:Reach R root root
 | step {a b:Nat}:Reach R root a->Edge R a b->Reach R root b
theorem sum_one (f g:Nat->Nat) (b c:Nat):∀ n,b<n->(∀ i,i ≠ b->f i=g i)->f b=g b+c->((List.range n).map f).sum=((List.range n).map g).sum+c
 | 0,h,_,_=>by omega
 | n+1,h,h1,h2=>by
  rw [List.range_succ]
  simp only [List.map_append,List.map_cons,List.map_nil,List.sum_append,List.sum_cons,List.sum_nil]
  by_cases e:b=n
  ·
   subst e
   have:(List.range b).map f=(List.range b).map g:=List.map_congr_left (fun i hi=>h1 i (by have:=List.mem_range.1 hi;omega))
   rw [this];omega
  ·
   have:=sum_one f g b c n (by omega) h1 h2
   have:=h1 n (fun h=>e h.symm)
   omega
end Go.GL.Dfs
namespace Go.Proofs.YtckdhgbepmpgiaaGreat
open Go.GL
noncomputable def kY (f:Fl) (g:List Nd) (s:Sf):List Bool:=(List.range s.of_.length).map fun k:Nat=>@decide (NeedV f g s (k:Int)) (Classical.propDecidable _)
theorem zie {f:Fl} {g:List Nd} {s:Sf} {l:List Bool} (hl:l.length=s.of_.length) (h:∀ k:Nat,k<s.of_.length->(l[k]?=some true ↔ NeedV f g s (k:Int))):l=kY f g s:=by
 apply List.ext_getElem?
 intro k
 unfold kY
 rw [zoA]
 by_cases hk:k<s.of_.length
 ·
  rw [List.getElem?_range hk]
  have e:=zoj (show k<l.length by omega)
  have:=h k hk
  rw [e] at this ⊢
  simp only [Option.map_some,Option.some.injEq] at this ⊢
  cases hb:l[k] with
  | true=>rw [hb] at this;exact (@zov _ (Classical.propDecidable _) (this.1 rfl)).symm
  | false=>rw [hb] at this;exact (@zow _ (Classical.propDecidable _) (fun hn=>by cases this.2 hn)).symm
 . rw [zoH (by omega),zoH (by simp;omega)];rfl
theorem zgI (f:Fl) (g:List Nd) (s:Sf):(kY f g s).length=s.of_.length:=by simp [kY]
def zbb (x:Sn):List (Int × List Int):=x.phis.map (fun p=>(p.ver,p.args))++if 0<=x.dfn then [(x.dfn,x.uses.map (·.2))] else []
def zh3 (t:List (List Int)) (l:List (Int × List Int)):List (List Int):=l.foldl (fun t z=>t.set z.1.toNat z.2) t
theorem zif (l:List (Int × List Int)):∀ t:List (List Int),(zh3 t l).length=t.length:=by
 induction l with
 | nil=>exact fun _=>rfl
 | cons z l ih=>intro t;exact (ih _).trans List.length_set
theorem zah (t:List (List Int)) (a b:List (Int × List Int)):zh3 t (a++b)=zh3 (zh3 t a) b:=by unfold zh3;rw [List.foldl_append]
theorem zjn {l:List (Int × List Int)} {k:Nat} (h:∀ z ∈ l,z.1.toNat ≠ k):∀ t,(zh3 t l)[k]?=t[k]?:=by
 induction l with
 | nil=>exact fun _=>rfl
 | cons z l ih =>
  intro t
  exact (ih (fun y hy=>h y (zom _ hy)) _).trans (List.getElem?_set_ne (h z (zon ..)))
theorem zig {l:List (Int × List Int)} (hn:(l.map fun z=>z.1.toNat).Nodup) {z:Int × List Int} (hz:z ∈ l):∀ t,z.1.toNat<t.length->(zh3 t l)[z.1.toNat]?=some z.2:=by
 induction l with
 | nil=>cases hz
 | cons y l ih =>
  intro t ht
  rw [List.map_cons,List.nodup_cons] at hn
  rcases zoz.1 hz with rfl | hz
  . exact (zjn (fun r hr e=>hn.1 (List.mem_map.2 ⟨r,hr,e⟩)) _).trans (List.getElem?_set_self ht)
  . exact ih hn.2 hz _ (by rw [List.length_set];exact ht)
theorem zih {l:List (Int × List Int)} {k:Nat} {v:List Int}:∀ {t},(zh3 t l)[k]?=some v->t[k]?=some v\/∃ z ∈ l,z.1.toNat=k/\z.2=v:=by
 induction l with
 | nil=>exact fun h=>.inl h
 | cons z l ih =>
  intro t h
  rcases ih (t:=t.set z.1.toNat z.2) h with h1 | ⟨y,hy,h1⟩
  ·
   rw [List.getElem?_set] at h1
   split at h1
   ·
    rename_i e
    split at h1
    . exact .inr ⟨z,zon ..,e,Option.some.inj h1⟩
    . cases h1
   . exact .inl h1
  . exact .inr ⟨y,zom _ hy,h1⟩
def zbc (s:Sf) (i:Nat):List (Int × List Int):=(s.nodes.take i).flatMap zbb
def yZ (s:Sf) (i:Nat):List (List Int):=zh3 (List.replicate s.of_.length []) (zbc s i)
theorem zbD {s:Sf} {i:Nat} {x:Sn} (h:s.nodes[i]?=some x):zbc s (i+1)=zbc s i++zbb x:=by unfold zbc;rw [zd h,List.flatMap_append,List.flatMap_singleton]
theorem zdb (s:Sf) (i:Nat):(yZ s i).length=s.of_.length:=by unfold yZ;rw [zif,List.length_replicate]
def zbn (s:Sf) (i:Nat) (x:Sn) (j:Nat):List (List Int):=zh3 (yZ s i) ((x.phis.take j).map fun p=>(p.ver,p.args))
theorem zf8 {s:Sf} {i:Nat} {x:Sn} {j:Nat} {p:Phn} (h:x.phis[j]?=some p):zbn s i x (j+1)=(zbn s i x j).set p.ver.toNat p.args:=by
 unfold zbn
 rw [zd h,List.map_append,zah];rfl
theorem zgJ {s:Sf} {i:Nat} {x:Sn} (h:s.nodes[i]?=some x) (hd:0<=x.dfn):yZ s (i+1)=(zbn s i x x.phis.length).set x.dfn.toNat (x.uses.map (·.2)):=by
 unfold zbn yZ
 rw [zbD h,zah,zoo]
 unfold zbb
 rw [zou hd,zah];rfl
theorem zch {s:Sf} {i:Nat} {x:Sn} (h:s.nodes[i]?=some x) (hd:¬ 0<=x.dfn):yZ s (i+1)=zbn s i x x.phis.length:=by
 unfold zbn yZ
 rw [zbD h,zah,zoo]
 unfold zbb
 rw [zot hd,List.append_nil]
theorem zii {s:Sf} {g:List Nd} (hl:s.nodes.length=g.length):s.nodes=(List.range g.length).map (zk s):=by
 apply List.ext_getElem?
 intro k
 rw [zoA]
 by_cases hk:k<g.length
 ·
  rw [List.getElem?_range hk,zoj (show k<s.nodes.length by omega)]
  simp only [Option.map_some]
  rw [yO (zoj (show k<s.nodes.length by omega))]
 . rw [zoH (by omega),zoH (by simp;omega)];rfl
theorem zbE {s:Sf} {g:List Nd} (hl:s.nodes.length=g.length):s.nodes.take g.length=(List.range g.length).map (zk s):=(List.take_of_length_le (by omega)).trans (zii hl)
section
variable {f:Fl} {g:List Nd} {s:Sf} {rd:Nat->List Int}
theorem FormF.dfn (h:FormF f g s rd) {n:Nat} (hn:n<g.length):(0<=(zk s n).dfn ↔ 0<=jp f g n):=by
 have hx:=h.at hn
 constructor
 ·
  intro h1
  by_cases h2:0<=jp f g n
  . exact h2
  . have:=hx.no (by omega);omega
 . exact fun h1=>(hx.yes h1).1
theorem zbd (h:FormF f g s rd):((zbc s g.length).map (·.1))=xG f g s:=by
 unfold zbc xG
 rw [zbE h.len,List.flatMap_map,List.map_flatMap]
 rw [List.flatMap_def,List.flatMap_def]
 congr 1
 refine List.map_congr_left fun n hn=>?_
 have hd:=h.dfn (List.mem_range.1 hn)
 unfold zbb dfL
 rw [List.map_append,List.map_map]
 congr 1
 by_cases h1:0<=jp f g n
 . rw [zou h1,zou (hd.2 h1)];rfl
 . rw [zot h1,zot (fun e=>h1 (hd.1 e))];rfl
theorem zdQ (h:FormF f g s rd):(xG f g s).Nodup:=by
 rw [List.nodup_iff_count]
 intro a
 by_cases ha:a ∈ xG f g s
 ·
  obtain⟨h2,h3⟩:=yY h ha
  obtain⟨k,rfl⟩:=Int.eq_ofNat_of_zero_le (show 0<=a by omega)
  have:=h.one k (by omega) (by omega)
  omega
 . rw [List.count_eq_zero.2 ha];omega
theorem zf9 (h:FormF f g s rd):((zbc s g.length).map fun z=>z.1.toNat).Nodup:=by
 rw [show ((zbc s g.length).map fun z=>z.1.toNat)=((zbc s g.length).map (·.1)).map Int.toNat by rw [List.map_map];rfl,zbd h]
 refine List.Pairwise.map _ (fun a b hab=>hab) (List.Pairwise.imp_of_mem (fun {a b} ha hb hab e=>?_) (zdQ h))
 have h2:=(yY h ha).1
 have h3:=(yY h hb).1
 exact hab (by omega)
theorem zev (h:FormF f g s rd) {z:Int × List Int}:z ∈ zbc s g.length ↔ ∃ n,n<g.length/\z ∈ zbb (zk s n):=by
 unfold zbc
 rw [zbE h.len,List.flatMap_map,List.mem_flatMap]
 constructor
 . rintro⟨n,hn,hz⟩;exact⟨n,List.mem_range.1 hn,hz⟩
 . rintro⟨n,hn,hz⟩;exact⟨n,List.mem_range.2 hn,hz⟩
theorem zew (h:FormF f g s rd) {n:Nat} (hn:n<g.length) {z:Int × List Int} (hz:z ∈ zbb (zk s n)):(yZ s g.length)[z.1.toNat]?=some z.2:=by
 have hm:=(zev h).2 ⟨n,hn,hz⟩
 have hk:z.1 ∈ xG f g s:=by rw [<- zbd h];exact List.mem_map.2 ⟨z,hm,rfl⟩
 have:=yY h hk
 exact zig (zf9 h) hm _ (by rw [List.length_replicate];omega)
theorem zij (h:FormF f g s rd) {k:Nat} {l:List Int} (hk:(yZ s g.length)[k]?=some l):l=[]\/∃ n,n<g.length/\∃ z ∈ zbb (zk s n),z.1=(k:Int)/\z.2=l:=by
 rcases zih hk with h1 | ⟨z,hz,h1,h2⟩
 ·
  rw [List.getElem?_replicate] at h1
  split at h1
  . exact .inl (Option.some.inj h1).symm
  . cases h1
 ·
  obtain⟨n,hn,hz2⟩:=(zev h).1 hz
  have hkk:z.1 ∈ xG f g s:=by rw [<- zbd h];exact List.mem_map.2 ⟨z,hz,rfl⟩
  have:=yY h hkk
  exact .inr ⟨n,hn,z,hz2,by omega,h2⟩
theorem ziG (h:FormF f g s rd) {n:Nat} (hn:n<g.length) {u:Int × Int} (hu:u ∈ (zk s n).uses):∃ q:Nat,u.2=(q:Int)/\q<s.of_.length:=qJ ((h.at hn).ver u hu)
theorem zjY (h:FormF f g s rd) {n:Nat} (hn:n<g.length) {p:Phn} (hp:p ∈ (zk s n).phis) {a:Int} (ha:a ∈ p.args):∃ q:Nat,a=(q:Int)/\q<s.of_.length:=qJ ((h.at hn).phi.args p hp a ha)
theorem zfa (h:FormF f g s rd) {k:Nat} {l:List Int} (hk:(yZ s g.length)[k]?=some l) (hN:NeedV f g s (k:Int)) {a:Int} (ha:a ∈ l):NeedV f g s a/\∃ q:Nat,a=(q:Int)/\q<s.of_.length:=by
 rcases zij h hk with rfl | ⟨n,hn,z,hz,h1,rfl⟩
 . cases ha
 ·
  unfold zbb at hz
  rcases zoC.1 hz with hz | hz
  ·
   obtain⟨p,hp,rfl⟩:=List.mem_map.1 hz
   exact⟨.arg hn hp (by rw [show p.ver=(k:Int) from h1];exact hN) ha,zjY h hn hp ha⟩
  ·
   split at hz
   ·
    rename_i hd
    rw [zoB] at hz
    subst hz
    obtain⟨u,hu,rfl⟩:=List.mem_map.1 ha
    exact⟨.use hn hd (by rw [show (zk s n).dfn=(k:Int) from h1];exact hN) hu,ziG h hn hu⟩
   . cases hz
noncomputable def ye (f:Fl) (g:List Nd) (s:Sf) (i:Nat):List Int:=(List.range i).flatMap fun n=>if jc f g s n=true then (zk s n).uses.map (·.2) else []
theorem qN {i:Nat} (h:jc f g s i=true):ye f g s (i+1)=ye f g s i++(zk s i).uses.map (·.2):=by unfold ye;rw [List.range_succ,List.flatMap_append,List.flatMap_singleton,zou h]
theorem kg {i:Nat} (h:¬ jc f g s i=true):ye f g s (i+1)=ye f g s i:=by unfold ye;rw [List.range_succ,List.flatMap_append,List.flatMap_singleton,zot h,List.append_nil]
theorem zgK (i:Nat):(ye f g s i).length<=((s.nodes.take i).map fun x=>x.uses.length).sum:=by
 induction i with
 | zero=>simp [ye]
 | succ i ih =>
  by_cases hi:i<s.nodes.length
  ·
   have e:=zoj hi
   rw [zd e,List.map_append,List.sum_append]
   by_cases h:jc f g s i=true
   . rw [qN h,zor,yO e];simp only [List.map_cons,List.map_nil,List.sum_cons,List.sum_nil,zoD];omega
   . rw [kg h];simp only [List.map_cons,List.map_nil,List.sum_cons,List.sum_nil];omega
  ·
   rw [List.take_of_length_le (by omega)]
   rw [List.take_of_length_le (by omega)] at ih
   have:ye f g s (i+1)=ye f g s i:=by
    by_cases h:jc f g s i=true
    . rw [qN h,kD hi];simp
    . exact kg h
   rw [this];exact ih
theorem zik {i m:Nat} (h:i<=m):(ye f g s i).length<=(ye f g s m).length:=by
 induction m with
 | zero =>
  obtain rfl:i=0:=by omega
  exact zoI _
 | succ m ih =>
  by_cases e:i=m+1
  . subst e;exact zoI _
  ·
   refine zop (ih (by omega)) ?_
   by_cases hs:jc f g s m=true
   . rw [qN hs,zor];omega
   . rw [kg hs];exact zoI _
structure WkN (f:Fl) (g:List Nd) (s:Sf) (nl:List Bool) (wl:List Int):Prop where
 len:nl.length=s.of_.length
 snd:∀ k:Nat,nl[k]?=some true->NeedV f g s (k:Int)
 wrk:∀ v ∈ wl,NeedV f g s v/\∃ q:Nat,v=(q:Int)/\q<s.of_.length
 sink:∀ n,n<g.length->jc f g s n=true->∀ u ∈ (zk s n).uses,nl[u.2.toNat]?=some true\/u.2 ∈ wl
 cls:∀ k:Nat,nl[k]?=some true->∀ l,(yZ s g.length)[k]?=some l->∀ a ∈ l,nl[a.toNat]?=some true\/a ∈ wl
theorem znC (h:FormF f g s rd):WkN f g s (List.replicate s.of_.length false) (ye f g s g.length):=by
 have hno:∀ k:Nat,(List.replicate s.of_.length false)[k]? ≠ some true:=fun k e=>by
  have:=List.eq_of_mem_replicate (zok e);cases this
 refine⟨by simp,fun k e=>absurd e (hno k),fun v hv=>?_,fun n hn hs u hu=>.inr ?_,fun k e=>absurd e (hno k)⟩
 ·
  unfold ye at hv
  obtain⟨n,hn,hv⟩:=List.mem_flatMap.1 hv
  have hn:=List.mem_range.1 hn
  split at hv
  ·
   rename_i hs
   obtain⟨u,hu,rfl⟩:=List.mem_map.1 hv
   exact⟨.sink hn hs hu,ziG h hn hu⟩
  . cases hv
 ·
  unfold ye
  exact List.mem_flatMap.2 ⟨n,List.mem_range.2 hn,by rw [zou hs];exact List.mem_map.2 ⟨u,hu,rfl⟩⟩
theorem WkN.skip {nl:List Bool} {wl:List Int} {v:Nat} (h:WkN f g s nl (wl++[(v:Int)])) (hv:nl[v]?=some true):WkN f g s nl wl:=by
 have key:∀ a:Int,nl[a.toNat]?=some true\/a ∈ wl++[(v:Int)]->nl[a.toNat]?=some true\/a ∈ wl:=fun a ha=>by
  rcases ha with ha | ha
  . exact .inl ha
  ·
   rcases zoC.1 ha with ha | ha
   . exact .inr ha
   ·
    rw [zoB] at ha
    exact .inl (by rw [ha,zoF];exact hv)
 exact⟨h.len,h.snd,fun x hx=>h.wrk x (List.mem_append_left _ hx),fun n hn hs u hu=>key _ (h.sink n hn hs u hu),fun k hk l hl a ha=>key _ (h.cls k hk l hl a ha)⟩
theorem WkN.take (hF:FormF f g s rd) {nl:List Bool} {wl:List Int} {v:Nat} {l:List Int} (h:WkN f g s nl (wl++[(v:Int)])) (hl:(yZ s g.length)[v]?=some l):WkN f g s (nl.set v true) (wl++l):=by
 obtain⟨hN,q,hq,hql⟩:=h.wrk v (by simp)
 obtain rfl:v=q:=by omega
 have hvl:v<nl.length:=by rw [h.len];exact hql
 have yw:∀ k:Nat,(nl.set v true)[k]?=some true ↔ nl[k]?=some true\/k=v:=fun k=>by
  by_cases e:k=v
  . subst e;simp [hvl]
  . rw [List.getElem?_set_ne (fun h=>e h.symm)];simp [e]
 have key:∀ a:Int,nl[a.toNat]?=some true\/a ∈ wl++[(v:Int)]->(nl.set v true)[a.toNat]?=some true\/a ∈ wl++l:=fun a ha=>by
  rcases ha with ha | ha
  . exact .inl ((yw _).2 (.inl ha))
  ·
   rcases zoC.1 ha with ha | ha
   . exact .inr (List.mem_append_left _ ha)
   ·
    rw [zoB] at ha
    exact .inl ((yw _).2 (.inr (by rw [ha,zoF])))
 refine⟨by rw [List.length_set,h.len],fun k hk=>?_,fun x hx=>?_,fun n hn hs u hu=>key _ (h.sink n hn hs u hu),fun k hk l' hl' a ha=>?_⟩
 ·
  rcases (yw k).1 hk with h1 | rfl
  . exact h.snd k h1
  . exact hN
 ·
  rcases zoC.1 hx with hx | hx
  . exact h.wrk x (List.mem_append_left _ hx)
  . exact zfa hF hl hN hx
 ·
  rcases (yw k).1 hk with h1 | rfl
  . exact key _ (h.cls k h1 l' hl' a ha)
  . rw [hl] at hl';cases hl';exact .inr (List.mem_append_right _ ha)
theorem WkN.fin (hF:FormF f g s rd) {nl:List Bool} (h:WkN f g s nl []):nl=kY f g s:=by
 refine zie h.len fun k hk=>⟨h.snd k,fun hN=>?_⟩
 have hmain:nl[((k:Nat):Int).toNat]?=some true:=NeedV.all (P:=fun a=>nl[a.toNat]?=some true) f g s (fun n hn hs u hu=>(h.sink n hn hs u hu).resolve_right (by simp)) (fun n hn hd hP u hu=>?_) (fun n hn p hp hP a ha=>?_) hN
 . rw [zoF] at hmain;exact hmain
 . exact (h.cls _ hP _ (zew hF hn (z:=((zk s n).dfn,(zk s n).uses.map (·.2))) (by unfold zbb;rw [zou hd];simp)) _ (List.mem_map.2 ⟨u,hu,rfl⟩)).resolve_right (by simp)
 . exact (h.cls _ hP _ (zew hF hn (z:=(p.ver,p.args)) (by unfold zbb;exact List.mem_append_left _ (List.mem_map.2 ⟨p,hp,rfl⟩))) _ ha).resolve_right (by simp)
def muN (s:Sf) (m:Nat) (nl:List Bool):Nat:=((List.range s.of_.length).map fun k=>if nl[k]?=some true then 0 else ((yZ s m)[k]?.getD []).length+1).sum
theorem zjo {m:Nat} {nl:List Bool} {v:Nat} {l:List Int} (hl:(yZ s m)[v]?=some l) (hv:nl[v]? ≠ some true) (hvl:v<nl.length):muN s m nl=muN s m (nl.set v true)+(l.length+1):=by
 have hlt:v<s.of_.length:=by rw [<- zdb s m];exact (zox.1 hl).1
 unfold muN
 refine Dfs.sum_one _ _ v _ s.of_.length hlt (fun i hi=>?_) ?_
 . rw [List.getElem?_set_ne (fun e=>hi e.symm)]
 . rw [zot hv,List.getElem?_set_self hvl,zou rfl,hl,Option.getD_some];omega
end
end Go.Proofs.YtckdhgbepmpgiaaGreat
namespace Go.GL
def zka (E:Hp) (w:World):Prop:=(∀ x ∈ E,x.2.holds w/\x.2.loc/\(∀ b,¬ x.2.fz b)/\∀ q,x.2.S q->q<w.heap.size)/\E.Pairwise (fun x y=>∀ q,x.2.S q->¬ y.2.S q)
structure GBack (E E':Hp) (w w':World):Prop where
 keep:Keep (HS E) w w'
 held:zka E' w'
 new:∀ x ∈ E',∀ q,x.2.S q->HS E q\/w.heap.size<=q
def HE.nz:HE->Bool
 | .fro ..=>false
 | .dat ..=>false
 | _=>true
theorem zo3 {e:HE} (h:e.nz=true):∀ b,¬ e.fz b:=by
 cases e with
 | fro b o cs=>cases h
 | dat F p=>cases h
 | _=>exact fun _ h=>h
theorem VI.held {Bs:zG} {H E:Hp} {w:World} (hI:VI Bs H w) (hE:E.map (fun x=>hget H x.1)=E.map (fun x=>some x.2)) (hu:qd (E.map (·.1))=true) (hz:E.all (fun x=>x.2.nz)=true):zka E w:=by
 have h:=hI.pick (Has.of hE) hu
 exact⟨fun x hx=>⟨h.holds x hx,h.loc x hx,zo3 (List.all_eq_true.1 hz x hx),h.low x hx⟩,h.apart⟩
theorem VI.back {Bs:zG} {H E E':Hp} {w w0:World} (hI:VI Bs H w) (j:Nat) (hj:Bs[j]?=some (w0,HS E)) (hE:E'.map (fun x=>hget H x.1)=E'.map (fun x=>some x.2)) (hu:qd (E'.map (·.1))=true) (hz:E'.all (fun x=>x.2.nz)=true):GBack E E' w0 w:=by
 have hb:=zok hj
 exact⟨(hI.base _ hb).1,hI.held hE hu hz,fun x hx q hq=>((hI.pick (Has.of hE) hu).base _ hb).2 x hx q hq⟩
theorem VI.back0 {Bs:zG} {H E':Hp} {w w0:World} (hI:VI Bs H w) (j:Nat) (hj:Bs[j]?=some (w0,fun _=>False)) (hE:E'.map (fun x=>hget H x.1)=E'.map (fun x=>some x.2)) (hu:qd (E'.map (·.1))=true) (hz:E'.all (fun x=>x.2.nz)=true):GBack [] E' w0 w:=by
 have hb:=zok hj
 exact⟨(hI.base _ hb).1.mono fun q _ h=>h.elim,hI.held hE hu hz,fun x hx q hq=>.inr ((((hI.pick (Has.of hE) hu).base _ hb).2 x hx q hq).resolve_left fun h=>h)⟩
theorem zjZ {H E:Hp} {ks:List Nat} (hE:E.map (fun x=>hget H x.1)=E.map (fun x=>some x.2)) (hk:E.all (fun x=>zg6 x.1 ks)=true) {q:Nat} (hq:HS E q):InS H ks q:=by
 obtain⟨x,hx,hs⟩:=hq
 exact⟨x,zx (Has.of hE x hx),List.all_eq_true.1 hk x hx,hs⟩
theorem zgL {H E:Hp} (hE:E.map (fun x=>hget H x.1)=E.map (fun x=>some x.2)) {q:Nat} (hq:HS E q):HS H q:=by
 obtain⟨x,hx,hs⟩:=hq
 exact⟨_,zx (Has.of hE x hx),hs⟩
theorem zdR {P:Program} {f:FuncId} {args:Array Value} {w:World} {H E:Hp} {ks:List Nat} {α:Type} {E':α->Hp} {Φ:Value->α->Prop} (hE:E.map (fun x=>hget H x.1)=E.map (fun x=>some x.2)) (hk:E.all (fun x=>zg6 x.1 ks)=true) (h:Calls P f args w (Ret fun r w'=>∃ x,Φ r x/\GBack E (E' x) w w')):Calls P f args w (Ret fun r w'=>∃ x,Φ r x/\Hands H ks (E' x) w w'):=by
 refine Calls.mono h ?_
 rintro e' w' ⟨r,rfl,x,h1,h2⟩
 exact⟨r,rfl,x,h1,h2.keep.mono fun q _ hq=>zjZ hE hk hq,fun y hy=>⟨(h2.held.1 y hy).1,(h2.held.1 y hy).2.1,(h2.held.1 y hy).2.2.1,fun q hq=>⟨(h2.new y hy q hq).imp (zjZ hE hk) id,(h2.held.1 y hy).2.2.2 q hq⟩⟩,h2.held.2⟩
theorem VI.offE {Bs:zG} {H E E':Hp} {w w0:World} (hI:VI Bs H w) (j:Nat) (hj:Bs[j]?=some (w0,HS E)) (hE:E'.map (fun x=>hget H x.1)=E'.map (fun x=>some x.2)) {D:Nat->Prop} (hD:∀ q,D q->q<w0.heap.size) (ho:∀ q,HS E q->¬ D q):∀ q,HS E' q->¬ D q:=by
 rintro q ⟨x,hx,hq⟩ hd
 rcases (hI.base _ (zok hj)).2 _ (zx (Has.of hE x hx)) q hq with h1 | h1
 . exact ho q h1 hd
 . have:=hD q hd;simp only at h1;omega
def rho:List (Nat × Nat)->Nat->Nat
 | [],k=>k
 | (a,b)::r,k=>cond (Nat.beq a k) b (rho r k)
def ziH (ρ:List (Nat × Nat)):Hp->Hp
 | []=>[]
 | x::r=>(rho ρ x.1,x.2)::ziH ρ r
theorem zdS (ρ:List (Nat × Nat)):∀ H:Hp,ziH ρ H=H.map fun x=>(rho ρ x.1,x.2)
 | []=>rfl
 | x::r=>by rw [ziH,zdS ρ r];rfl
theorem VI.ren {Bs:zG} {H:Hp} {w:World} (ρ:List (Nat × Nat)) (h:VI Bs H w):VI Bs (ziH ρ H) w:=by
 have hm:∀ x ∈ ziH ρ H,∃ y ∈ H,y.2=x.2:=fun x hx=>by
  rw [zdS] at hx
  obtain⟨y,hy,rfl⟩:=List.mem_map.1 hx
  exact⟨y,hy,rfl⟩
 refine⟨fun x hx=>?_,fun x hx=>?_,?_,fun x hx y hy=>?_,fun x hx=>?_,fun p hp=>⟨(h.base p hp).1,fun x hx=>?_⟩⟩
 . obtain⟨y,hy,e⟩:=hm x hx;rw [<- e];exact h.holds y hy
 . obtain⟨y,hy,e⟩:=hm x hx;rw [<- e];exact h.loc y hy
 . rw [zdS];exact List.Pairwise.map _ (fun _ _ h=>h) h.apart
 . obtain⟨x',hx',e⟩:=hm x hx;obtain⟨y',hy',e'⟩:=hm y hy;rw [<- e,<- e'];exact h.froz x' hx' y' hy'
 . obtain⟨y,hy,e⟩:=hm x hx;rw [<- e];exact h.low y hy
 . obtain⟨y,hy,e⟩:=hm x hx;rw [<- e];exact (h.base p hp).2 y hy
section
variable {P:Program} {n:Nat} {Q:Exit->Act->World->Prop} {ks:List Fr} {pos:Pos} {env:Env} {A:Tgs} {H:Hp} {Bs:zG}
theorem V.ren (ρ:List (Nat × Nat)) (A1:Tgs) (hA1:A1.map (fun p=>zdk env p.1)=A1.map (fun p=>jC (ziH ρ H) p.2)) (hA2:A1.all (fun p=>(jC (ziH ρ H) p.2).isSome)=true) (h:V P n Q ks pos env A1 (ziH ρ H) Bs):V P n Q ks pos env A H Bs :=
 fun _ w hI=>h (TgOk.of hA1 hA2) w (hI.ren ρ)
theorem zo4 (k1 k2:Nat) {F1 F2:Nat->Prop} {p1 p2:World->Prop} (hn:(hget H k1,hget H k2)=(some (.dat F1 p1),some (.dat F2 p2))) (h:∀ w,p1 w->p2 w->(∀ b,F1 b\/F2 b->b<w.heap.size)->(∀ b,HS H b->¬ F1 b)->(∀ b,HS H b->¬ F2 b)->V P n Q ks pos env A H ((w,HS H)::Bs)):V P n Q ks pos env A H Bs:=by
 simp only [Prod.mk.injEq] at hn
 intro hA w hI
 have h1:=hI.at k1 hn.1
 have h2:=hI.at k2 hn.2
 exact h w h1.1 h2.1 (fun b hb=>hb.elim (h1.2 b) (h2.2 b)) (fun b hb hF=>hI.offF k1 hn.1 b hF hb) (fun b hb hF=>hI.offF k2 hn.2 b hF hb) hA w hI.here
end
def AllR {α:Type} (R:Rel α) (D:Nat->Prop) (w:World):List α->List (List Value)->Prop
 | [],[]=>True
 | x::l,c::cs=>R D w x c/\AllR R D w l cs
 | _,_=>False
theorem AllR.at {α:Type} {R:Rel α} {D:Nat->Prop} {w:World}:∀ {l:List α} {cs:List (List Value)},AllR R D w l cs->∀ {i:Nat} {x:α},l[i]?=some x->∃ c,cs[i]?=some c/\R D w x c
 | [],[],_,i,x,h=>by simp at h
 | y::l,c::cs,h,0,x,hx=>by simp at hx;subst hx;exact⟨c,rfl,h.1⟩
 | y::l,c::cs,h,i+1,x,hx=>by
  obtain⟨c',h1,h2⟩:=AllR.at h.2 (i:=i) (x:=x) (by simpa using hx)
  exact⟨c',by simpa using h1,h2⟩
 | [],_::_,h,_,_,_=>h.elim
 | _::_,[],h,_,_,_=>h.elim
theorem zex {k:Nat}:∀ {cs:List (List Value)} {i j:Nat} {c:List Value} {u:Value},(∀ c ∈ cs,c.length=k)->cs[i]?=some c->c[j]?=some u->cs.flatten[i*k+j]?=some u
 | [],i,j,c,u,_,h,_=>by simp at h
 | y::cs,0,j,c,u,hk,h,hu=>by
  simp at h;subst h
  rw [Nat.zero_mul,Nat.zero_add,List.flatten_cons,zoJ (zox.1 hu).1];exact hu
 | y::cs,i+1,j,c,u,hk,h,hu=>by
  have hy:=hk y (zon ..)
  rw [List.flatten_cons,Nat.succ_mul,zoK (by omega),show i*k+k+j - y.length=i*k+j by omega]
  exact zex (fun c hc=>hk c (zom _ hc)) (by simpa using h) hu
theorem zo5 {α:Type} {k:Nat} {R:Rel α} {D:Nat->Prop} {w:World} {b:Nat} {e:TypeId} {l:List α} (cs:List (List Value)) (hb:Blk w b cs.flatten e) (hD:D b) (hk:∀ c ∈ cs,c.length=k) (hm:l.length<=9223372036854775807) (h:AllR R D w l cs):SlR k R D w (.slice (some ⟨b,0,none⟩) l.length l.length) l :=
 zlK hb hD rfl (zoI _) hm fun i x hx=>by
  obtain⟨c,h1,h2⟩:=h.at hx
  exact⟨c,hk c (zok h1),fun j u hu=>zex hk h1 hu,h2⟩
section
variable {P:Program} {fn:Func} {R:Ending->World->Prop} {n:Nat} {env:Env} {A:Tgs} {H:Hp} {Bs:zG}
theorem zo6 {s p:Tmp} {t1 t2:TypeId} {k1 o1 k2 o2 z1 z2:Nat} {c1 c2 l1 l2:List Value} (h:fn.results=#[.cell s t1,.cell p t2]) (ht1:∀ w,(isAgg t1).run P w=.ok true w) (ht2:∀ w,(isAgg t2).run P w=.ok true w) (hz1:∀ w,(sizeOf t1).run P w=.ok z1 w) (hz2:∀ w,(sizeOf t2).run P w=.ok z2 w) (hn1:tgt A s=some (k1,o1)) (hn2:tgt A p=some (k2,o2)) (hc1:je H k1=some c1) (hc2:je H k2=some c2) (hs1:zix z1 o1 c1=some l1) (hs2:zix z2 o2 c2=some l2)
  (hR:∀ w,VI Bs H w->R (.returned (.tuple #[.agg l1.toArray,.agg l2.toArray])) w):V P n (bodyPost P fn R) [] (.e .ret) env A H Bs:=fun hA w hw=>by
 obtain⟨a1,h1,h2⟩:=za3 hA hw hn1 hc1 hs1 ht1 hz1
 obtain⟨a2,h3,h4⟩:=za3 hA hw hn2 hc2 hs2 ht2 hz2
 intro a' ha
 have g1:=ha.get s _ h1
 have g2:=ha.get p _ h3
 refine bodyPost_ret (v:=.tuple #[.agg l1.toArray,.agg l2.toArray]) ?_ ha.defs (hR w hw)
 simp [results,h,Array.getD_eq_getD_getElem?,g1,g2,asAddr,h2,h4]
end
end Go.GL
namespace Go.Proofs.YtckdhgbepmpgiaaGreat
open Go.GL
abbrev B22:=Nat × Nat × Nat × Nat × Nat × Nat × Nat × Nat × Nat × Nat
abbrev zfb (bv bb b4 bo b9 bf ba bp bu bn:Nat) (ph:Value) (u:Int):Hp:=[
 (906,.own bv [.string ⟨#[120]⟩,.int .i64 1,.int .i64 0,.int .i64 1,.int .i64 0,.string ⟨#[121]⟩,.int .i64 0,.int .i64 0,.int .i64 1,.int .i64 0] 142),
 (910,.own bb [.int .i64 0,.int .i64 0,.int .i64 1,.int .i64 0,.int .i64 0,.int .i64 1,.slice none 0 0,.slice none 0 0,.slice none 0 0,.slice none 0 0] 72),
 (914,.own b4 [.int .i64 3,.int .i64 0,.int .i64 0,.int .i64 0,.int .i64 24,.int .i64 0,.slice none 0 0,.slice (some ⟨bb,0,none⟩) 1 1,.slice none 0 0,.slice none 0 0,.int .i64 1,.int .i64 0,.int .i64 0,.int .i64 0,.int .i64 24,.int .i64 1,.slice none 0 0,.slice none 0 0,.slice none 0 0,.slice none 0 0] 72),
 (916,.own bo [.int .i64 0,.int .i64 1,.int .i64 1,.int .i64 1] 3),
 (919,.own b9 [.int .i64 0,.int .i64 0] 85),
 (922,.own bf [.int .i64 1,.int .i64 2] 3),
 (923,.own ba [.int .i64 1,.int .i64 2] 3),
 (925,.own bp [.int .i64 1,.int .i64 3,.slice (some ⟨bf,0,none⟩) 2 2,.slice (some ⟨ba,0,none⟩) 2 2] 88),
 (927,.own bu [.int .i64 1,.int .i64 u] 85),
 (930,.own bn [.slice none 0 0,.slice none 0 0,.int .i64 (-1),.slice none 0 0,.slice (some ⟨b9,0,none⟩) 1 1,.int .i64 (-1),.slice none 0 0,.slice none 0 0,.int .i64 2,ph,.slice (some ⟨bu,0,none⟩) 1 1,.int .i64 (-1),.slice none 0 0,.slice none 0 0,.int .i64 (-1)] 59)]
theorem zdc (W:World):Calls Tryz.prog 31 #[] W (Ret fun r w'=>∃ b:B22,r=.tuple #[.agg #[.slice (some ⟨b.1,0,none⟩) 2 2,.slice none 0 0,.slice (some ⟨b.2.2.1,0,none⟩) 2 2],.agg #[.slice (some ⟨b.2.2.2.1,0,none⟩) 4 4,.slice (some ⟨b.2.2.2.2.2.2.2.2.2,0,none⟩) 5 5]]/\GBack [] (zfb b.1 b.2.1 b.2.2.1 b.2.2.2.1 b.2.2.2.2.1 b.2.2.2.2.2.1 b.2.2.2.2.2.2.1 b.2.2.2.2.2.2.2.1 b.2.2.2.2.2.2.2.2.1 b.2.2.2.2.2.2.2.2.2 (.slice (some ⟨b.2.2.2.2.2.2.2.1,0,none⟩) 1 1) 3) W w'):=by
 refine zmt Tryz.func31 O Tryz.ntmps31 (zmE ?_)
 refine Vs 2 O ?_
 refine V.alloc 0 tz26 O O (fun b0=>?_)
 refine V.alloc 1 tz30 O O (fun b1=>?_)
 refine Vs 4 O ?_
 refine znh [Value.string { data:=#[] },Value.int IntKind.i64 0,Value.int IntKind.i64 0,Value.int IntKind.i64 0,Value.int IntKind.i64 0] [(0,1),(1,1),(2,1),(3,1),(4,1)] [(0,_),(1,_),(3,_)] O O (fun _=>by kernel_rfl) ?_
 refine znh [Value.string { data:=#[] },Value.int IntKind.i64 0,Value.int IntKind.i64 0,Value.int IntKind.i64 0,Value.int IntKind.i64 0] [(0,1),(1,1),(2,1),(3,1),(4,1)] [(0,_),(3,_)] O O (fun _=>by kernel_rfl) ?_
 refine V.bs 6 [(0,_),(1,_)] tR22 ts142 tz142 (by decide) O O (by kernel_rfl) (fun b6=>?_)
 refine znh [Value.int IntKind.i64 0,Value.int IntKind.i64 0,Value.slice none 0 0] [(0,1),(1,1),(2,1)] [(0,_)] O O (fun _=>by kernel_rfl) ?_
 refine znh [Value.int IntKind.i64 0,Value.int IntKind.i64 0,Value.slice none 0 0] [(0,1),(1,1),(2,1)] [(1,_)] O O (fun _=>by kernel_rfl) ?_
 refine znh [Value.int IntKind.i64 0,Value.int IntKind.i64 0,Value.int IntKind.i64 0,Value.int IntKind.i64 0,Value.int IntKind.i64 0,Value.int IntKind.i64 0,Value.slice none 0 0,Value.slice none 0 0,Value.slice none 0 0,Value.slice none 0 0] [(0,1),(1,1),(2,1),(3,1),(4,3),(7,1),(8,1),(9,1)] [(0,_),(2,_),(4,_)] O O (fun _=>by kernel_rfl) ?_
 refine V.bs 10 [(0,_)] tR24 ts72 tz72 (by decide) O O (by kernel_rfl) (fun b10=>?_)
 refine znh [Value.int IntKind.i64 0,Value.int IntKind.i64 0,Value.int IntKind.i64 0,Value.int IntKind.i64 0,Value.int IntKind.i64 0,Value.int IntKind.i64 0,Value.slice none 0 0,Value.slice none 0 0,Value.slice none 0 0,Value.slice none 0 0] [(0,1),(1,1),(2,1),(3,1),(4,3),(7,1),(8,1),(9,1)] [(0,_),(4,_),(5,_)] O O (fun _=>by kernel_rfl) ?_
 refine znh [Value.int IntKind.i64 0,Value.int IntKind.i64 0,Value.slice none 0 0] [(0,1),(1,1),(2,1)] [(0,_),(1,_)] O O (fun _=>by kernel_rfl) ?_
 refine znh [Value.int IntKind.i64 0,Value.int IntKind.i64 0,Value.int IntKind.i64 0,Value.int IntKind.i64 0,Value.int IntKind.i64 0,Value.int IntKind.i64 0,Value.slice none 0 0,Value.slice none 0 0,Value.slice none 0 0,Value.slice none 0 0] [(0,1),(1,1),(2,1),(3,1),(4,3),(7,1),(8,1),(9,1)] [(0,_),(4,_)] O O (fun _=>by kernel_rfl) ?_
 refine V.bs 14 [(0,_),(1,_)] tR24 ts72 tz72 (by decide) O O (by kernel_rfl) (fun b14=>?_)
 refine znh [Value.slice none 0 0,Value.slice none 0 0,Value.slice none 0 0] [(0,1),(1,1),(2,1)] [(0,_),(2,_)] O O (fun _=>by kernel_rfl) ?_
 refine V.alloc 2 tz26 O O (fun b2=>?_)
 refine Vs 5 O ?_
 refine V.bs 16 [(0,_),(1,_),(2,_),(3,_)] tR27 ts3 tz3 (by decide) O O (by kernel_rfl) (fun b16=>?_)
 refine znh [Value.slice none 0 0,Value.slice none 0 0,Value.int IntKind.i64 0] [(0,1),(1,1),(2,1)] [(2,_)] O O (fun _=>by kernel_rfl) ?_
 refine znh [Value.int IntKind.i64 0,Value.int IntKind.i64 0] [(0,1),(1,1)] [(0,_),(1,_)] O O (fun _=>by kernel_rfl) ?_
 refine V.bs 19 [(0,_)] tR57 ts85 tz85 (by decide) O O (by kernel_rfl) (fun b19=>?_)
 refine znh [Value.slice none 0 0,Value.slice none 0 0,Value.int IntKind.i64 0] [(0,1),(1,1),(2,1)] [(1,_),(2,_)] O O (fun _=>by kernel_rfl) ?_
 refine znh [Value.slice none 0 0,Value.slice none 0 0,Value.int IntKind.i64 0] [(0,1),(1,1),(2,1)] [(2,_)] O O (fun _=>by kernel_rfl) ?_
 refine V.bs 22 [(0,_),(1,_)] tR27 ts3 tz3 (by decide) O O (by kernel_rfl) (fun b22=>?_)
 refine V.bs 23 [(0,_),(1,_)] tR27 ts3 tz3 (by decide) O O (by kernel_rfl) (fun b23=>?_)
 refine znh [Value.int IntKind.i64 0,Value.int IntKind.i64 0,Value.slice none 0 0,Value.slice none 0 0] [(0,1),(1,1),(2,1),(3,1)] [(0,_),(1,_),(2,_),(3,_)] O O (fun _=>by kernel_rfl) ?_
 refine V.bs 25 [(0,_)] tR56 ts88 tz88 (by decide) O O (by kernel_rfl) (fun b25=>?_)
 refine znh [Value.int IntKind.i64 0,Value.int IntKind.i64 0] [(0,1),(1,1)] [(0,_),(1,_)] O O (fun _=>by kernel_rfl) ?_
 refine V.bs 27 [(0,_)] tR57 ts85 tz85 (by decide) O O (by kernel_rfl) (fun b27=>?_)
 refine znh [Value.slice none 0 0,Value.slice none 0 0,Value.int IntKind.i64 0] [(0,1),(1,1),(2,1)] [(0,_),(1,_),(2,_)] O O (fun _=>by kernel_rfl) ?_
 refine znh [Value.slice none 0 0,Value.slice none 0 0,Value.int IntKind.i64 0] [(0,1),(1,1),(2,1)] [(2,_)] O O (fun _=>by kernel_rfl) ?_
 refine V.bs 30 [(0,_),(1,_),(2,_),(3,_),(4,_)] tR28 ts59 tz59 (by decide) O O (by kernel_rfl) (fun b30=>?_)
 refine znh [Value.slice none 0 0,Value.slice none 0 0] [(0,1),(1,1)] [(0,_),(1,_)] O O (fun _=>by kernel_rfl) ?_
 refine V.alloc 3 tz30 O O (fun b3=>?_)
 refine Vs 4 O ?_
 refine V.ren [(6,906),(10,910),(14,914),(16,916),(19,919),(22,922),(23,923),(25,925),(27,927),(30,930)] [(0,some (0,0)),(1,some (1,0)),(2,some (2,0)),(3,some (3,0))] O O ?_
 refine Vw [1,906,910,914,2,916,919,922,923,925,927,930,3] [3] O ?_
 refine Vd [0,1] 0 (by kernel_rfl) O O O ?_
 refine Ve 2 0 O (by kernel_rfl) O O O ?_
 refine Vl 3 O (by kernel_rfl) O ?_
 refine VDx.done (by kernel_rfl) ?_
 refine Vs 2 O ?_
 refine zo6 Tryz.results31 tg26 Tryz.isAgg30 ts26 ts30 O O O O O O (fun w hI=>⟨_,rfl,(b6,b10,b14,b16,b19,b22,b23,b25,b27,b30),rfl,hI.back0 0 O O O rfl⟩)
theorem zgM (f:Fl) (v1 v2 v3:Value) (D:Nat->Prop) (W:World) (hf:RFl D W f v1 v2 v3) (hsz:ssize f.body<=10000) :
  Calls Tryz.prog 14 #[.agg #[v1,v2,v3]] W (Ret fun r w'=>(∃ nv,r=.agg #[nv]/\SlR 4 RNd (fun b=>W.heap.size<=b) w' nv (zh f))/\Ext W w'):=by
 refine zmu Tryz.func14 O Tryz.ntmps14 O (zmE ?_)
 refine Vs 2 O ?_
 refine V.box 1 O O (fun b1=>?_)
 refine V.alloc 2 tz36 O O (fun b2=>?_)
 refine Vs 5 O ?_
 refine zn1 Tryz.call33 O (fun w hI=>zdO f v1 v2 v3 D w (Tr1 hI.k0 hf) hsz) ?_
 rintro rr w1 w2 hI1 hk12 ⟨nv,rfl,hnv⟩ hlow
 have hsz1:W.heap.size<=w1.heap.size:=hI1.k0.size
 obtain⟨an,cn,rfl⟩:=hnv.form
 refine Vs 4 O ?_
 refine zl4 Tryz.results14 tg36 ts36 O O O (fun w hI=>⟨_,rfl,⟨_,rfl,(hnv.keep zI hI.k0 fun b hb _ hs=>by have:=hlow b hs;omega).wide zI fun b hb=>by omega⟩,hI.k1⟩)
section
variable {D:Nat->Prop} {w:World} {bv bb b4 bo b9 bf ba bp bu bn:Nat} {ph:Value} {u:Int}
theorem ki (hE:∀ x ∈ zfb bv bb b4 bo b9 bf ba bp bu bn ph u,x.2.holds w) (hD:∀ q,q<w.heap.size->D q):RFl D w exF22 (.slice (some ⟨bv,0,none⟩) 2 2) (.slice none 0 0) (.slice (some ⟨b4,0,none⟩) 2 2):=by
 have h1:=hE _ (zon ..)
 replace h1:Blk w bv _ 142:=h1
 have h2:=hE _ (zom _ (zon ..))
 replace h2:Blk w bb _ 72:=h2
 have h3:=hE _ (zom _ (zom _ (zon ..)))
 replace h3:Blk w b4 _ 72:=h3
 have kA:SlR 10 RSt D w (.slice (some ⟨bb,0,none⟩) 1 1) [zid]:=zo5 (R:=RSt) (l:=[zid]) [[.int .i64 0,.int .i64 0,.int .i64 1,.int .i64 0,.int .i64 0,.int .i64 1,.slice none 0 0,.slice none 0 0,.slice none 0 0,.slice none 0 0]] h2 (hD _ h2.lt) (fun c hc=>by rw [zoB] at hc;subst hc;rfl) (by decide) ⟨RSt.put (s:=zid) SlR.nil SlR.nil SlR.nil SlR.nil,trivial⟩
 refine⟨?_,SlR.nil,?_⟩
 . exact zo5 (R:=RVr) (l:=exF22.vars)  [[.string ⟨#[120]⟩,.int .i64 1,.int .i64 0,.int .i64 1,.int .i64 0],[.string ⟨#[121]⟩,.int .i64 0,.int .i64 0,.int .i64 1,.int .i64 0]] h1 (hD _ h1.lt) (fun c hc=>by simp only [zoz,List.not_mem_nil,or_false] at hc;rcases hc with rfl | rfl <;> rfl) (by decide) ⟨rfl,rfl,trivial⟩
 . exact zo5 (R:=RSt) (l:=exF22.body)  [[.int .i64 3,.int .i64 0,.int .i64 0,.int .i64 0,.int .i64 24,.int .i64 0,.slice none 0 0,.slice (some ⟨bb,0,none⟩) 1 1,.slice none 0 0,.slice none 0 0],[.int .i64 1,.int .i64 0,.int .i64 0,.int .i64 0,.int .i64 24,.int .i64 1,.slice none 0 0,.slice none 0 0,.slice none 0 0,.slice none 0 0]] h3 (hD _ h3.lt) (fun c hc=>by simp only [zoz,List.not_mem_nil,or_false] at hc;rcases hc with rfl | rfl <;> rfl) (by decide) ⟨RSt.put (s:=zjW) SlR.nil kA SlR.nil SlR.nil,RSt.put (s:=zjX) SlR.nil SlR.nil SlR.nil SlR.nil,trivial⟩
theorem zbF (hE:∀ x ∈ zfb bv bb b4 bo b9 bf ba bp bu bn ph u,x.2.holds w) (hD:∀ q,q<w.heap.size->D q):SlR 1 yj D w (.slice (some ⟨bo,0,none⟩) 4 4) [0,1,1,1]:=by
 have h4:=hE _ (zom _ (zom _ (zom _ (zon ..))))
 replace h4:Blk w bo _ 3:=h4
 exact zo5 (R:=yj) (l:=[(0:Int),1,1,1]) [[.int .i64 0],[.int .i64 1],[.int .i64 1],[.int .i64 1]] h4 (hD _ h4.lt) (fun c hc=>by simp only [zoz,List.not_mem_nil,or_false] at hc;rcases hc with rfl | rfl | rfl | rfl <;> rfl) (by decide) ⟨rfl,rfl,rfl,rfl,trivial⟩
theorem zbG {phis:List Phn} (hE:∀ x ∈ zfb bv bb b4 bo b9 bf ba bp bu bn ph u,x.2.holds w) (hD:∀ q,q<w.heap.size->D q) (hp:SlR 4 zhI D w ph phis):SlR 3 RSn D w (.slice (some ⟨bn,0,none⟩) 5 5) [⟨[],[],-1⟩,⟨[],[(0,0)],-1⟩,⟨[],[],2⟩,⟨phis,[(1,u)],-1⟩,⟨[],[],-1⟩]:=by
 have h5:=hE _ (zom _ (zom _ (zom _ (zom _ (zon ..)))))
 replace h5:Blk w b9 _ 85:=h5
 have h9:=hE _ (zom _ (zom _ (zom _ (zom _ (zom _ (zom _ (zom _ (zom _ (zon ..)))))))))
 replace h9:Blk w bu _ 85:=h9
 have h10:=hE _ (zom _ (zom _ (zom _ (zom _ (zom _ (zom _ (zom _ (zom _ (zom _ (zon ..))))))))))
 replace h10:Blk w bn _ 59:=h10
 have k5:SlR 2 kU D w (.slice (some ⟨b9,0,none⟩) 1 1) [(0,0)]:=zo5 (R:=kU) (l:=[((0:Int),(0:Int))]) [[.int .i64 0,.int .i64 0]] h5 (hD _ h5.lt) (fun c hc=>by rw [zoB] at hc;subst hc;rfl) (by decide) ⟨rfl,trivial⟩
 have k9:SlR 2 kU D w (.slice (some ⟨bu,0,none⟩) 1 1) [(1,u)]:=zo5 (R:=kU) (l:=[((1:Int),u)]) [[.int .i64 1,.int .i64 u]] h9 (hD _ h9.lt) (fun c hc=>by rw [zoB] at hc;subst hc;rfl) (by simp) ⟨rfl,trivial⟩
 exact zo5 (R:=RSn) (l:=[⟨[],[],-1⟩,⟨[],[(0,0)],-1⟩,⟨[],[],2⟩,⟨phis,[(1,u)],-1⟩,⟨[],[],-1⟩]) [[.slice none 0 0,.slice none 0 0,.int .i64 (-1)],[.slice none 0 0,.slice (some ⟨b9,0,none⟩) 1 1,.int .i64 (-1)],[.slice none 0 0,.slice none 0 0,.int .i64 2],[ph,.slice (some ⟨bu,0,none⟩) 1 1,.int .i64 (-1)],[.slice none 0 0,.slice none 0 0,.int .i64 (-1)]] h10 (hD _ h10.lt) (fun c hc=>by simp only [zoz,List.not_mem_nil,or_false] at hc;rcases hc with rfl | rfl | rfl | rfl | rfl <;> rfl) (by simp)
  ⟨⟨_,_,rfl,SlR.nil,SlR.nil⟩,⟨_,_,rfl,SlR.nil,k5⟩,⟨_,_,rfl,SlR.nil,SlR.nil⟩,⟨_,_,rfl,hp,k9⟩,⟨_,_,rfl,SlR.nil,SlR.nil⟩,trivial⟩
theorem zci (hE:∀ x ∈ zfb bv bb b4 bo b9 bf ba bp bu bn (.slice (some ⟨bp,0,none⟩) 1 1) 3,x.2.holds w) (hD:∀ q,q<w.heap.size->D q):RSf D w exS22 (.slice (some ⟨bo,0,none⟩) 4 4) (.slice (some ⟨bn,0,none⟩) 5 5):=by
 have h6:=hE _ (zom _ (zom _ (zom _ (zom _ (zom _ (zon ..))))))
 replace h6:Blk w bf _ 3:=h6
 have h7:=hE _ (zom _ (zom _ (zom _ (zom _ (zom _ (zom _ (zon ..)))))))
 replace h7:Blk w ba _ 3:=h7
 have h8:=hE _ (zom _ (zom _ (zom _ (zom _ (zom _ (zom _ (zom _ (zon ..))))))))
 replace h8:Blk w bp _ 88:=h8
 have k6:SlR 1 yj D w (.slice (some ⟨bf,0,none⟩) 2 2) [1,2]:=zo5 (R:=yj) (l:=[(1:Int),2]) [[.int .i64 1],[.int .i64 2]] h6 (hD _ h6.lt) (fun c hc=>by simp only [zoz,List.not_mem_nil,or_false] at hc;rcases hc with rfl | rfl <;> rfl) (by decide) ⟨rfl,rfl,trivial⟩
 have k7:SlR 1 yj D w (.slice (some ⟨ba,0,none⟩) 2 2) [1,2]:=zo5 (R:=yj) (l:=[(1:Int),2]) [[.int .i64 1],[.int .i64 2]] h7 (hD _ h7.lt) (fun c hc=>by simp only [zoz,List.not_mem_nil,or_false] at hc;rcases hc with rfl | rfl <;> rfl) (by decide) ⟨rfl,rfl,trivial⟩
 refine⟨zbF hE hD,zbG (phis:=[⟨1,3,[1,2],[1,2]⟩]) hE hD ?_⟩
 exact zo5 (R:=zhI) (l:=[⟨1,3,[1,2],[1,2]⟩]) [[.int .i64 1,.int .i64 3,.slice (some ⟨bf,0,none⟩) 2 2,.slice (some ⟨ba,0,none⟩) 2 2]] h8 (hD _ h8.lt) (fun c hc=>by rw [zoB] at hc;subst hc;rfl) (by decide) ⟨⟨_,_,rfl,k6,k7⟩,trivial⟩
theorem zgN (hE:∀ x ∈ zfb bv bb b4 bo b9 bf ba bp bu bn (.slice none 0 0) 2,x.2.holds w) (hD:∀ q,q<w.heap.size->D q):RSf D w exT22 (.slice (some ⟨bo,0,none⟩) 4 4) (.slice (some ⟨bn,0,none⟩) 5 5):=⟨zbF hE hD,zbG (phis:=[]) hE hD SlR.nil⟩
end
def zgO:Ins:=⟨[1],[],[]⟩
theorem zfc:zB exF22.vars zgO=0:=by decide +kernel
theorem zgP:(zeP exF22 zgO).outs=[1]:=by decide +kernel
theorem zdd {f:Fl} {g:List Nd} {s:Sf} {k:Nat} (hk:k<s.of_.length) (hN:NeedV f g s (k:Int)):(kY f g s)[k]?=some true:=by
 unfold kY
 rw [zoA,List.getElem?_range hk]
 simp only [Option.map_some]
 rw [@zov _ (Classical.propDecidable _) hN]
theorem zfd:(kY exF22 exG22 exS22)[0]?=some true:=zdd (by decide) (NeedV.sink (n:=1) (u:=(0,0)) (by decide) (by decide +kernel) (by decide +kernel))
theorem zfe:(kY exF22 exG22 exS22)[3]?=some true:=zdd (by decide) (NeedV.sink (n:=3) (u:=(1,3)) (by decide) (by decide +kernel) (by decide +kernel))
theorem zjp:(ye exF22 exG22 exS22 exG22.length).length+muN exS22 exG22.length (List.replicate exS22.of_.length false)<=1000000000:=by decide +kernel
open Go.GL
def zjq (f:Fl) (s:Sf) (r:Ins) (i:Nat) (vl:List Int):Prop:=(i=0->∀ v:Nat,v<f.vars.length->vl[v]?=(zF f.vars r)[v]?)/\∀ j,i=j+1->∀ y:Nat,(yB f r j).at_=(y:Int)->zg4 f (zh f) s y vl (yB f r i).σ.vals
theorem zgQ {f:Fl} {r:Ins} (vd:Valid f) {K i n n':Nat} {x x':Nd} (hw:OnWalk f r K i n x) (hw':OnWalk f r K (i+1) n' x') (hi:i<K):n ∈ qa (zh f) n'/\n' ≠ 0:=by
 have hn:=(zox.1 hw.nd).1
 have h1:=(hw.go hi).1
 have h2:(yB f r (i+1)).at_=_:=congrArg Mc.at_ h1
 rw [hw'.at_] at h2
 dsimp only at h2
 have h3:=zji f (zY f r) x (zU f x.at_) (yB f r i).σ (yB f r i).rd
 rw [<- h2] at h3
 have h4:=(vd.away hw.nd).1 _ h3
 refine⟨pred_mem.2 ⟨hn,?_⟩,by omega⟩
 rw [xd hw.nd]
 rcases h3 with h3 | h3
 . exact .inl h3.symm
 . exact .inr h3.symm
theorem zil {f:Fl} {r:Ins} {K n:Nat} {x:Nd} (hw:OnWalk f r K 0 n x):n=0:=by
 have h:(yB f r 0).at_=0:=rfl
 have:=hw.at_
 omega
theorem zko {f:Fl} {g:List Nd} {s:Sf} {rd:Nat->List Int} (h:FormF f g s rd) (hg:0<g.length):(zk s 0).phis=[]:=(h.at hg).phi.zero rfl
theorem zim {f:Fl} {r:Ins} {s:Sf} (vd:Valid f) (h:RightF f (zh f) s (rdV f (zh f))) {K i n y:Nat} {x:Nd} (hg:GoesAll f r K) (hi:i<=K) (hw:OnWalk f r K i n x) (hy:(yB f r (i - 1)).at_=(y:Int)) {vl:List Int} (hlen:vl.length=s.of_.length) (hp:zjq f s r i vl) :
  InvV f (zh f) s n (qs f (zh f) s y vl (zk s n).phis) (yB f r i).σ.vals/\((zk s n).phis ≠ []->y ∈ qa (zh f) n):=by
 have hn:=(zox.1 hw.nd).1
 cases i with
 | zero =>
  obtain rfl:=zil hw
  have h0:=zko h.toFormF hn
  rw [h0]
  exact⟨zny h.toFormF (hp.1 O),fun h=>absurd O h⟩
 | succ j =>
  obtain⟨n0,x0,hw0⟩:=zgt vd hg (show j<=K by omega)
  rw [Nat.add_sub_cancel,hw0.at_] at hy
  obtain rfl:n0=y:=by omega
  obtain⟨h1,h2⟩:=zgQ vd hw0 hw (by omega)
  exact⟨zgF h h2 hn h1 hlen (hp.2 j O n0 hw0.at_),fun _=>h1⟩
theorem zin {f:Fl} {r:Ins} {s:Sf} {K i n:Nat} {x:Nd} (hw:OnWalk f r K i n x) {vl:List Int} (h:zg4 f (zh f) s n vl (yB f r (i+1)).σ.vals):zjq f s r (i+1) vl:=by
 refine⟨fun h=>by omega,fun j hj y hy=>?_⟩
 obtain rfl:i=j:=by omega
 rw [hw.at_] at hy
 obtain rfl:n=y:=by omega
 exact h
theorem zff (f:Fl):CtOk f (List.replicate (zh f).length 0) (fun _=>0):=fun i x hx _=>by
 rw [List.getElem?_replicate,zou (zox.1 hx).1]
theorem zcj {f:Fl} {s:Sf} (_:Valid f) (h:RightF f (zh f) s (rdV f (zh f))) {n:Nat} {x:Nd} (hx:(zh f)[n]?=some x) {σ:Sg} (_:InV f.vars σ.vals) {vl:List Int} (hI:InvV f (zh f) s n vl σ.vals) (_:List Int) (hn:zdG f x=false):zg4 f (zh f) s n vl σ.vals:=by
 refine hI.pass h ?_
 unfold jp
 rw [xd hx,hn,zot (by decide)]
 decide
theorem zjr {f:Fl} {s:Sf} (h:RightF f (zh f) s (rdV f (zh f))) {n:Nat} {x:Nd} (hx:(zh f)[n]?=some x) {vals:List Int} (hV:InV f.vars vals) {vl:List Int} (hI:InvV f (zh f) s n vl vals) (hl:vl.length=s.of_.length) (ha:zdG f x=true) {v:Vr} {k:Nat} (hk:(zU f x.at_).var=(k:Int)) (hv:f.vars[k]?=some v) (m:Int):zg4 f (zh f) s n (vl.set (zk s n).dfn.toNat (yR m v.low v.high)) (ziB f.vars vals (zU f x.at_).var m)/\∃ q:Nat,(zk s n).dfn=(q:Int)/\q<vl.length:=by
 have hkl:=(zox.1 hv).1
 have hd:jp f (zh f) n=(k:Int):=by unfold jp;rw [xd hx,ha,zou rfl,hk]
 have hnl:=(zox.1 hx).1
 have hyes:=(h.toFormF.at hnl).yes (by omega)
 have hs:ziB f.vars vals (zU f x.at_).var m=vals.set k (yR m v.low v.high):=by unfold ziB;rw [hk,zoF,hv]
 rw [hs]
 refine⟨hI.set h hnl hd hkl (by rw [hV.len];exact hkl) (by omega) _,?_⟩
 obtain⟨q,hq,hql⟩:=qJ hyes
 exact⟨q,hq,by omega⟩
abbrev rnH (b gb:Nat) (ofv nodv vv hv rv ov:Value) (vl rl outs:List Int) (t:Int):Hp:=[(900,.own b (rnr gb ofv nodv vv hv rv ov (.int .i64 t)) 107),(901,qq vv vl),(902,qq rv rl),(903,qq ov outs)]
abbrev zk0 (f:Fl) (s:Sf) (n:Nat) (b gb:Nat) (ofv nodv vv hv rv ov:Value) (vl ro:List Int) (outs:List Int) (t:Int) (σ':Sg) (W w':World):Prop:=∃ (x:List Int × Value),(x.1.length=vl.length/\zg4 f (zh f) s n x.1 σ'.vals)/\GBack (rnH b gb ofv nodv vv hv rv ov vl ro outs t) (rnH b gb ofv nodv vv hv rv x.2 x.1 ro σ'.outs σ'.time) W w'
theorem zjs {f:Fl} {x:Nd} (k2:x.kind=2):zdG f x=(decide ((zU f x.at_).act=0) || decide ((zU f x.at_).act=5)):=by unfold zdG;rw [zov k2,Bool.true_and]
theorem zjt (f:Fl) (s:Sf) (vd:Valid f) (hR:RightF f (zh f) s (rdV f (zh f))) (hs:List Int) (hhs:hs.length=f.hatches.length) (n:Nat) (x:Nd) (hx:(zh f)[n]?=some x) (k2:x.kind=2) (σ:Sg) (hV:InV f.vars σ.vals) (hol:σ.outs.length<=1000000000) (vl ro:List Int) (hvl:vl.length=s.of_.length) (hInv:InvV f (zh f) s n vl σ.vals)
  (b gb:Nat) (ofv nodv vv hv rv ov:Value) (D Dh:Nat->Prop) (W:World) (hE:zka (rnH b gb ofv nodv vv hv rv ov vl ro σ.outs (σ.time+(zU f x.at_).cost)) W) (hS:RSf D W s ofv nodv) (hG:GrO D W f (zh f) gb) (hh:SlR 1 yj Dh W hv hs) (hlow:∀ q,HS (rnH b gb ofv nodv vv hv rv ov vl ro σ.outs (σ.time+(zU f x.at_).cost)) q->¬ D q) (hlow2:∀ q,HS (rnH b gb ofv nodv vv hv rv ov vl ro σ.outs (σ.time+(zU f x.at_).cost)) q->¬ Dh q)
  (a1:Option Addr) (n1:Nat) (a2:Option Addr) (n2:Nat) (a3:Option Addr) (n3:Nat) (a4:Option Addr) (n4:Nat) (hb:SlR 1 yj D W (.slice a4 (zU f x.at_).bounds.length n4) (zU f x.at_).bounds) :
  Calls Tryz.prog 93 #[.pointer (some ⟨b,0,none⟩),.int .i64 n,.agg #[.int .i64 (zU f x.at_).act,.int .i64 (zU f x.at_).cost,.int .i64 (zU f x.at_).var,.int .i64 (zU f x.at_).n,.int .i64 (zU f x.at_).term.op,.int .i64 (zU f x.at_).term.n,.slice a1 (zU f x.at_).term.kids.length n1,.slice a2 (zU f x.at_).thn.length n2,.slice a3 (zU f x.at_).els.length n3,.slice a4 (zU f x.at_).bounds.length n4]] W (Ret fun r w'=>r=.tuple #[]/\zk0 f s n b gb ofv nodv vv hv rv ov vl ro σ.outs (σ.time+(zU f x.at_).cost) (xJ f hs (zU f x.at_) σ) W w'):=by
 have hnl:=(zox.1 hx).1
 obtain⟨h0,hlt,_⟩:=vd.gOk.at hx (.inl k2)
 have hget:=jW h0 hlt
 obtain⟨hso,hse,_⟩:=vd.step _ (zok hget)
 have hndx:xF (zh f) n=x:=xd hx
 have hstn:stN f (xF (zh f) n)=zU f x.at_:=by rw [hndx];unfold stN;rw [zou h0]
 have hl:=vd.lens
 have hss:=vd.ssize
 have hcl:=yz f vd.plain
 have hwl:=yU f.body
 have hasg:=zjs (f:=f) k2
 have hlen:=hR.len
 obtain⟨xs,he_s⟩:∃ xs,s.nodes[n]?=some xs:=⟨_,zoj (by omega)⟩
 have hxn:=yO he_s
 obtain⟨v1,v2,v3,gv,sv,pv,hD,hcell,hf,_,_,_⟩:=id hG
 have hvs:=hf.vars
 obtain⟨av,cv,rfl⟩:=hvs.form
 have hnod:=hS.nodes
 obtain⟨an,cn,rfl⟩:=hnod.form
 obtain⟨ah,ch,rfl⟩:=hh.form
 have hvm:=hS.of_.max
 generalize hst:zU f x.at_=st at *
 refine zmw Tryz.func93 O Tryz.ntmps93 O (znP [(900,.own b [.pointer (some ⟨gb,0,none⟩),ofv,.slice an s.nodes.length cn,vv,.slice ah hs.length ch,rv,ov,.int .i64 (σ.time+st.cost)] 107),(901,.row 3 1 vv vl.length (vl.map zc)),(902,.row 3 1 rv ro.length (ro.map zc)),(903,.row 3 1 ov σ.outs.length (σ.outs.map zc))] hE.1 hE.2 ?_)
 refine znb 904 0 O O (fun h=>hlow _ h hD) hcell ?_
 refine zmL 0 900 0 O O ?_
 have hterm:rdB f x=true->∀ w,Keep (HS (rnH b gb ofv (.slice an s.nodes.length cn) vv (.slice ah hs.length ch) rv ov vl ro σ.outs (σ.time+st.cost))) W w->Cells w b 0 (rnr gb ofv (.slice an s.nodes.length cn) vv (.slice ah hs.length ch) rv ov (.int .i64 (σ.time+st.cost)))->w.ownsRow 0 3 1 vv vl.length (vl.map zc)->Calls Tryz.prog 92 #[.pointer (some ⟨b,0,none⟩),.int .i64 n] w (Ret fun r w'=>r=.int .i64 (xZ σ.vals st.term)/\Ext w w'):=fun hrd w hk hc hv=>hstn ▸ zet f (zh f) s vd.good hR n hnl (hstn ▸ hso) (by rw [hndx];exact h0) (by rw [hndx];exact hrd) (by omega) (by omega) vl σ.vals hV hInv b gb _ _ _ _ _ _ _ D D (fun _=>True) w hc (hS.keep hk fun q hq _ h=>hlow q h hq) (hG.keep hk fun q hq _ h=>hlow q h hq) (zlM zc (fun _ _=>rfl) hv (fun _ _=>trivial))
 refine Vs 2 O ?_
 refine V.box 5 O O (fun b5=>?_)
 refine Vs 15 O ?_
 refine zkG O (fun a1=>?_) (fun a1=>?_)
 ·
  have hrd:rdB f x=true:=by unfold rdB;rw [hst];simp [k2,a1]
  have hx1:xJ f hs st σ={ σ with outs:=σ.outs++[xZ σ.vals st.term],time:=σ.time+st.cost }:=by unfold xJ;rw [zot (by omega),zou a1]
  have hpre:=zcj vd hR hx hV hInv hs (by rw [hasg];simp [a1])
  refine Vw [900,904,5] [14] O ?_
  refine Vd [0,1,2,3,4,5,6,7] 0 (by kernel_rfl) O O O ?_
  refine zn0 8 0 Tryz.call92 O (by kernel_rfl) O O (fun w hI=>hterm hrd w hI.k0 (hI.at 900 O).cells (hI.at 901 O)) ?_
  refine VD.bs 9 21 0 [(0,_)] tR27 ts3 tz3 (by decide) O (by kernel_rfl) O O (by kernel_rfl) (fun b21=>?_)
  refine zmT 10 903 21 0 tu27 Tryz.el3 O (by decide) O (by kernel_rfl) O O O (by omega) (by omega) (fun u903=>?_)
  refine Vd [11,12,13] 0 (by kernel_rfl) O O O ?_
  refine zmV 903 O (by omega) ?_
  rintro bo co rfl hcap_903
  refine Vl 14 O (by kernel_rfl) O ?_
  refine VDx.done (by kernel_rfl) ?_
  refine Vs 1 O ?_
  refine znc 903 O (e':=.row 3 1 (.slice (some ⟨bo,0,none⟩) (σ.outs.length+1) co) (σ.outs++[xZ σ.vals st.term]).length ((σ.outs++[xZ σ.vals st.term]).map zc)) (by simp [zc]) ?_
  refine zla tr93 (fun w hI=>⟨_,rfl,rfl,hx1 ▸ ⟨(vl,.slice (some ⟨bo,0,none⟩) (σ.outs.length+1) co),⟨rfl,hpre⟩,hI.back 0 O O O rfl⟩⟩)
 ·
  refine Vs 6 O ?_
  refine zkG O (fun a6=>?_) (fun a6=>?_)
  ·
   have hx1:xJ f hs st σ={ σ with time:=jo st.bounds (σ.time+st.cost) }:=by unfold xJ;rw [zot (by omega),zot a1,zot (by omega),zou a6]
   have hpre:=zcj vd hR hx hV hInv hs (by rw [hasg];simp [a6])
   refine Vw [900,904,5] [12] O ?_
   refine Vd [0,1,2,3,4,5,6,7] 0 (by kernel_rfl) O O O ?_
   refine zn0 8 0 Tryz.call134 O (by kernel_rfl) O O (fun w hI=>zbj st.bounds (σ.time+st.cost) _ D w (hb.keep ze hI.k0 fun q hq _ h=>hlow q h hq)) ?_
   refine Vd [9,10,11] 0 (by kernel_rfl) O O O ?_
   refine Vl 12 O (by kernel_rfl) O ?_
   refine VDx.done (by kernel_rfl) ?_
   refine Vs 1 O ?_
   refine zla tr93 (fun w hI=>⟨_,rfl,rfl,hx1 ▸ ⟨(vl,ov),⟨rfl,hpre⟩,hI.back 0 O O O rfl⟩⟩)
  ·
   refine Vs 1 O ?_
   refine zne (σ:=Bool) [0,1,5] [5,900,901,902,903,904] [0,5] O (fun e a=>(40,.bool a)::e) (fun e a=>e) (fun a=>a=zdG f x) (fun _=>rfl) (fun _=>rfl) ?_ ?_
   ·
    refine Vs 6 O ?_
    refine zkG O (fun a0=>?_) (fun a0=>?_)
    ·
     refine Vs 1 O ?_
     refine zkT (true) (Sub.of O) (Has.of O) (by rw [hasg];simp [a0]) 0 O O
    ·
     refine Vs 4 O ?_
     refine zkT ((decide (st.act=5))) (Sub.of O) (Has.of O) (by rw [hasg];simp [a0]) 0 O O
   rintro a ha
   refine Vs 1 O ?_
   refine V.bool O (fun t=>?_) (fun t=>?_)
   ·
    have ha':zdG f x=true:=ha ▸ t
    have ha5:st.act=0\/st.act=5:=by rw [hasg] at ha';simpa using ha'
    have hvar:=hso.var ha5
    obtain⟨k,hk⟩:∃ k:Nat,st.var=(k:Int):=⟨st.var.toNat,by omega⟩
    refine Vs 6 O ?_
    refine zne (σ:=Int) [0,1,5] [5,900,901,902,903,904] [0,5] O (fun e m=>(6,.int .i64 m)::e) (fun e m=>e) (fun m=>xJ f hs st σ={ σ with vals:=ziB f.vars σ.vals st.var m,time:=σ.time+st.cost }) (fun _=>rfl) (fun _=>rfl) ?_ ?_
    ·
     refine Vs 7 O ?_
     refine zkG O (fun b0=>?_) (fun b0=>?_)
     ·
      have hrd:rdB f x=true:=by unfold rdB;rw [hst];simp [k2,b0]
      refine Vs 3 O ?_
      refine zmZ Tryz.call92 O (fun w hI=>hterm hrd w hI.k0 (hI.at 900 O).cells (hI.at 901 O)) ?_
      refine Vs 2 O ?_
      refine zkT ((xZ σ.vals st.term)) (Sub.of O) (Has.of O) (by unfold xJ;rw [zou b0]) 0 O O
     ·
      have a5:st.act=5:=by omega
      have hnum:=hso.num a5
      obtain⟨y,he_y,hm_y⟩:=gE_ hs (st.n.toNat) (by omega)
      obtain⟨b_y,o_y,c_y,ha_y,hd_y,hc_y,hR_y⟩:=hh.atD he_y
      obtain rfl:=hR_y
      refine znb 1000 0 O O (fun h_=>by have h1_:=hlow2 _ h_;have h2_:=hd_y;first | omega | exact h1_ h2_) hc_y ?_
      refine Vq (by kernel_rfl) ?_
      refine Vs 6 O ?_
      refine zmQ 1000 tR27 ts3 O ha_y (by omega) (st.n.toNat) (by omega) O ?_
      refine Vs 3 O ?_
      refine zkT (y) (Sub.of O) (Has.of O) (by unfold xJ;rw [zot b0,zot a1,zou a5,zfM he_y]) 0 O O
    rintro m hx1
    refine Vs 2 O ?_
    obtain⟨v,he_v,hm_v⟩:=gE_ f.vars (k) (by omega)
    obtain⟨b_v,o_v,c_v,ha_v,hd_v,hc_v,hR_v⟩:=hvs.atD he_v
    obtain rfl:=hR_v
    refine znb 2000 0 O O (fun h_=>by have h1_:=hlow _ h_;have h2_:=hd_v;first | omega | exact h1_ h2_) hc_v ?_
    refine Vw [5,900,904,2000] [] O ?_
    refine Vd [0,1,2,3] 0 (by kernel_rfl) O O O ?_
    refine zmM 60 904 0 O O ?_
    refine Vd [4,5,6,7,8,9] 0 (by kernel_rfl) O O O ?_
    refine zmO 10 2000 tR22 ts142 O (by kernel_rfl) O ha_v (by omega) (k) (by omega) O ?_
    obtain⟨hpre,q,hq,hql⟩:=zjr (m:=m) hR hx hV hInv hvl ha' (hst ▸ hk) he_v
    rw [hst] at hpre
    refine Vd [11] 0 (by kernel_rfl) O O O ?_
    refine zmK 12 7 0 O (by kernel_rfl) O O (fun _ _=>M.alloc tz142 O) (fun b7=>?_)
    refine Ve 13 0 O (by kernel_rfl) O O O ?_
    refine VD.done (by kernel_rfl) ?_
    refine Vs 1 O ?_
    refine zmU 901 O (by omega) ?_
    rintro bv cq rfl hcap_901
    obtain⟨xn,he_xn,hm_xn⟩:=gE_ s.nodes (n) (by omega)
    obtain⟨b_xn,o_xn,c_xn,ha_xn,hd_xn,hc_xn,hR_xn⟩:=hnod.atD he_xn
    obtain⟨v1_xn,v2_xn,rfl,hp_xn,hu_xn⟩:=hR_xn
    obtain⟨a1_xn,n1_xn,rfl⟩:=hp_xn.form
    obtain⟨a2_xn,n2_xn,rfl⟩:=hu_xn.form
    refine znb 3000 0 O O (fun h_=>by have h1_:=hlow _ h_;have h2_:=hd_xn;first | omega | exact h1_ h2_) hc_xn ?_
    obtain rfl:xs=xn:=Option.some.inj (he_s.symm.trans he_xn)
    rw [hxn] at hq hpre
    refine Vw [5,900,904,2000,7,3000] [] O ?_
    refine Vd [0,1,2,3,4,5,6,7,8,9,13,14,15,16,17] 0 (by kernel_rfl) O O O ?_
    refine zmO 10 3000 tR28 ts59 O (by kernel_rfl) O ha_xn (by omega) (n) (by omega) O ?_
    refine Vd [11,12] 0 (by kernel_rfl) O O O ?_
    refine zn0 18 0 Tryz.call46 O (by kernel_rfl) O O (fun w hI=>zda m v.low v.high w (vd.good v hm_v).2.1) ?_
    refine Vb [19] 0 (by kernel_rfl) O O O (by omega) ?_
    refine zmY 20 901 0 (q) ts3 O (by kernel_rfl) O O (by omega) (by simp;omega) ?_
    refine VD.done (by kernel_rfl) ?_
    refine Vs 1 O ?_
    refine znc 901 O (e':=.row 3 1 (.slice (some ⟨bv,0,none⟩) vl.length cq) (vl.set q (yR m v.low v.high)).length ((vl.set q (yR m v.low v.high)).map zc)) (by rw [List.map_set,List.length_set]) ?_
    refine zla tr93 (fun w hI=>⟨_,rfl,rfl,hx1 ▸ ⟨(vl.set q (yR m v.low v.high),ov),⟨List.length_set,by have:=hpre;rw [hq,zoF] at this;exact this⟩,hI.back 0 O O O rfl⟩⟩)
   ·
    have ha':zdG f x=false:=ha ▸ t
    have hx1:xJ f hs st σ={ σ with time:=σ.time+st.cost }:=by
     rw [hasg] at ha'
     simp at ha'
     unfold xJ
     rw [zot ha'.1,zot a1,zot ha'.2,zot a6]
    have hpre:=zcj vd hR hx hV hInv hs ha'
    refine Vs 2 O ?_
    refine zla tr93 (fun w hI=>⟨_,rfl,rfl,hx1 ▸ ⟨(vl,ov),⟨rfl,hpre⟩,hI.back 0 O O O rfl⟩⟩)
end Go.Proofs.YtckdhgbepmpgiaaGreat
namespace Go.GL
structure MI where
 i:Nat
 o:Oper
 d:Nat
 dp:List Nat
 q:Bool
 Φ:(Nat->Value)->Value->Hp->Prop
abbrev MK:=Nat × Nat × List Nat × Bool
def MI.key (x:MI):MK:=(x.i,x.d,x.dp,x.q)
def zgR (x:MK) (J:List MK):Bool:=x.2.2.1.all fun m=>J.all fun y=>!Nat.beq y.2.1 m
def zio (i:Nat) (J:List MK):List MK:=J.filter fun y=>!Nat.beq y.1 i
def ziI (ops:Array Oper) (l:Array Bool) (x:MK):Bool:=x.2.2.2&&(Region.noSelect ops&&Region.free .any ops l x.1&&(Region.ready .any ops l).contains x.1)
def ziq (i:Nat):List MK->Option MK
 | []=>none
 | y::r=>cond (Nat.beq y.1 i) (some y) (ziq i r)
def kT (ops:Array Oper) (L3:Array Bool):Nat->List MK->Array Bool->Bool
 | 0,J,l=>J.isEmpty&&(l == L3)
 | k+1,J,l=>match J.find? (ziI ops l) with
  | some x=>zgR x J&&kT ops L3 k (zio x.1 J) (l.setIfInBounds x.1 true)
  | none=>!(Region.ready .any ops l).isEmpty&&(Region.ready .any ops l).all fun j=>match ziq j J with
   | some x=>!x.2.2.2&&zgR x J&&kT ops L3 k (zio x.1 J) (l.setIfInBounds x.1 true)
   | none=>false
theorem zde {i:Nat}:∀ {J:List MK} {x:MK},ziq i J=some x->x ∈ J/\x.1=i
 | [],_,h=>by cases h
 | y::r,x,h=>by
  simp only [ziq] at h
  cases hb:Nat.beq y.1 i with
  | true=>rw [hb] at h;cases h;exact⟨zon ..,zoq hb⟩
  | false=>rw [hb] at h;obtain⟨h1,h2⟩:=zde h;exact⟨zom _ h1,h2⟩
structure Dn (w w':World) (hx:Hp) (lo hi:Nat):Prop where
 p0:w.heap.size<=lo
 le:lo<=hi
 p1:hi<=w'.heap.size
 ok:∀ z ∈ hx,z.2.holds w'/\z.2.loc/\(∀ b,¬ z.2.fz b)/\∀ q,z.2.S q->lo<=q/\q<hi
 apart:hx.Pairwise (fun x y=>∀ q,x.2.S q->¬ y.2.S q)
theorem Dn.ext {w w' w2:World} {hx:Hp} {lo hi:Nat} (h:Dn w w' hx lo hi) (hk:Ext w' w2):Dn w w2 hx lo hi :=
 ⟨h.p0,h.le,zop h.p1 hk.size,fun z hz=>by
  obtain⟨h1,h2,h3,h4⟩:=h.ok z hz
  exact⟨HE.keep h1 h2 hk (fun _ _ h=>h) (fun _ _ h=>h),h2,h3,h4⟩,h.apart⟩
theorem zbe {w w':World} {hx:Hp} (h:Hands [] [] hx w w'):Ext w w':=h.keep.mono fun q _ ⟨x,hx,_⟩=>by cases hx
theorem Dn.of {w a a':World} {hx:Hp} (hk:Ext w a) (h:Hands [] [] hx a a'):Dn w a' hx a.heap.size a'.heap.size :=
 ⟨hk.size,(zbe h).size,zoI _,fun z hz=>by
  obtain⟨h1,h2,h3,h4⟩:=h.ok z hz
  refine⟨h1,h2,h3,fun q hq=>⟨?_,(h4 q hq).2⟩⟩
  rcases (h4 q hq).1 with⟨x,hx,_⟩ | h5
  . cases hx
  ·
   exact h5,h.apart⟩
theorem zdf:∀ H:Hp,yQ [] H=H
 | []=>rfl
 | x::r=>by show x::yQ [] r=x::r;rw [zdf r]
theorem zgS {Bs:zG} {H:Hp} {w w':World} {hn:Nat->Hp} {lo hi:Nat->Nat} (hI:VI Bs H w) (hk:Ext w w') (K:List Nat) (hnd:K.Nodup) (hd:∀ m ∈ K,Dn w w' (hn m) (lo m) (hi m)) (hap:∀ m ∈ K,∀ m' ∈ K,m ≠ m'->hi m<=lo m'\/hi m'<=lo m):VI Bs (K.flatMap hn++H) w':=by
 have hh:Hands H [] (K.flatMap hn) w w':=by
  refine⟨hk.mono fun q _ h=>h.elim,fun z hz=>?_,?_⟩
  ·
   obtain⟨m,hm,hz⟩:=List.mem_flatMap.1 hz
   obtain⟨h1,h2,h3,h4⟩:=(hd m hm).ok z hz
   exact⟨h1,h2,h3,fun q hq=>⟨.inr (zop (hd m hm).p0 (h4 q hq).1),Nat.lt_of_lt_of_le (h4 q hq).2 (hd m hm).p1⟩⟩
  ·
   clear hI
   induction K with
   | nil=>exact List.Pairwise.nil
   | cons m r ih =>
    rw [List.nodup_cons] at hnd
    rw [List.flatMap_cons]
    refine List.pairwise_append.2 ⟨(hd m (zon ..)).apart,ih hnd.2 (fun x hx=>hd x (zom _ hx)) (fun x hx y hy=>hap x (zom _ hx) y (zom _ hy)),fun x hx y hy q hq hq'=>?_⟩
    obtain⟨m',hm',hy⟩:=List.mem_flatMap.1 hy
    have g1:=((hd m (zon ..)).ok x hx).2.2.2 q hq
    have g2:=((hd m' (zom _ hm')).ok y hy).2.2.2 q hq'
    rcases hap m (zon ..) m' (zom _ hm') (fun e=>hnd.1 (e ▸ hm')) with h | h <;> omega
 have:=hI.hands hh
 rw [zdf] at this
 exact this
theorem zgT {env:Env} {val:Nat->Value}:∀ (D:List Nat) (m:Nat) (v:Value),get (D.map (fun d=>(d,val d))++env) m=some v->(m ∈ D/\v=val m)\/get env m=some v
 | [],_,_,h=>.inr h
 | d::r,m,v,h=>by
  rw [List.map_cons,List.cons_append] at h
  simp only [GL.get] at h
  cases hb:Nat.beq d m with
  | true =>
   rw [hb] at h
   have e:=zoq hb
   subst e
   exact .inl ⟨zon ..,(Option.some.inj h).symm⟩
  | false =>
   rw [hb] at h
   rcases zgT r m v h with⟨h1,h2⟩ | h1
   . exact .inl ⟨zom _ h1,h2⟩
   . exact .inr h1
section
variable {P:Program} {n:Nat} {Q:Exit->Act->World->Prop} {ks:List Fr} {env:Env} {A:Tgs} {H Hs:Hp} {Bs B0:zG} {ops:Array Oper} {L:List Nat} {fuel:Nat} {listed:Array Bool}
abbrev MI.Ds (I:List MI) (x:MI) (val:Nat->Value) (hn:Nat->Hp):Prop:=∀ y ∈ I,y.d ∈ x.dp->y.Φ val (val y.d) (hn y.d)
theorem zju {I:List MI} {x:MI} {J:List MI} (_:(I.map (·.d)).Nodup) (_:∀ y ∈ J,y ∈ I) (h:zgR x.key (J.map MI.key)=true) {y:MI} (_:y ∈ I) (hd:y.d ∈ x.dp):y ∉ J:=by
 intro hyJ
 unfold zgR at h
 rw [List.all_eq_true] at h
 have:=h y.d hd
 rw [List.all_eq_true] at this
 have:=this y.key (List.mem_map.2 ⟨y,hyJ,rfl⟩)
 simp [MI.key,Nat.beq_refl] at this
theorem zns (j:Nat) (I:List MI) (L3:Array Bool) (hI:∀ x ∈ I,ops[x.i]?=some x.o/\x.o.guard=none/\x.o.dst=some x.d/\Nat.blt x.d n=true/\get env x.d=none/\∀ m ∈ x.dp,m ∈ I.map (·.d))
  (hnd:(I.map (·.d)).Nodup) (hni:(I.map (·.i)).Nodup) (hdp:∀ x ∈ I,x.dp.Nodup) (hr:kT ops L3 I.length (I.map MI.key) listed=true) (hB:Bs.drop j=B0) (hu:qd (Hs.map (·.1))=true)
  (hΦ:∀ x ∈ I,∀ val val' v hx,(∀ m ∈ x.dp,val m=val' m)->x.Φ val v hx->x.Φ val' v hx)
  (hc:∀ x ∈ I,x.q=false->∀ val hn,x.Ds I val hn->∀ w,VI Bs (x.dp.flatMap hn++H) w->Does P x.o (x.dp.map (fun m=>(m,val m))++env) w (fun v w'=>∃ hx,x.Φ val v hx/\Hands [] [] hx w w'))
  (hq:∀ x ∈ I,x.q=true->∀ val hn,x.Ds I val hn->∃ v,x.Φ val v []/\∀ w,yl P x.o (x.dp.map (fun m=>(m,val m))++env) w v w)
  (h:∀ val hn,(∀ x ∈ I,x.Φ val (val x.d) (hn x.d))->Hs.map (fun y=>hget ((I.map (·.d)).flatMap hn++H) y.1)=Hs.map (fun y=>some y.2)/\VD P n Q ks ops Hs B0 L fuel L3 (I.map (fun x=>(x.d,val x.d))++env) [] ((I.map (·.d)).flatMap hn++H) Bs) :
  VD P n Q ks ops Hs B0 L (fuel+I.length) listed env A H Bs:=by
 subst hB
 intro hH _ w hw
 have key:∀ (k:Nat) (J:List MI) (listed:Array Bool) (env':Env) (w':World) (val:Nat->Value) (hn:Nat->Hp) (lo hi:Nat->Nat),(∀ x ∈ J,x ∈ I)->kT ops L3 k (J.map MI.key) listed=true->Ext w w'->Sub env env' ->
   (∀ x ∈ I,x ∉ J->get env' x.d=some (val x.d)/\x.Φ val (val x.d) (hn x.d)/\Dn w w' (hn x.d) (lo x.d) (hi x.d)/\∀ m ∈ x.dp,∀ y ∈ I,y.d=m->y ∉ J)->(∀ x ∈ I,x ∉ J->∀ y ∈ I,y ∉ J->x.d ≠ y.d->hi x.d<=lo y.d\/hi y.d<=lo x.d) ->
   WD P n ops (QK P Q ks) (VI (Bs.drop j) Hs) L (fuel+k) listed env' w':=by
  intro k
  induction k with
  | zero =>
   intro J listed env' w' val hn lo hi hJ ho hE hsub hdone hap
   rw [kT,Bool.and_eq_true,List.isEmpty_iff,List.map_eq_nil_iff] at ho
   obtain⟨rfl,ho⟩:=ho
   have e:listed=L3:=by simpa using ho
   rw [e]
   have hall:∀ x ∈ I,x ∉ ([]:List MI):=fun x _=>by simp
   obtain⟨g1,g2⟩:=h val hn fun x hx=>(hdone x hx (hall x hx)).2.1
   have hVI:VI Bs ((I.map (·.d)).flatMap hn++H) w':=zgS hw hE _ hnd (fun m hm=>by
    obtain⟨x,hx,rfl⟩:=List.mem_map.1 hm
    exact (hdone x hx (hall x hx)).2.2.1) (fun m hm m' hm' hne=>by
    obtain⟨x,hx,rfl⟩:=List.mem_map.1 hm
    obtain⟨y,hy,rfl⟩:=List.mem_map.1 hm'
    exact hap x hx (hall x hx) y hy (hall y hy) hne)
   refine (g2 (Has.of g1) TgOk.nil w' hVI).sub ?_
   intro m v hv
   have hv':get (I.map (fun x=>(x.d,val x.d))++env) m=some v:=hv
   rw [show (I.map fun x=>(x.d,val x.d))=(I.map (·.d)).map (fun d=>(d,val d)) by rw [List.map_map];rfl] at hv'
   rcases zgT _ m v hv' with⟨h1,h2⟩ | h1
   ·
    obtain⟨x,hx,rfl⟩:=List.mem_map.1 h1
    rw [h2];exact (hdone x hx (hall x hx)).1
   . exact hsub m v h1
  | succ k ih =>
   intro J listed env' w' val hn lo hi hJ ho hE hsub hdone hap
   have one:∀ x ∈ J,zgR x.key (J.map MI.key)=true->kT ops L3 k (zio x.i (J.map MI.key)) (listed.setIfInBounds x.i true)=true ->
     (Sub (x.dp.map (fun m=>(m,val m))++env) env'/\x.Ds I val hn/\VI Bs (x.dp.flatMap hn++H) w') /\
     ∀ v w2 hx,x.Φ val v hx->Hands [] [] hx w' w2->WD P n ops (QK P Q ks) (VI (Bs.drop j) Hs) L (fuel+k) (listed.setIfInBounds x.i true) ((x.d,v)::env') w2:=by
    intro x hx hmd hmo
    have hxI:=hJ x hx
    have hdn:∀ m ∈ x.dp,∃ y ∈ I,y.d=m/\y ∉ J:=fun m hm=>by
     obtain⟨y,hy,e⟩:=List.mem_map.1 ((hI x hxI).2.2.2.2.2 m hm)
     exact⟨y,hy,e,zju hnd hJ hmd hy (by rw [e];exact hm)⟩
    refine⟨⟨?_,fun y hy hd=>(hdone y hy (zju hnd hJ hmd hy hd)).2.1,zgS (lo:=lo) (hi:=hi) hw hE _ (hdp x hxI) (fun m hm=>?_) (fun m hm m' hm' hne=>?_)⟩,?_⟩
    ·
     intro m v hv
     rcases zgT _ m v hv with⟨h1,h2⟩ | h1
     ·
      obtain⟨y,hy,e,hyJ⟩:=hdn m h1
      rw [h2,<- e];exact (hdone y hy hyJ).1
     . exact hsub m v h1
    ·
     obtain⟨y,hy,e,hyJ⟩:=hdn m hm
     rw [<- e];exact (hdone y hy hyJ).2.2.1
    ·
     obtain⟨y,hy,e,hyJ⟩:=hdn m hm
     obtain⟨z,hz,e',hzJ⟩:=hdn m' hm'
     rw [<- e,<- e'];exact hap y hy hyJ z hz hzJ (by rw [e,e'];exact hne)
    ·
     intro v w2 hx2 hv hh
     have k2:=zbe hh
     have hne:∀ y ∈ I,y ∉ J->y.d ≠ x.d:=fun y hy hyJ e=>hyJ (by rw [qC hnd hy hxI e];exact hx)
     have hmem:∀ z ∈ I,z ∉ J.filter (fun y=>!Nat.beq y.i x.i)->z=x\/z ∉ J:=by
      intro z hz hz2
      by_cases hzJ:z ∈ J
      ·
       left
       cases e:Nat.beq z.i x.i with
       | true=>exact qC hni hz hxI (zoq e)
       | false=>exact absurd (List.mem_filter.2 ⟨hzJ,by simp [e]⟩) hz2
      . exact .inr hzJ
     have hval:∀ z ∈ I,(z=x\/z ∉ J)->∀ m ∈ z.dp,val m=(if m=x.d then v else val m):=by
      intro z hz hzc m hm
      by_cases e:m=x.d
      ·
       exfalso
       rcases hzc with rfl | hzJ
       ·
        obtain⟨y,hy,e',hyJ⟩:=hdn m hm
        exact hne y hy hyJ (e'.trans e)
       . exact (hdone z hz hzJ).2.2.2 m hm x hxI e.symm hx
      . rw [zot e]
     refine ih (J.filter (fun y=>!Nat.beq y.i x.i)) (listed.setIfInBounds x.i true) ((x.d,v)::env') w2 (fun m=>if m=x.d then v else val m) (fun m=>if m=x.d then hx2 else hn m) (fun m=>if m=x.d then w'.heap.size else lo m) (fun m=>if m=x.d then w2.heap.size else hi m) (fun z hz=>hJ z (List.mem_filter.1 hz).1) ?_ (hE.ext k2) ?_ ?_ ?_
     ·
      have:=hmo
      unfold zio at this
      rw [List.filter_map] at this
      exact this
     ·
      intro m u hu2
      simp only [GL.get]
      cases hb:Nat.beq x.d m with
      | true =>
       have e:=zoq hb
       rw [<- e,(hI x hxI).2.2.2.2.1] at hu2
       cases hu2
      | false=>exact hsub m u hu2
     ·
      intro z hz hz2
      have hzc:=hmem z hz hz2
      have hdz:∀ m ∈ z.dp,∀ y ∈ I,y.d=m->y ∉ J.filter (fun y=>!Nat.beq y.i x.i):=by
       intro m hm y hy e hyf
       have hyJ:=(List.mem_filter.1 hyf).1
       rcases hzc with rfl | hzJ
       . exact zju hnd hJ hmd hy (by rw [e];exact hm) hyJ
       . exact (hdone z hz hzJ).2.2.2 m hm y hy e hyJ
      rcases hzc with rfl | hzJ
      ·
       refine⟨by simp [GL.get,Nat.beq_refl],?_,?_,hdz⟩
       ·
        simp only [if_true]
        exact hΦ _ hxI _ _ _ _ (hval _ hxI (.inl O)) hv
       ·
        simp only [if_true]
        exact Dn.of hE hh
      ·
       have hzd:=hne z hz hzJ
       simp only [hzd,if_false]
       obtain⟨g1,g2,g3,g4⟩:=hdone z hz hzJ
       refine⟨?_,hΦ z hz _ _ _ _ (hval z hz (.inr hzJ)) g2,g3.ext k2,hdz⟩
       simp only [GL.get]
       cases hb:Nat.beq x.d z.d with
       | true=>exact absurd (zoq hb).symm hzd
       | false=>exact g1
     ·
      intro z hz hz2 y hy hy2 hzy
      rcases hmem z hz hz2 with rfl | hzJ <;> rcases hmem y hy hy2 with rfl | hyJ
      . exact absurd O hzy
      ·
       simp only [hne y hy hyJ,if_false,if_true]
       exact .inr (hdone y hy hyJ).2.2.1.p1
      ·
       simp only [hne z hz hzJ,if_false,if_true]
       exact .inl (hdone z hz hzJ).2.2.1.p1
      ·
       simp only [hne z hz hzJ,hne y hy hyJ,if_false]
       exact hap z hz hzJ y hy hyJ hzy
   have hfind:∀ y ∈ J.map MI.key,∃ x ∈ J,x.key=y:=fun y hy=>by
    obtain⟨x,hx,e⟩:=List.mem_map.1 hy
    exact⟨x,hx,e⟩
   rw [kT] at ho
   split at ho
   ·
    rename_i y hy
    obtain⟨x,hx,rfl⟩:=hfind y (List.mem_of_find?_eq_some hy)
    have hqx:=List.find?_some hy
    unfold ziI at hqx
    rw [Bool.and_eq_true] at hqx
    rw [Bool.and_eq_true] at ho
    obtain⟨⟨g1,g2,_⟩,g3⟩:=one x hx ho.1 ho.2
    obtain⟨q1,q2,q3,q4,_⟩:=hI x (hJ x hx)
    obtain⟨v,hv,hrun⟩:=hq x (hJ x hx) hqx.1 val hn g2
    exact zmy x.i q1 hqx.2 q3 q4 (.inl ⟨fun a _=>by simp [Region.wanted,q2],fun w3 m a ha=>hrun w3 m a (ha.sub g1)⟩) (g3 v w' [] hv ⟨Keep.refl _ _,fun z hz=>(by cases hz),List.Pairwise.nil⟩)
   ·
    intro a ha
    rw [Bool.and_eq_true,List.all_eq_true] at ho
    refine⟨fun h0=>(by rw [h0] at ho;simp at ho),fun i hi=>?_⟩
    have h1:=ho.2 i hi
    split at h1
    ·
     rename_i y hy
     obtain⟨h2,h3⟩:=zde hy
     obtain⟨x,hx,rfl⟩:=hfind y h2
     have h3:x.i=i:=h3
     subst h3
     rw [Bool.and_eq_true,Bool.and_eq_true,Bool.not_eq_true'] at h1
     obtain⟨⟨g1,g2,g4⟩,g3⟩:=one x hx h1.1.2 h1.2
     obtain⟨q1,q2,q3,q4,_⟩:=hI x (hJ x hx)
     refine zfy q1 q2 q3 ha ((hc x (hJ x hx) h1.1.1 val hn g2 w' g4).sub g1) ?_
     rintro v w2 ⟨hx2,hv,hh⟩
     have k2:=zbe hh
     exact⟨fun _ _=>((hw.ext (hE.ext k2)).drop j).pick hH hu,g3 v w2 hx2 hv hh _ (ha.put q4)⟩
    . cases h1
 exact key I.length I listed env w (fun _=>undef) (fun _=>[]) (fun _=>0) (fun _=>0) (fun x hx=>hx) hr (Keep.refl _ _) (Sub.refl _) (fun x hx h=>absurd hx h) (fun x hx h=>absurd hx h)
theorem zo7 (A1:Tgs) (hA1:A1.map (fun p=>zdk env p.1)=A1.map (fun p=>jC H p.2)) (hA2:A1.all (fun p=>(jC H p.2).isSome)=true) (h:VD P n Q ks ops Hs B0 L fuel listed env A1 H Bs):VD P n Q ks ops Hs B0 L fuel listed env A H Bs:=fun hH _ w hI=>h hH (TgOk.of hA1 hA2) w hI
end
abbrev Ph:=(Nat->Value)->Value->Hp->Prop
abbrev Psi:=Nat->Ph
def psi:List (Nat × Ph)->Psi
 | [],_=>fun _ _ _=>False
 | (k,f)::r,m=>match Nat.beq k m with
  | true=>f
  | false=>psi r m
def zck (Ψ:Psi) (val:Nat->Value) (hn:Nat->Hp):List Nat->Prop
 | []=>True
 | m::r=>Ψ m val (val m) (hn m)/\zck Ψ val hn r
def ziJ (val:Nat->Value):List Nat->Env->Env
 | [],env=>env
 | m::r,env=>(m,val m)::ziJ val r env
def hpD (hn:Nat->Hp):List Nat->Hp->Hp
 | [],H=>H
 | m::r,H=>hn m++hpD hn r H
theorem zbf (val:Nat->Value) (env:Env):∀ D:List Nat,ziJ val D env=D.map (fun m=>(m,val m))++env
 | []=>rfl
 | m::r=>by rw [ziJ,zbf val env r];rfl
theorem zey (hn:Nat->Hp) (H:Hp):∀ D:List Nat,hpD hn D H=D.flatMap hn++H
 | []=>rfl
 | m::r=>by rw [hpD,zey hn H r,List.flatMap_cons,List.append_assoc]
theorem dpAll_iff {Ψ:Psi} {val:Nat->Value} {hn:Nat->Hp}:∀ {D:List Nat},zck Ψ val hn D ↔ ∀ m ∈ D,Ψ m val (val m) (hn m)
 | []=>by simp [zck]
 | m::r=>by simp only [zck,List.forall_mem_cons];rw [dpAll_iff]
def zbH:List Nat->Bool
 | []=>true
 | x::r=>r.all (fun y=>!Nat.beq x y)&&zbH r
theorem km:∀ {l:List Nat},zbH l=true->l.Nodup
 | [],_=>List.Pairwise.nil
 | x::r,h=>by
  rw [zbH,Bool.and_eq_true,List.all_eq_true] at h
  refine List.nodup_cons.2 ⟨fun hx=>?_,km h.2⟩
  have:=h.1 x hx
  simp [Nat.beq_refl] at this
def zk1 (I:List MK) (env:Env):Bool:=zbH (I.map (·.2.1))&&zbH (I.map (·.1))&&I.all fun x=>(get env x.2.1).isNone&&zbH x.2.2.1&&x.2.2.1.all fun m=>(I.map (·.2.1)).any fun y=>Nat.beq y m
section
variable {P:Program} {n:Nat} {Q:Exit->Act->World->Prop} {ks:List Fr} {env:Env} {A:Tgs} {H Hs:Hp} {Bs B0:zG} {ops:Array Oper} {L:List Nat} {fuel:Nat} {listed:Array Bool} {Ψ:Psi}
def MP (P:Program) (n:Nat) (ops:Array Oper) (env:Env) (H:Hp) (Bs:zG) (Ψ:Psi) (x:MK):Prop:=∃ o,(ops[x.1]?=some o/\o.guard=none/\o.dst=some x.2.1/\Nat.blt x.2.1 n=true)/\(∀ val val' v hx,(∀ m ∈ x.2.2.1,val m=val' m)->Ψ x.2.1 val v hx->Ψ x.2.1 val' v hx) /\
 (x.2.2.2=false->∀ val hn,zck Ψ val hn x.2.2.1->∀ w,VI Bs (hpD hn x.2.2.1 H) w->Does P o (ziJ val x.2.2.1 env) w (fun v w'=>∃ hx,Ψ x.2.1 val v hx/\Hands [] [] hx w w')) /\
 (x.2.2.2=true->∀ val hn,zck Ψ val hn x.2.2.1->∃ v,Ψ x.2.1 val v []/\∀ w,yl P o (ziJ val x.2.2.1 env) w v w)
def MPs (P:Program) (n:Nat) (ops:Array Oper) (env:Env) (H:Hp) (Bs:zG) (Ψ:Psi):List MK->Prop
 | []=>True
 | x::r=>MP P n ops env H Bs Ψ x/\MPs P n ops env H Bs Ψ r
theorem MPs.all:∀ {I:List MK},MPs P n ops env H Bs Ψ I->∀ x ∈ I,MP P n ops env H Bs Ψ x
 | y::r,h,x,hx=>by
  rcases zoz.1 hx with rfl | hx
  . exact h.1
  . exact MPs.all h.2 x hx
theorem zo8 {i d:Nat} {dp:List Nat} {op:Op} {ty:TypeId} {ps:String} {aft:Array Edge} (hi:ops[i]?=some ⟨some d,op,ty,ps,aft,none⟩) (hb:Nat.blt d n=true) (hΦ:∀ val val' v hx,(∀ m ∈ dp,val m=val' m)->Ψ d val v hx->Ψ d val' v hx)
  (hc:∀ val hn,zck Ψ val hn dp->∀ w,VI Bs (hpD hn dp H) w->Does P ⟨some d,op,ty,ps,aft,none⟩ (ziJ val dp env) w (fun v w'=>∃ hx,Ψ d val v hx/\Hands [] [] hx w w')):MP P n ops env H Bs Ψ (i,d,dp,false) :=
 ⟨_,⟨hi,rfl,rfl,hb⟩,hΦ,fun _=>hc,fun h=>by cases h⟩
theorem Does.new {o:Oper} {w:World} {f:Nat->Value} {cs:List Value} {e:TypeId} (K:Nat) (h:yC P o env w (fun u w'=>∃ b,u=f b/\New w cs e b w')):Does P o env w (fun v w'=>∃ hx,(∃ b,v=f b/\hx=[(K,HE.own b cs e)])/\Hands [] [] hx w w'):=by
 obtain⟨v,w',hr,b,rfl,h1,h2,h3,h4⟩:=h
 refine .inl ⟨_,w',hr,_,⟨b,rfl,rfl⟩,h4.mono fun q _ h=>h.elim,fun z hz=>?_,List.pairwise_singleton _ _⟩
 rw [zoB] at hz
 subst hz
 exact⟨h3,trivial,fun _ h=>h,fun q hq=>by have hq:q=b:=hq;exact⟨.inr (by omega),by omega⟩⟩
theorem zo9 (fuel j:Nat) (I:List MK) (Ψ:Psi) (hr:kT ops (zdZ (I.map (·.1)) listed) I.length I listed=true) (hs:zk1 I env=true) (hB:Bs.drop j=B0) (hu:qd (Hs.map (·.1))=true) (hM:MPs P n ops env H Bs Ψ I)
  (h:∀ val hn,zck Ψ val hn (I.map (·.2.1))->Hs.map (fun y=>hget (hpD hn (I.map (·.2.1)) H) y.1)=Hs.map (fun y=>some y.2)/\VD P n Q ks ops Hs B0 L fuel (zdZ (I.map (·.1)) listed) (ziJ val (I.map (·.2.1)) env) [] (hpD hn (I.map (·.2.1)) H) Bs) :
  VD P n Q ks ops Hs B0 L (fuel+I.length) listed env A H Bs:=by
 unfold zk1 at hs
 simp only [Bool.and_eq_true,List.all_eq_true,List.any_eq_true,Option.isNone_iff_eq_none] at hs
 obtain⟨⟨s1,s2⟩,s3⟩:=hs
 let mk:MK->MI:=fun x=>⟨x.1,(ops[x.1]?).getD ⟨none,.nilCheck (.tmp 0),0, "",#[],none⟩,x.2.1,x.2.2.1,x.2.2.2,Ψ x.2.1⟩
 have e1:(I.map mk).map (·.d)=I.map (·.2.1):=by rw [List.map_map];rfl
 have e2:(I.map mk).map (·.i)=I.map (·.1):=by rw [List.map_map];rfl
 have e3:(I.map mk).map MI.key=I:=by rw [List.map_map];exact List.map_id'' (fun x=>rfl) I
 have e4:(I.map mk).length=I.length:=zoD ..
 have hds:∀ x ∈ I,∀ val hn,MI.Ds (I.map mk) (mk x) val hn->zck Ψ val hn x.2.2.1:=fun x hx val hn hD=>dpAll_iff.2 fun m hm=>by
  obtain⟨y,hy,he⟩:=(s3 x hx).2 m hm
  obtain⟨z,hz,rfl⟩:=List.mem_map.1 hy
  have he:=zoq he
  have:=hD (mk z) (List.mem_map.2 ⟨z,hz,rfl⟩) (by show z.2.1 ∈ x.2.2.1;rw [he];exact hm)
  rw [<- he]
  exact this
 rw [<- e4]
 refine zns j (I.map mk) (zdZ (I.map (·.1)) listed) ?_ (by rw [e1];exact km s1) (by rw [e2];exact km s2) ?_ (by rw [e3,e4];exact hr) hB hu ?_ ?_ ?_ ?_
 ·
  intro y hy
  obtain⟨x,hx,rfl⟩:=List.mem_map.1 hy
  obtain⟨o,⟨h1,h2,h3,h4⟩,_⟩:=hM.all x hx
  have ho:(mk x).o=o:=by show (ops[x.1]?).getD _=o;rw [h1];rfl
  refine⟨by rw [ho];exact h1,by rw [ho];exact h2,by rw [ho];exact h3,h4,(s3 x hx).1.1,fun m hm=>?_⟩
  rw [e1]
  obtain⟨z,hz,he⟩:=(s3 x hx).2 m hm
  rw [<- zoq he];exact hz
 ·
  intro y hy
  obtain⟨x,hx,rfl⟩:=List.mem_map.1 hy
  exact km (s3 x hx).1.2
 ·
  intro y hy
  obtain⟨x,hx,rfl⟩:=List.mem_map.1 hy
  obtain⟨o,_,h2,_⟩:=hM.all x hx
  exact h2
 ·
  intro y hy hq val hn hD w hw
  obtain⟨x,hx,rfl⟩:=List.mem_map.1 hy
  obtain⟨o,⟨h1,_⟩,_,h3,_⟩:=hM.all x hx
  have ho:(mk x).o=o:=by show (ops[x.1]?).getD _=o;rw [h1];rfl
  have:=h3 hq val hn (hds x hx val hn hD) w (by rw [zey];exact hw)
  rw [zbf] at this
  rw [ho];exact this
 ·
  intro y hy hq val hn hD
  obtain⟨x,hx,rfl⟩:=List.mem_map.1 hy
  obtain⟨o,⟨h1,_⟩,_,_,h4⟩:=hM.all x hx
  have ho:(mk x).o=o:=by show (ops[x.1]?).getD _=o;rw [h1];rfl
  have:=h4 hq val hn (hds x hx val hn hD)
  rw [zbf] at this
  rw [ho];exact this
 ·
  intro val hn hall
  have:=h val hn (dpAll_iff.2 fun m hm=>by
   obtain⟨x,hx,rfl⟩:=List.mem_map.1 hm
   exact hall (mk x) (List.mem_map.2 ⟨x,hx,rfl⟩))
  rw [zey,zbf] at this
  rw [e1]
  refine⟨this.1,?_⟩
  rw [show (I.map mk).map (fun x=>(x.d,val x.d))=(I.map (·.2.1)).map (fun m=>(m,val m)) by rw [List.map_map,List.map_map];rfl]
  exact this.2
def phA (K:Nat) (cs:List Value) (t:TypeId):Ph:=fun _ v hx=>∃ b,v=.pointer (some ⟨b,0,none⟩)/\hx=[(K,.own b cs t)]
theorem MP.alloc (K:Nat) {i d:Nat} {e:TypeId} {ty:TypeId} {ps:String} {aft:Array Edge} {z:Value} {cs:List Value} (hi:ops[i]?=some ⟨some d,.alloc e,ty,ps,aft,none⟩) (hb:Nat.blt d n=true) (hz:∀ w,(zeroValue e).run P w=.ok z w) (hc:z.cells=cs.toArray) (hΨ:Ψ d=phA K cs e):MP P n ops env H Bs Ψ (i,d,[],false) :=
 zo8 hi hb (fun val val' v hx _ h=>by rw [hΨ] at h ⊢;exact h) fun val hn _ w _=>by rw [hΨ];exact Does.new K (M.alloc hz hc)
theorem zk2 {m:Nat} {v v':Value} {l l':List (Nat × Value)} (h:v=v') (h2:l=l'):(m,v)::l=(m,v')::l':=by rw [h,h2]
theorem zkx {a b c d:Hp} (h:a=b) (h2:c=d):a++c=b++d:=by rw [h,h2]
theorem VD.cast {val:Nat->Value} {hn:Nat->Hp} {D:List Nat} (A1:Tgs) (vals:List (Nat × Value)) (Hn:Hp) (he:D.map (fun m=>(m,val m))=vals) (hh:D.flatMap hn=Hn) (h1:Hs.map (fun y=>hget (Hn++H) y.1)=Hs.map (fun y=>some y.2)) (hA1:A1.map (fun p=>zdk (vals++env) p.1)=A1.map (fun p=>jC (Hn++H) p.2)) (hA2:A1.all (fun p=>(jC (Hn++H) p.2).isSome)=true)
  (h:VD P n Q ks ops Hs B0 L fuel listed (vals++env) A1 (Hn++H) Bs) :
  Hs.map (fun y=>hget (hpD hn D H) y.1)=Hs.map (fun y=>some y.2)/\VD P n Q ks ops Hs B0 L fuel listed (ziJ val D env) [] (hpD hn D H) Bs:=by
 rw [zbf,zey]
 subst he hh
 exact⟨h1,zo7 A1 hA1 hA2 h⟩
end
end Go.GL
namespace Go.Proofs.YtckdhgbepmpgiaaGreat
open Go.GL
abbrev zgU (f:Fl) (s:Sf) (r:Ins) (i n:Nat) (b gb:Nat) (ofv nodv vv hv rv ov:Value) (vl ro:List Int) (rr:Value) (W w':World):Prop:=∃ (x:List Int × List Int × Value),(rr=.int .i64 (yB f r (i+1)).at_/\x.1.length=vl.length/\zg4 f (zh f) s n x.1 (yB f r (i+1)).σ.vals/\x.2.1.length=ro.length/\CtOk f x.2.1 (yB f r (i+1)).rd)/\GBack (rnH b gb ofv nodv vv hv rv ov vl ro (yB f r i).σ.outs (yB f r i).σ.time) (rnH b gb ofv nodv vv hv rv x.2.2 x.1 x.2.1 (yB f r (i+1)).σ.outs (yB f r (i+1)).σ.time) W w'
theorem zk3 {P:Program} {f:FuncId} {args:Array Value} {w:World} {α:Type} {Φ:α->Prop} {E:Hp} {E':α->Hp} (h:Calls P f args w (Ret fun r w'=>r=.tuple #[]/\∃ x,Φ x/\GBack E (E' x) w w')):Calls P f args w (Ret fun r w'=>∃ x,(r=.tuple #[]/\Φ x)/\GBack E (E' x) w w'):=by
 refine Calls.mono h ?_
 rintro e' w' ⟨r,rfl,h1,x,h2,h3⟩
 exact⟨_,rfl,x,⟨h1,h2⟩,h3⟩
theorem zir (f:Fl) (s:Sf) (vd:Valid f) (hR:RightF f (zh f) s (rdV f (zh f))) (r:Ins) (e0:zB f.vars r=0) (K:Nat) (hg:GoesAll f r K) (i:Nat) (hi:i<K) (n:Nat) (x:Nd) (hw:OnWalk f r K i n x) (vl ro:List Int) (hvl:vl.length=s.of_.length) (hrl:ro.length=(zh f).length) (hInv:InvV f (zh f) s n vl (yB f r i).σ.vals) (hro:CtOk f ro (yB f r i).rd)
  (b gb:Nat) (ofv nodv vv hv rv ov:Value) (D Dh:Nat->Prop) (W:World) (hDb:∀ q,D q\/Dh q->q<W.heap.size) (hE:zka (rnH b gb ofv nodv vv hv rv ov vl ro (yB f r i).σ.outs (yB f r i).σ.time) W) (hS:RSf D W s ofv nodv) (hG:GrO D W f (zh f) gb) (hh:SlR 1 yj Dh W hv (zY f r)) (hlow:∀ q,HS (rnH b gb ofv nodv vv hv rv ov vl ro (yB f r i).σ.outs (yB f r i).σ.time) q->¬ D q) (hlow2:∀ q,HS (rnH b gb ofv nodv vv hv rv ov vl ro (yB f r i).σ.outs (yB f r i).σ.time) q->¬ Dh q) :
  Calls Tryz.prog 48 #[.pointer (some ⟨b,0,none⟩),.int .i64 n] W (Ret fun rr w'=>zgU f s r i n b gb ofv nodv vv hv rv ov vl ro rr W w'):=by
 have hnl:=(zox.1 hw.nd).1
 have hx:=hw.nd
 obtain⟨hgo,hkk⟩:=hw.go hi
 have hMI:=zgh vd e0 hg i (by omega)
 have hV:=hMI.inv
 have ht:=hMI.time
 have hol:=hMI.outs
 have hrb:=hMI.rd x.at_
 have hK:=(zjj vd hg).2
 have hl:=vd.lens
 have hss:=vd.ssize
 have hcl:=yz f vd.plain
 have hwl:=yU f.body
 have hndx:xF (zh f) n=x:=xd hx
 have hpass:zdG f x=false->zg4 f (zh f) s n vl (yB f r i).σ.vals:=fun ha=>zcj vd hR hx hV hInv [] ha
 have hnk:x.kind ≠ 2->zdG f x=false:=fun h=>by unfold zdG;rw [zow h,Bool.false_and]
 obtain⟨v1,v2,v3,gv,sv,pv,hD,hcell,hf,hgs,hsts,_⟩:=id hG
 obtain⟨ag,cg,rfl⟩:=hgs.form
 obtain⟨as1,cs1,rfl⟩:=hsts.form
 have hgmx:=hgs.max
 have hmlen:((zh f).map (stN f)).length=(zh f).length:=zoD _
 have hmget:((zh f).map (stN f))[n]?=some (stN f x):=by rw [zoA,hx];rfl
 have hhl:(zY f r).length=f.hatches.length:=by simp [zhD]
 unfold zgU at *
 rw [hgo]
 generalize hm:yB f r i=m at *
 generalize hgm:(zh f).map (stN f)=gm at *
 obtain⟨at_,σ,rd⟩:=m
 dsimp only at *
 refine zmv Tryz.func48 O Tryz.ntmps48 O (znP [(900,.own b [.pointer (some ⟨gb,0,none⟩),ofv,nodv,vv,hv,rv,ov,.int .i64 σ.time] 107),(901,.row 3 1 vv vl.length (vl.map zc)),(902,.row 3 1 rv ro.length (ro.map zc)),(903,.row 3 1 ov σ.outs.length (σ.outs.map zc))] hE.1 hE.2 ?_)
 refine znb 904 0 O O (fun h=>hlow _ h hD) hcell ?_
 refine zmL 0 900 0 O O ?_
 refine zmU 902 O (by omega) ?_
 rintro br cr rfl hcap_902
 refine Vs 6 O ?_
 obtain⟨x2,he_x2,hm_x2⟩:=gE_ (zh f) (n) (by omega)
 obtain⟨b_x2,o_x2,c_x2,ha_x2,hd_x2,hc_x2,hR_x2⟩:=hgs.atD he_x2
 obtain rfl:=hR_x2
 refine znb 1000 0 O O (fun h_=>by have h1_:=hlow _ h_;have h2_:=hd_x2;first | omega | exact h1_ h2_) hc_x2 ?_
 obtain rfl:x2=x:=Option.some.inj (he_x2.symm.trans hx)
 obtain⟨st,he_st,hm_st⟩:=gE_ gm (n) (by omega)
 obtain⟨b_st,o_st,c_st,ha_st,hd_st,hc_st,hR_st⟩:=hsts.atD he_st
 obtain⟨v1_st,v2_st,v3_st,v4_st,rfl,hk_st,ht_st,hs_st,hb_st⟩:=hR_st.get
 obtain⟨a1_st,n1_st,rfl⟩:=hk_st.form
 obtain⟨a2_st,n2_st,rfl⟩:=ht_st.form
 obtain⟨a3_st,n3_st,rfl⟩:=hs_st.form
 obtain⟨a4_st,n4_st,rfl⟩:=hb_st.form
 refine znb 2000 0 O O (fun h_=>by have h1_:=hlow _ h_;have h2_:=hd_st;first | omega | exact h1_ h2_) hc_st ?_
 have hst:st=stN f x2:=Option.some.inj (he_st.symm.trans hmget)
 refine Vw [900,904,1000,2000] [] O ?_
 refine Vd [0,1,2,3] 0 (by kernel_rfl) O O O ?_
 refine zmM 10 904 0 O O ?_
 refine Vd [4,5,6,7,10,11,12,13] 0 (by kernel_rfl) O O O ?_
 refine zmM 20 904 0 O O ?_
 refine Vd [14,15,16,17] 0 (by kernel_rfl) O O O ?_
 refine zmO 8 1000 tR34 ts65 O (by kernel_rfl) O ha_x2 (by omega) (_) (rfl) O ?_
 refine Vd [9] 0 (by kernel_rfl) O O O ?_
 refine zmO 18 2000 tR24 ts72 O (by kernel_rfl) O ha_st (by omega) (_) (rfl) O ?_
 refine Vd [19] 0 (by kernel_rfl) O O O ?_
 refine zo9 2 0 [(20,5,[],false),(21,6,[],false)] (psi [(5,phA 5 [Value.int IntKind.i64 0,Value.int IntKind.i64 0,Value.int IntKind.i64 0,Value.int IntKind.i64 0] 65),(6,phA 6 [Value.int IntKind.i64 0,Value.int IntKind.i64 0,Value.int IntKind.i64 0,Value.int IntKind.i64 0,Value.int IntKind.i64 0,Value.int IntKind.i64 0,Value.slice none 0 0,Value.slice none 0 0,Value.slice none 0 0,Value.slice none 0 0] 72)]) (by kernel_rfl) (by kernel_rfl) O O ⟨?_,?_,True.intro⟩ ?_
 . exact MP.alloc 5 O O tz65 O O
 . exact MP.alloc 6 O O tz72 O O
 rintro val hn ⟨⟨b5,e5,n5⟩,⟨b6,e6,n6⟩,_⟩
 refine VD.cast [(0,some (900,0)),(7,some (900,0)),(8,some (900,0)),(9,some (900,0)),(10,some (904,0)),(11,some (904,0)),(12,some (904,3)),(15,some (1000,0)),(17,some (900,0)),(18,some (900,0)),(19,some (900,0)),(20,some (904,0)),(21,some (904,0)),(22,some (904,4)),(25,some (2000,0)),(5,some (5,0)),(6,some (6,0))] _ _ (zk2 e5 (zk2 e6 (rfl))) (zkx n5 (zkx n6 (rfl))) O O O ?_
 clear n5 n6
 have hat:x2.kind ≠ 0->0<=x2.at_/\(preL f.body)[x2.at_.toNat]?=some (zU f x2.at_)/\stN f x2=zU f x2.at_:=fun h0=>by
  have h1:=(vd.gOk n x2 hx)
  have h2:=(vd.ends hx).1
  have h3:0<=x2.at_:=by
   by_cases h:x2.at_<0
   . have:=h2 h;rcases hkk with h | h | h | h | h <;> omega
   . omega
  exact⟨h3,jW h3 ((vd.ends hx).2 h3),by unfold stN;rw [zou h3]⟩
 have hterm:rdB f x2=true->x2.kind ≠ 0->∀ t:Int,∀ rl:List Int,∀ w,Keep (HS (rnH b gb ofv nodv vv hv (.slice (some ⟨br,0,none⟩) ro.length cr) ov vl ro σ.outs σ.time)) W w->Cells w b 0 (rnr gb ofv nodv vv hv (.slice (some ⟨br,0,none⟩) ro.length cr) ov (.int .i64 t))->w.ownsRow 0 3 1 vv vl.length (vl.map zc)->Calls Tryz.prog 92 #[.pointer (some ⟨b,0,none⟩),.int .i64 n] w (Ret fun r w'=>r=.int .i64 (xZ σ.vals st.term)/\Ext w w'):=fun hrd k0 t rl w hk hc hv=>by
  obtain⟨h1,h2,h3⟩:=hat k0
  have h4:=zet f (zh f) s vd.good hR n hnl (by rw [hndx,h3];exact (vd.step _ (zok h2)).1) (by rw [hndx];exact h1) (by rw [hndx];exact hrd) (by omega) (by omega) vl σ.vals hV hInv b gb _ _ _ _ _ _ _ D D (fun _=>True) w hc (hS.keep hk fun q hq _ h=>hlow q h hq) (hG.keep hk fun q hq _ h=>hlow q h hq) (zlM zc (fun _ _=>rfl) hv (fun _ _=>trivial))
  rw [hndx,<- hst] at h4
  exact h4
 refine Ve 22 0 O (by kernel_rfl) O O O ?_
 refine Ve 23 0 O (by kernel_rfl) O O O ?_
 refine VD.done (by kernel_rfl) ?_
 refine Vs 15 O ?_
 refine zkG O (fun k4=>?_) (fun k4=>?_)
 ·
  obtain⟨g0,y,hy,hky,hya⟩:=(vd.part hx).2.1 k4
  have hyl:=(zox.1 hy).1
  have hp:yK f (zY f r) x2 (zU f x2.at_) σ rd=(x2.next,σ,zcn rd x2.at_ 0):=by unfold yK;rw [zot (by omega),zot (by omega),zou k4]
  rw [hp]
  have hct:=hro.set vd hrl hy hky 0
  rw [hya] at hct
  refine Vs 1 O ?_
  refine Vw [900,904,1000,2000,5,6] [] O ?_
  refine Vb [0,1,2,3,4,5,6] 0 (by kernel_rfl) O O O (by omega) ?_
  refine zmY 7 902 0 (x2.next.toNat) ts3 O (by kernel_rfl) O O (by omega) (by simp;omega) ?_
  refine VD.done (by kernel_rfl) ?_
  refine Vs 2 O ?_
  refine znc 902 O (e':=.row 3 1 (.slice (some ⟨br,0,none⟩) ro.length cr) (ro.set x2.next.toNat 0).length ((ro.set x2.next.toNat 0).map zc)) (by rw [List.map_set,List.length_set] <;> rfl) ?_
  refine Vs 9 O ?_
  refine zkW tr48 O (fun w hI=>⟨_,rfl,(vl,ro.set x2.next.toNat 0,ov),⟨rfl,rfl,hpass (hnk (by omega)),List.length_set,hct⟩,hI.back 0 O O O rfl⟩)
 ·
  refine Vs 6 O ?_
  refine zkG O (fun k5=>?_) (fun k5=>?_)
  ·
   obtain⟨h1,h2,h3⟩:=hat (by omega)
   have hc0:=hro n x2 hx k5
   have hN:=((vd.step _ (zok h2)).2.2 ((vd.part hx).2.2 k5))
   have hcost:=(vd.step _ (zok h2)).1.cost
   obtain rfl:st=zU f x2.at_:=hst.trans h3
   refine Vs 2 O ?_
   refine Vq (by kernel_rfl) ?_
   refine Va 6 O (by omega) ?_
   refine V.rlQ 902 (n) tg3 O (by omega) (show _=some (Value.int .i64 (rd x2.at_)) by rw [zoA,hc0];rfl) ?_
   refine Vs 5 O ?_
   refine zkG O (fun c=>?_) (fun c=>?_)
   ·
    have hp:yK f (zY f r) x2 (zU f x2.at_) σ rd=(x2.other,σ,rd):=by unfold yK;rw [zot (by omega),zot (by omega),zot k4,zou ⟨k5,c⟩]
    rw [hp]
    refine Vs 11 O ?_
    refine zkW tr48 O (fun w hI=>⟨_,rfl,(vl,ro,ov),⟨rfl,rfl,hpass (hnk (by omega)),rfl,hro⟩,hI.back 0 O O O rfl⟩)
   ·
    have hp:yK f (zY f r) x2 (zU f x2.at_) σ rd=(if xZ σ.vals (zU f x2.at_).term ≠ 0 then x2.next else x2.other,{ σ with time:=σ.time+(zU f x2.at_).cost },zcn rd x2.at_ (rd x2.at_+1)):=by unfold yK;rw [zot (by omega),zot (by omega),zot k4,zot (fun h=>c h.2),zou k5]
    rw [hp]
    have hct:=hro.set vd hrl hx k5 (rd x2.at_+1)
    have hrd:rdB f x2=true:=by unfold rdB;simp [k5]
    refine Va 10 O (by omega) ?_
    refine zmW 902 (n) tg3 O (by omega) (show _=some (Value.int .i64 (rd x2.at_)) by rw [zoA,hc0];rfl) ?_
    refine Va 2 O (by omega) ?_
    refine zmX 902 (n) ts3 O (by omega) (by simp;omega) ?_
    refine znc 902 O (e':=.row 3 1 (.slice (some ⟨br,0,none⟩) ro.length cr) (ro.set n (rd x2.at_+1)).length ((ro.set n (rd x2.at_+1)).map zc)) (by rw [List.map_set,List.length_set] <;> rfl) ?_
    refine Vs 3 O ?_
    refine Vw [900,904,1000,2000,5,6] [11] O ?_
    refine Vb [0,1,2,3,4,5,6,7,8,9,10] 0 (by kernel_rfl) O O O (by omega) ?_
    refine Vl 11 O (by kernel_rfl) O ?_
    refine VDx.done (by kernel_rfl) ?_
    refine Vs 6 O ?_
    refine zmZ Tryz.call92 O (fun w hI=>hterm hrd (by omega) _ ro w hI.k0 (hI.at 900 O).cells (hI.at 901 O)) ?_
    refine Vs 3 O ?_
    refine zkG O (fun z=>?_) (fun z=>?_)
    ·
     rw [zot (zoG z)]
     refine Vs 11 O ?_
     refine zkW tr48 O (fun w hI=>⟨_,rfl,(vl,ro.set n (rd x2.at_+1),ov),⟨rfl,rfl,hpass (hnk (by omega)),List.length_set,hct⟩,hI.back 0 O O O rfl⟩)
    ·
     rw [zou z]
     refine Vs 12 O ?_
     refine zkW tr48 O (fun w hI=>⟨_,rfl,(vl,ro.set n (rd x2.at_+1),ov),⟨rfl,rfl,hpass (hnk (by omega)),List.length_set,hct⟩,hI.back 0 O O O rfl⟩)
  ·
   refine Vs 6 O ?_
   refine zkG O (fun k3=>?_) (fun k3=>?_)
   ·
    obtain⟨h1,h2,h3⟩:=hat (by omega)
    have hcost:=(vd.step _ (zok h2)).1.cost
    obtain rfl:st=zU f x2.at_:=hst.trans h3
    have hp:yK f (zY f r) x2 (zU f x2.at_) σ rd=(if xZ σ.vals (zU f x2.at_).term ≠ 0 then x2.next else x2.other,{ σ with time:=σ.time+(zU f x2.at_).cost },rd):=by unfold yK;rw [zot (by omega),zot (by omega),zot k4,zot (fun h=>k5 h.1),zot k5]
    rw [hp]
    have hrd:rdB f x2=true:=by unfold rdB;simp [k3]
    refine Vs 1 O ?_
    refine Vw [900,904,1000,2000,5,6] [11] O ?_
    refine Vb [0,1,2,3,4,5,6,7,8,9,10] 0 (by kernel_rfl) O O O (by omega) ?_
    refine Vl 11 O (by kernel_rfl) O ?_
    refine VDx.done (by kernel_rfl) ?_
    refine Vs 6 O ?_
    refine zmZ Tryz.call92 O (fun w hI=>hterm hrd (by omega) _ ro w hI.k0 (hI.at 900 O).cells (hI.at 901 O)) ?_
    refine Vs 3 O ?_
    refine zkG O (fun z=>?_) (fun z=>?_)
    ·
     rw [zot (zoG z)]
     refine Vs 11 O ?_
     refine zkW tr48 O (fun w hI=>⟨_,rfl,(vl,ro,ov),⟨rfl,rfl,hpass (hnk (by omega)),rfl,hro⟩,hI.back 0 O O O rfl⟩)
    ·
     rw [zou z]
     refine Vs 12 O ?_
     refine zkW tr48 O (fun w hI=>⟨_,rfl,(vl,ro,ov),⟨rfl,rfl,hpass (hnk (by omega)),rfl,hro⟩,hI.back 0 O O O rfl⟩)
   ·
    refine Vs 6 O ?_
    refine zkG O (fun k2=>?_) (fun k2=>?_)
    ·
     obtain⟨h1,h2,h3⟩:=hat (by omega)
     have hcost:=(vd.step _ (zok h2)).1.cost
     obtain rfl:st=zU f x2.at_:=hst.trans h3
     have hp:yK f (zY f r) x2 (zU f x2.at_) σ rd=(x2.next,xJ f (zY f r) (zU f x2.at_) σ,rd):=by unfold yK;rw [zot (by omega),zou k2]
     rw [hp]
     refine Vs 1 O ?_
     refine Vw [900,904,1000,2000,5,6] [11] O ?_
     refine Vb [0,1,2,3,4,5,6,7,8,9,10] 0 (by kernel_rfl) O O O (by omega) ?_
     refine Vl 11 O (by kernel_rfl) O ?_
     refine VDx.done (by kernel_rfl) ?_
     refine Vs 5 O ?_
     refine znQ [900,901,902,903] (Hn:=fun y:List Int × Value=>[(900,.own b [.pointer (some ⟨gb,0,none⟩),ofv,nodv,vv,hv,.slice (some ⟨br,0,none⟩) ro.length cr,y.2,.int .i64 (xJ f (zY f r) (zU f x2.at_) σ).time] 107),(901,.row 3 1 vv y.1.length (y.1.map zc)),(902,.row 3 1 (.slice (some ⟨br,0,none⟩) ro.length cr) ro.length (ro.map zc)),(903,.row 3 1 y.2 (xJ f (zY f r) (zU f x2.at_) σ).outs.length ((xJ f (zY f r) (zU f x2.at_) σ).outs.map zc))]) [(0,some (900,0)),(5,some (5,0)),(6,some (6,0)),(7,some (900,0)),(8,some (900,0)),(9,some (900,0)),(10,some (904,0)),(11,some (904,0)),(12,some (904,3)),(15,some (1000,0)),(17,some (900,0)),(18,some (900,0)),(19,some (900,0)),(20,some (904,0)),(21,some (904,0)),(22,some (904,4)),(25,some (2000,0)),(27,some (5,0)),(105,some (900,0)),(106,some (900,0)),(107,some (900,6)),(108,some (900,7)),(110,some (6,1)),(113,some (900,0)),(114,some (900,6)),(115,some (900,7)),(116,some (900,0))] Tryz.call93 O (fun _ _=>rfl) (fun _=>rfl) (fun w hI=>zdR O O (zk3 (zjt f s vd hR (zY f r) hhl n x2 hx k2 σ hV (by omega) vl ro hvl hInv b gb ofv nodv vv hv _ ov D Dh w (hI.held O O O) (hS.keep hI.k0 fun q hq _ h=>hlow q h hq) (hG.keep hI.k0 fun q hq _ h=>hlow q h hq) (hh.keep ze hI.k0 fun q hq _ h=>hlow2 q h hq) (hI.offE 0 O O (fun q h=>hDb q (.inl h)) hlow) (hI.offE 0 O O (fun q h=>hDb q (.inr h)) hlow2) _ _ _ _ _ _ _ _ (hb_st.keep ze hI.k0 fun q hq _ h=>hlow q h hq)))) ?_
     rintro _ ⟨vl',ov'⟩ ⟨rfl,hl',hpre⟩
     refine Vs 11 O ?_
     refine zkW tr48 O (fun w hI=>⟨_,rfl,(vl',ro,ov'),⟨rfl,hl',hpre,rfl,hro⟩,hI.back 0 O O O rfl⟩)
    ·
     have k0:x2.kind=0:=by omega
     have hp:yK f (zY f r) x2 (zU f x2.at_) σ rd=(x2.next,σ,rd):=by unfold yK;rw [zou k0]
     rw [hp]
     refine Vs 11 O ?_
     refine zkW tr48 O (fun w hI=>⟨_,rfl,(vl,ro,ov),⟨rfl,rfl,hpass (hnk (by omega)),rfl,hro⟩,hI.back 0 O O O rfl⟩)
end Go.Proofs.YtckdhgbepmpgiaaGreat
namespace Go.GL
abbrev MIP (m:Nat) (l:List (Int × Value)):HE:=.res (fun q=>q=m) (fun w=>MapI w m l)
abbrev MEP (m:Nat) (l:List (Int × Value)) (k:Int) (st:Nat):HE:=.res (fun q=>q=m) (fun w=>MapE w m l k st)
theorem MapE.lt {w:World} {m st:Nat} {k:Int} {l:List (Int × Value)} (h:MapE w m l k st):m<w.heap.size:=h.map.lt
theorem MIP.loc {m:Nat} {l:List (Int × Value)}:(MIP m l).loc:=fun w w' T h hk hT=>by
 have h:MapI w m l:=h
 exact h.keep hk (hT m h.lt O)
theorem MEP.loc {m st:Nat} {k:Int} {l:List (Int × Value)}:(MEP m l k st).loc:=fun w w' T h hk hT=>by
 have h:MapE w m l k st:=h
 exact h.keep hk (hT m h.lt O)
section
variable {P:Program} {env:Env} {w:World} {dst:Option Tmp} {ty:TypeId} {pos:String} {aft:Array Edge} {g:Option (Nat × Bool)} {t kt et:TypeId} {m:Nat} {l:List (Int × Value)}
theorem zoa:yC P ⟨dst,.makeMap t none,ty,pos,aft,g⟩ env w (fun u w'=>∃ b,u=.map (some b)/\MapI w' b []/\Ext w w'/\∀ q,q=b->w.heap.size<=q/\q<w'.heap.size):=by
 obtain⟨u,w',h0,b,h1,h2,h3,h4,h5⟩:=M.makeMap (P:=P) (env:=env) (w:=w) (dst:=dst) (ty:=ty) (pos:=pos) (aft:=aft) (g:=g) (t:=t)
 exact⟨u,w',h0,b,h1,h4,h5,fun q hq=>by omega⟩
theorem zob {x y u:Operand} {k:Int} {v:Value} {l':List (Int × Value)} (h:MapI w m l) (ht:P.underlying t=some (.map kt et)) (hk:P.underlying kt=some (.int .i64)) (hx:ev env x=some (.map (some m))) (hy:ev env y=some (.int .i64 k)) (hu:ev env u=some v) (hl:zfi l k v=l') :
  xB P ⟨dst,.insert t x y u,ty,pos,aft,g⟩ env w (fun w'=>MapI w' m l'/\Keep (fun q=>q=m) w w'/\∀ q,q=m->(q=m\/w.heap.size<=q)/\q<w'.heap.size):=by
 subst hl
 obtain⟨w',h0,h1,h2,h3⟩:=M.insert (dst:=dst) (ty:=ty) (pos:=pos) (aft:=aft) (g:=g) h ht hk hx hy hu
 exact⟨w',h0,h1,h2,fun q hq=>⟨.inl hq,by have:=h1.lt;omega⟩⟩
theorem zoc {x y:Operand} {k:Int} {z v:Value} (h:MapI w m l) (hv:(ziA l k).getD z=v) (ht:P.underlying t=some (.map kt et)) (hk:P.underlying kt=some (.int .i64)) (hz:∀ w,(zeroValue et).run P w=.ok z w) (hx:ev env x=some (.map (some m))) (hy:ev env y=some (.int .i64 k)) :
  yl P ⟨dst,.lookup t x y false,ty,pos,aft,g⟩ env w v w:=hv ▸ znt h ht hk hz hx hy
theorem zod {x y:Operand} {k:Int} {v:Value} (h:MapI w m l) (hv:ziA l k=some v) (ht:P.underlying t=some (.map kt et)) (hk:P.underlying kt=some (.int .i64)) (hx:ev env x=some (.map (some m))) (hy:ev env y=some (.int .i64 k)) :
  yC P ⟨dst,.mapEntry t x y,ty,pos,aft,g⟩ env w (fun u w'=>∃ st:Nat,u=.tuple #[v,.int .i64 st]/\MapE w' m l k st/\Keep (fun q=>q=m) w w'/\∀ q,q=m->(q=m\/w.heap.size<=q)/\q<w'.heap.size):=by
 obtain⟨u,w',h0,st,h1,h2,h3,h4⟩:=M.mapEntry (dst:=dst) (ty:=ty) (pos:=pos) (aft:=aft) (g:=g) h hv ht hk hx hy
 exact⟨u,w',h0,st,h1,h2,h3,fun q hq=>⟨.inl hq,by have:=h2.lt;omega⟩⟩
theorem zoe {x y u:Operand} {k:Int} {st:Nat} {v:Value} {l':List (Int × Value)} (h:MapE w m l k st) (hx:ev env x=some (.map (some m))) (hy:ev env y=some (.int .i64 st)) (hu:ev env u=some v) (hl:zfi l k v=l') :
  xB P ⟨dst,.entryStore t x y u,ty,pos,aft,g⟩ env w (fun w'=>MapI w' m l'/\Keep (fun q=>q=m) w w'/\∀ q,q=m->(q=m\/w.heap.size<=q)/\q<w'.heap.size):=by
 subst hl
 obtain⟨w',h0,h1,h2,h3⟩:=M.entryStore (dst:=dst) (ty:=ty) (pos:=pos) (aft:=aft) (g:=g) (t:=t) h hx hy hu
 exact⟨w',h0,h1,h2,fun q hq=>⟨.inl hq,by have:=h1.lt;omega⟩⟩
end
end Go.GL
namespace Go.Proofs.YtckdhgbepmpgiaaGreat
open Go.GL
def zcl (q:Int->Value):List (Int × Value):=[(1,q 1),(2,q 2),(3,q 3)]
theorem zdg {q:Int->Value} {k:Int} (hk:1<=k/\k<=3):ziA (zcl q) k=some (q k):=by
 rcases (show k=1\/k=2\/k=3 by omega) with rfl | rfl | rfl <;> rfl
theorem zgV {q:Int->Value} {k:Int} {u:Value} (hk:1<=k/\k<=3):zfi (zcl q) k u=zcl (fun j=>if j=k then u else q j):=by
 rcases (show k=1\/k=2\/k=3 by omega) with rfl | rfl | rfl <;> rfl
theorem zis (f:Fl) (r:Ins) (v1 v2 v3 s1 s2 s3:Value) (D:Nat->Prop) (W:World) (hf:RFl D W f v1 v2 v3) (hi1:SlR 1 yj D W s1 r.secret) (hi2:SlR 1 yj D W s2 r.pub) (hi3:SlR 1 yj D W s3 r.random) (hkd:∀ v ∈ f.vars,0<=v.kind/\v.kind<=3) (hlen:f.vars.length<=1000) (hb:∀ k,(xr r k).length<=1000000000) :
  Calls Tryz.prog 44 #[.agg #[v1,v2,v3],.agg #[s1,s2,s3]] W (Ret fun rr w'=>(∃ u,rr=.tuple #[u,.int .i64 (zB f.vars r)]/\(zB f.vars r=0->SlR 1 yj (fun b=>W.heap.size<=b) w' u (zF f.vars r)))/\Ext W w'):=by
 have hvs:=hf.vars
 obtain⟨av,cv,rfl⟩:=hvs.form
 have hmx:=hvs.max
 refine zmv Tryz.func44 O Tryz.ntmps44 O (zmE ?_)
 refine Vs 2 O ?_
 refine V.box 2 O O (fun b2=>?_)
 refine V.box 3 O O (fun b3=>?_)
 refine Vs 6 O ?_
 refine znT 901 (E:=fun m=>MIP m []) (u:=fun m=>.map (some m)) O (fun _=>⟨MIP.loc,fun _ h=>h⟩) (fun w hI=>zoa) (fun m901=>?_)
 refine Vs 2 O ?_
 refine znv 901 (e':=MIP m901 [(1,s1)]) O (MIP.loc) (fun _ h=>h) (fun w hI=>zob (hI.at 901 O) tu156 tu100 O O O O) ?_
 refine Vs 2 O ?_
 refine znv 901 (e':=MIP m901 [(1,s1),(2,s2)]) O (MIP.loc) (fun _ h=>h) (fun w hI=>zob (hI.at 901 O) tu156 tu100 O O O O) ?_
 refine Vs 2 O ?_
 refine znv 901 (e':=MIP m901 [(1,s1),(2,s2),(3,s3)]) O (MIP.loc) (fun _ h=>h) (fun w hI=>zob (hI.at 901 O) tu156 tu100 O O O O) ?_
 refine Vs 5 O ?_
 refine zmR 902 3 1 O ?_
 refine Vs 19 O ?_
 refine znd (σ:=Nat × StS × (Int->Value) × Bool × Value) [6,22,23] [] [] O (fun e ⟨i,s,q,o,u⟩=>(7,u)::(8,.bool o)::(24,.int .i64 i)::e) (fun e ⟨i,s,q,o,u⟩=>(901,MIP m901 (zcl q))::(902,.row 3 1 u s.vals.length (s.vals.map zc))::e) (fun⟨i,s,q,o,u⟩=>i<=f.vars.length/\(f.vars.take i).foldl (zw r) (some ⟨[],0,0,0⟩)=some s/\LeftOk D W r s q/\o=((f.vars.take i).zip s.vals).all inB) (fun⟨i,s,q,o,u⟩=>f.vars.length - i) ((0,⟨[],0,0,0⟩,fun k=>if k=1 then s1 else if k=2 then s2 else s3,true,.slice none 0 0)) (Sub.of O) (Has.of O) (fun _=>rfl) (fun _=>rfl) (fun _=>rfl) (⟨zoy _,rfl,fun k h1 h3=>by rcases (show k=1\/k=2\/k=3 by omega) with rfl | rfl | rfl <;> assumption,rfl⟩) ?_
 rintro⟨i,s,q,o,u⟩ ⟨hi,hS,hL,ho⟩
 show V _ _ _ _ _ ((7,u)::(8,.bool o)::(24,.int .i64 i)::_) _ ((901,MIP m901 (zcl q))::(902,.row 3 1 u s.vals.length (s.vals.map zc))::_) _
 refine Vs 6 O ?_
 refine zkG O (fun hlt=>?_) (fun hlt=>?_)
 ·
  refine Vs 6 O ?_
  obtain⟨x,he_x,hm_x⟩:=gE_ f.vars (i) (by omega)
  obtain⟨b_x,o_x,c_x,ha_x,_,hc_x,hR_x⟩:=hvs.at he_x
  obtain rfl:=hR_x
  refine zna 1000 0 O O hc_x ?_
  refine zmN 1000 tR22 ts142 O ha_x (by omega) (_) (rfl) O ?_
  obtain⟨hlv,_⟩:=zbw i s hi hS
  have hkx:=hkd x hm_x
  refine Vs 1 O ?_
  refine V.alloc 10 tz142 O O (fun b10=>?_)
  refine Vs 11 O ?_
  refine zne (σ:=Int × (Int->Value) × StS) [6,7,8,10,22,23,24] [10,902] [10] O (fun e ⟨n,q',s'⟩=>(11,.int .i64 n)::e) (fun e ⟨n,q',s'⟩=>(901,MIP m901 (zcl q'))::e) (fun⟨n,q',s'⟩=>zw r (some s) x=some s'/\s'.vals=s.vals++[n]/\LeftOk D W r s' q') (fun _=>rfl) (fun _=>rfl) ?_ ?_
  ·
   refine Vs 7 O ?_
   refine zkG O (fun hk=>?_) (fun hk=>?_)
   ·
    have hk3:1<=x.kind/\x.kind<=3:=by omega
    obtain⟨rest,hrest⟩:∃ rest,rest=(xr r x.kind).drop (kR s x.kind):=⟨_,rfl⟩
    have hq:=hL x.kind hk3.1 hk3.2
    rw [<- hrest] at hq
    obtain⟨aq,cq,hqf⟩:=hq.form
    rw [hqf] at hq
    have hg0:=zhF hk3 hrest.symm
    refine Vs 5 O ?_
    refine zml O (fun w hI=>zoc (v:=.slice aq rest.length cq) (hI.at 901 O) (by rw [zdg hk3,hqf];rfl) tu156 tu100 tz27 O O) ?_
    refine Vs 11 O ?_
    refine zkG O (fun z=>?_) (fun z=>?_)
    ·
     have hn:(f.vars.take (i+1)).foldl (zw r) (some ⟨[],0,0,0⟩)=none:=by
      rw [zd he_x,List.foldl_append,hS]
      exact zg9 hk3 (by rw [hg0,zoH (by omega)])
     have h1:zB f.vars r=1:=by unfold zB;rw [zdE hn]
     refine Vs 15 O ?_
     refine zkZ tr44 O O (fun w hI=>⟨_,rfl,⟨_,by rw [h1],fun h=>by rw [h1] at h;cases h⟩,hI.k0⟩)
    ·
     obtain⟨y,he_y,hm_y⟩:=gE_ rest (0) (by omega)
     obtain⟨b_y,o_y,c_y,ha_y,_,hc_y,hR_y⟩:=hq.at he_y
     obtain rfl:=hR_y
     refine zna 2000 0 O O hc_y ?_
     have hy0:(xr r x.kind)[kR s x.kind]?=some y:=by rw [hg0,he_y]
     refine Vs 2 O ?_
     refine Vw [1000,10,2000] [9] O ?_
     refine Vd [0,1,2,3,6] 0 (by kernel_rfl) O O O ?_
     refine zmO 4 2000 tR27 ts3 O (by kernel_rfl) O ha_y (by omega) (_) (rfl) O ?_
     refine Vd [5,8] 0 (by kernel_rfl) O O O ?_
     refine znj 7 O (by kernel_rfl) O (fun w=>zlk tR27 ts3 O O (by omega)) ?_
     refine zo2 9 901 0 (E':=fun st=>MEP m901 (zcl q) x.kind st) (r:=fun st=>.tuple #[q x.kind,.int .i64 st]) O (by kernel_rfl) O O (fun _=>⟨MEP.loc,fun _ h=>h⟩) (fun w hI=>zod (hI.at 901 O) (zdg hk3) tu156 tu100 O O) (fun st=>?_)
     refine Vd [10] 0 (by kernel_rfl) O O O ?_
     refine znw 11 901 0 (e':=MIP m901 (zcl fun j=>if j=x.kind then (.slice (if cq=1 then aq else aq.map (·.add (1*1))) (rest.length - 1) (cq - 1)) else q j)) O (by kernel_rfl) O O (MIP.loc) (fun _ h=>h) (fun w hI=>zoe (hI.at 901 O) O O O (zgV hk3)) ?_
     refine VD.done (by kernel_rfl) ?_
     refine zkT (⟨y,fun j=>if j=x.kind then (.slice (if cq=1 then aq else aq.map (·.add (1*1))) (rest.length - 1) (cq - 1)) else q j,zbk s x.kind y⟩) (Sub.of O) (Has.of O) (⟨zhG hk3 hy0,zeL _ _ _,hL.next hk3 hrest hq (by omega)⟩) 0 O O
   ·
    refine Vs 1 O ?_
    refine zkT (⟨x.init,q,⟨s.vals++[x.init],s.a,s.b,s.c⟩⟩) (Sub.of O) (Has.of O) (⟨zg8 (by omega),rfl,hL⟩) 0 O O
  rintro⟨n,q',s'⟩ ⟨hst,hvl,hL'⟩
  show V _ _ _ _ _ ((11,.int .i64 n)::_) _ ((901,MIP m901 (zcl q'))::_) _
  refine Vs 2 O ?_
  refine zne (σ:=Bool) [6,7,11,22,23,24] [901,902] [] O (fun e o'=>(8,.bool o')::e) (fun e o'=>e) (fun o'=>o'=(o&&inB (x,n))) (fun _=>rfl) (fun _=>rfl) ?_ ?_
  ·
   refine Vs 3 O ?_
   refine V.sb 51 O (fun b1=>?_) (fun b1=>?_)
   ·
    subst b1
    refine Vs 6 O ?_
    refine V.sp 57 O (fun b2=>?_) (fun b2=>?_)
    ·
     refine Vs 7 O ?_
     refine zkT ((decide (n<=x.high))) (Sub.of O) (Has.of O) (by simp [inB,b2]) 0 O O
    ·
     refine Vs 7 O ?_
     refine zkT (false) (Sub.of O) (Has.of O) (by simp [inB];omega) 0 O O
   ·
    subst b1
    refine Vs 13 O ?_
    refine zkT (false) (Sub.of O) (Has.of O) (by simp) 0 O O
  rintro o' ho'
  show V _ _ _ _ _ ((8,.bool o')::_) _ (_) _
  refine Vs 4 O ?_
  refine V.bs 65 [(0,_)] tR27 ts3 tz3 (by decide) O O (by kernel_rfl) (fun b65=>?_)
  refine zmS 902 65 tu27 Tryz.el3 O (by decide) O O (by omega) (by omega) (fun u902=>?_)
  refine Va 8 O (by omega) ?_
  refine znc 902 O (e':=.row 3 1 u902 s'.vals.length (s'.vals.map zc)) (by rw [hvl];simp [zc]) ?_
  refine V.back (⟨i+1,s',q',o',u902⟩) (Sub.of O) (Has.of O) (⟨by omega,zeQ he_x hS hst,hL',by rw [ho',ho,hvl,zhr he_x s.vals hlv n]⟩) (by first | omega | (dsimp only;omega)) 0 O O
 ·
  obtain rfl:i=f.vars.length:=by omega
  rw [zoo] at hS ho
  have hS':kS f.vars r=some s:=hS
  obtain⟨a1,c1,e1⟩:=(hL 1 (by decide) (by decide)).form
  obtain⟨a2,c2,e2⟩:=(hL 2 (by decide) (by decide)).form
  obtain⟨a3,c3,e3⟩:=(hL 3 (by decide) (by decide)).form
  have hsv:zF f.vars r=s.vals:=by unfold zF;rw [hS']
  have hm:∀ k,((xr r k).drop (kR s k)).length<=1000000000:=fun k=>by rw [List.length_drop];have:=hb k;omega
  have hm1:=hm 1
  have hm2:=hm 2
  have hm3:=hm 3
  refine Vs 9 O ?_
  refine zml O (fun w hI=>zoc (v:=.slice a1 ((xr r 1).drop (kR s 1)).length c1) (hI.at 901 O) (by rw [<- e1];rfl) tu156 tu100 tz27 O O) ?_
  refine Vs 2 O ?_
  refine zml O (fun w hI=>zoc (v:=.slice a2 ((xr r 2).drop (kR s 2)).length c2) (hI.at 901 O) (by rw [<- e2];rfl) tu156 tu100 tz27 O O) ?_
  refine Va 3 O (by omega) ?_
  refine zml O (fun w hI=>zoc (v:=.slice a3 ((xr r 3).drop (kR s 3)).length c3) (hI.at 901 O) (by rw [<- e3];rfl) tu156 tu100 tz27 O O) ?_
  refine Va 5 O (by omega) ?_
  refine zkG O (fun z=>?_) (fun z=>?_)
  ·
   have h1:zB f.vars r=1:=by
    rcases (show 0<((xr r 1).drop (kR s 1)).length\/0<((xr r 2).drop (kR s 2)).length\/0<((xr r 3).drop (kR s 3)).length by omega) with h | h | h
    . exact kF hS' (k:=1) (by decide) h
    . exact kF hS' (k:=2) (by decide) h
    . exact kF hS' (k:=3) (by decide) h
   refine Vs 8 O ?_
   refine zkZ tr44 O O (fun w hI=>⟨_,rfl,⟨_,by rw [h1],fun h=>by rw [h1] at h;cases h⟩,hI.k0⟩)
  ·
   have hc:=zga hS' hkd (fun k h1 h3=>by rcases (show k=1\/k=2\/k=3 by omega) with rfl | rfl | rfl <;> omega)
   rw [<- ho] at hc
   refine Vs 6 O ?_
   refine zml O (fun w hI=>zlV O (by first | exact za | rfl)) ?_
   refine Vs 2 O ?_
   refine V.bool O (fun y=>?_) (fun y=>?_)
   ·
    have h3:zB f.vars r=3:=by rw [hc];cases o;(· rfl);cases y
    refine Vs 8 O ?_
    refine zkZ tr44 O O (fun w hI=>⟨_,rfl,⟨_,by rw [h3],fun h=>by rw [h3] at h;cases h⟩,hI.k0⟩)
   ·
    have h0:zB f.vars r=0:=by rw [hc];cases o;(· cases y);rfl
    refine Vs 10 O ?_
    refine zkZ tr44 O O (fun w hI=>⟨_,rfl,⟨_,by rw [h0],fun _=>hsv ▸ zlM (R:=yj) (D:=fun b=>W.heap.size<=b) zc (fun _ _=>rfl) (hI.at 902 O) (fun q hq=>hI.own 902 0 O O q hq)⟩,hI.k0⟩)
end Go.Proofs.YtckdhgbepmpgiaaGreat
namespace Go.GL
open Go.RowKit Go.Row
section
variable {P:Program} {env:Env} {w:World} {dst:Option Tmp} {ty:TypeId} {pos:String} {aft:Array Edge} {gu:Option (Nat × Bool)}
theorem zof {t e:TypeId} {by':Nat} {z:Value} {x y:Operand} {m g c:Nat} {xs news zs:List Value} {a0:Addr} {j cs:Nat} (hu:P.underlying t=some (.slice e)) (he:(P.info? e).map (fun i=>(i.zero,i.size,i.bytes))=some (some z,1,by'))
  (hx:ev env x=some (.slice (some ⟨g,0,none⟩) m c)) (hy:ev env y=some (.slice (some a0) j cs)) (hown:(HE.row e 1 (.slice (some ⟨g,0,none⟩) m c) m xs).holds w) (hl:news.length=j) (hjm:j<=m) (hnews:∀ q u,news[q]?=some u->w.cell? (a0.add q)=some u) (h1:∀ u ∈ news,u.oneCell'=true) (hz:news++xs.drop j=zs) :
  yC P ⟨dst,.call ⟨.builtin .copy,#[x,y],#[t,t]⟩,ty,pos,aft,gu⟩ env w (fun u w'=>u=.int .i64 (j:Int)/\(HE.row e 1 (.slice (some ⟨g,0,none⟩) m c) m zs).holds w'/\Keep (HE.row e 1 (.slice (some ⟨g,0,none⟩) m c) m xs).S w w'/\∀ q,(HE.row e 1 (.slice (some ⟨g,0,none⟩) m c) m zs).S q->((HE.row e 1 (.slice (some ⟨g,0,none⟩) m c) m xs).S q\/w.heap.size<=q)/\q<w'.heap.size):=by
 subst hz
 have hown:w.ownsRow 0 e 1 (.slice (some ⟨g,0,none⟩) m c) m xs:=hown
 obtain⟨i,hi,hz0,hz1,hz2⟩:=info_parts he
 obtain⟨hlen,h2⟩:=hown
 rcases h2 with⟨h2,_⟩ | ⟨g0,cap,cur,hv,hbg,hg,hc,hcm,hcs,htake⟩
 . cases h2
 ·
  cases hv
  rw [Nat.mul_one] at hcs htake hlen
  have hr:=run_copy_row (P:=P) w t t ty e g 0 m c a0 j cs cur e news hu (by rw [hi];simp [hz1]) hg (by rw [hl];exact (Nat.min_eq_left hjm).symm) hnews (by omega) h1
  have hlt:=(Array.getElem?_eq_some_iff.1 hg).1
  refine⟨.int .i64 (j:Int),w.setRow g (cur.toList.take 0++news++cur.toList.drop (0+news.length)).toArray,fun n a ha=>?_,rfl,⟨?_,.inr ⟨g,c,_,rfl,hbg,setRow_heap w g cur _ e _ hg,hc,hcm,?_,?_⟩⟩,⟨rfl,rfl,rfl,zoI _,by simp,fun k _ hk=>setRow_other w g k _ (fun e=>hk (by simp [HE.S,Value.ownBlock,e]))⟩,fun q hq=>⟨.inl hq,?_⟩⟩
  ·
   rw [<- hl]
   simp [execOp,resolve,invoke,builtin,ha.eval hx,ha.eval hy,hr,goInt]
  . rw [zor,List.length_drop,Nat.mul_one];omega
  ·
   simp only [List.size_toArray,zor,zoN,List.length_drop,Array.length_toList]
   omega
  ·
   rw [Nat.mul_one,List.take_zero,List.nil_append,Nat.zero_add,hl]
   show (news++cur.toList.drop j).take m=_
   rw [List.take_append,List.take_of_length_le (by omega),hl,<- htake,List.drop_take]
  ·
   have hq:some g=some q:=hq
   cases hq
   simpa using hlt
theorem zog {t e:TypeId} {by':Nat} {z:Value} {x y:Operand} {m g c:Nat} {xs zs:List Value} {l:List Int} {vy:Value} {D:Nat->Prop} (hu:P.underlying t=some (.slice e)) (he:(P.info? e).map (fun i=>(i.zero,i.size,i.bytes))=some (some z,1,by'))
  (hx:ev env x=some (.slice (some ⟨g,0,none⟩) m c)) (hy:ev env y=some vy) (hown:(HE.row e 1 (.slice (some ⟨g,0,none⟩) m c) m xs).holds w) (hsl:SlR 1 yj D w vy l) (hjm:l.length<=m) (hz:l.map (Value.int .i64)++xs.drop l.length=zs) :
  yC P ⟨dst,.call ⟨.builtin .copy,#[x,y],#[t,t]⟩,ty,pos,aft,gu⟩ env w (fun u w'=>u=.int .i64 (l.length:Int)/\(HE.row e 1 (.slice (some ⟨g,0,none⟩) m c) m zs).holds w'/\Keep (HE.row e 1 (.slice (some ⟨g,0,none⟩) m c) m xs).S w w'/\∀ q,(HE.row e 1 (.slice (some ⟨g,0,none⟩) m c) m zs).S q->((HE.row e 1 (.slice (some ⟨g,0,none⟩) m c) m xs).S q\/w.heap.size<=q)/\q<w'.heap.size):=by
 obtain⟨ao,cap,rfl⟩:=hsl.form
 cases l with
 | nil =>
  have hz:xs=zs:=hz
  subst hz
  obtain⟨i,hi,hz0,hz1,hz2⟩:=info_parts he
  have hr:=run_copy_none (P:=P) w t t ty e (some ⟨g,0,none⟩) ao m c 0 cap hu (by rw [hi];simp [hz1]) (by simp)
  refine⟨.int .i64 0,w,fun n a ha=>?_,rfl,hown,Keep.refl _ _,fun q hq=>⟨.inl hq,qt (show w.ownsRow 0 e 1 _ m _ from hown) hq⟩⟩
  have hr':(Builtin.copy_ #[t,t] ty #[.slice (some ⟨g,0,none⟩) m c,.slice ao ([]:List Int).length cap]).run P w=.ok (goInt 0) w:=hr
  simp [execOp,resolve,invoke,builtin,ha.eval hx,ha.eval hy,hr,goInt]
 | cons v0 l =>
  obtain⟨b,o,cs,rfl,_⟩:=hsl.at (i:=0) (x:=v0) rfl
  refine zof hu he hx hy hown (zoD _) hjm (fun q u hq=>?_) (fun u hu=>?_) hz
  ·
   rw [zoA] at hq
   obtain⟨v,hv,rfl⟩:=Option.map_eq_some_iff.1 hq
   obtain⟨b',o',cs,e1,_,h3,h4⟩:=hsl.at hv
   cases e1
   obtain rfl:cs=[.int .i64 v]:=h4
   have:=h3 0 _ rfl
   by_cases hq0:q=0
   . subst hq0;simpa [Addr.add] using this
   . simpa [Addr.add,hq0] using this
  ·
   obtain⟨v,_,rfl⟩:=List.mem_map.1 hu
   rfl
end
section
variable {P:Program} {n:Nat} {Q:Exit->Act->World->Prop} {ks:List Fr} {env:Env} {A:Tgs} {H Hs:Hp} {Bs B0:zG} {ops:Array Oper} {L:List Nat} {fuel:Nat} {listed:Array Bool} {v:Value}
def VT (P:Program) (n:Nat) (Q:Exit->Act->World->Prop) (ks:List Fr) (ops:Array Oper) (Hs:Hp) (B0:zG) (L:List Nat) (fuel:Nat) (listed:Array Bool) (env:Env) (A:Tgs) (H:Hp) (Bs:zG) (i:Nat):Prop :=
 Has Hs H->TgOk A env H->∀ w,VI Bs H w->∀ a,Ok n env a->wpOp P ops (NQ (QK P Q ks)) i (fun a' w'=>(i ∉ L->VI B0 Hs w->VI B0 Hs w')/\ju P .any ops (NQ (QK P Q ks)) (VI B0 Hs) L fuel (listed.setIfInBounds i true) a' w') a w
def VTs (P:Program) (n:Nat) (Q:Exit->Act->World->Prop) (ks:List Fr) (ops:Array Oper) (Hs:Hp) (B0:zG) (L:List Nat) (fuel:Nat) (listed:Array Bool) (env:Env) (A:Tgs) (H:Hp) (Bs:zG):List Nat->Prop
 | []=>True
 | i::r=>VT P n Q ks ops Hs B0 L fuel listed env A H Bs i/\VTs P n Q ks ops Hs B0 L fuel listed env A H Bs r
theorem VTs.all:∀ {l:List Nat},VTs P n Q ks ops Hs B0 L fuel listed env A H Bs l->∀ i ∈ l,VT P n Q ks ops Hs B0 L fuel listed env A H Bs i
 | x::r,h,i,hi=>by
  rcases zoz.1 hi with rfl | hi
  . exact h.1
  . exact VTs.all h.2 i hi
theorem zoh (i:Nat) (r:List Nat) (hr:Region.ready .any ops listed=i::r) (h:VTs P n Q ks ops Hs B0 L fuel listed env A H Bs (i::r)):VD P n Q ks ops Hs B0 L (fuel+1) listed env A H Bs:=by
 intro hH hA w hI a ha
 exact⟨fun h0=>(by rw [hr] at h0;cases h0),fun k hk=>h.all k (hr ▸ hk) hH hA w hI a ha⟩
variable {d:Nat} {op:Op} {ty:TypeId} {ps:String} {aft:Array Edge} {g:Option (Nat × Bool)}
theorem zn7 {i:Nat} (hi:ops[i]?=some ⟨some d,op,ty,ps,aft,g⟩) (hn:Nat.blt d n=true) (hg:gd ops env g=some true) {R:World->Value->World->Prop}
  (hm:∀ w,VI Bs H w->Does P ⟨some d,op,ty,ps,aft,g⟩ env w (R w)) (h:Has Hs H->TgOk A env H->∀ w,VI Bs H w->∀ v w',R w v w'->VI B0 Hs w'/\WD P n ops (QK P Q ks) (VI B0 Hs) L fuel (listed.setIfInBounds i true) ((d,v)::env) w'):VT P n Q ks ops Hs B0 L fuel listed env A H Bs i:=by
 intro hH hA w hI a ha
 have hd:=hm w hI
 have h:=h hH hA w hI
 unfold wpOp
 simp only [hi]
 rw [zou (qb hg a ha)]
 refine .inl ?_
 unfold Oper.wp
 rcases hd with⟨v,w',hrun,hR⟩ | ⟨f,args,hm,hc⟩
 ·
  rw [hrun n a ha,Oper.upon_value]
  exact⟨fun _ _=>(h v w' hR).1,(h v w' hR).2 _ (ha.put hn)⟩
 ·
  rw [hm n a ha,Oper.upon_enter]
  refine hc.mono ?_
  rintro e w' ⟨v,rfl,hR⟩
  exact⟨fun _ _=>(h v w' hR).1,(h v w' hR).2 _ (ha.put hn)⟩
theorem zn3 (i j:Nat) {f:FuncId} {xs:Array Operand} {ts:Array TypeId} {vs:List Value} {Φ:Value->World->World->Prop} (hf:∀ args w,(callFunc f args).run P w=.ok (.enter f args) w) (hi:ops[i]?=some ⟨some d,.call ⟨.value (.func f),xs,ts⟩,ty,ps,aft,g⟩) (hn:(Nat.blt d n,gd ops env g,qy env xs.toList,qd (Hs.map (·.1)))=(true,some true,some vs,true)) (hB:Bs.drop j=B0)
  (hc:∀ w,VI Bs H w->Calls P f vs.toArray w (Ret fun r w'=>Φ r w w'/\Ext w w'))
  (h:∀ r w w',VI Bs H w->Ext w w'->Φ r w w'->(∀ q,HS H q->q<w.heap.size)->VD P n Q ks ops Hs B0 L fuel (listed.setIfInBounds i true) ((d,r)::env) ((d,none)::A) H ((w',HS H)::Bs)):VT P n Q ks ops Hs B0 L fuel listed env A H Bs i:=by
 simp only [Prod.mk.injEq] at hn
 subst hB
 refine zn7 hi hn.1 hn.2.1 (fun w hI=>.inr ⟨f,_,F.call hf (yL hn.2.2.1),hc w hI⟩) fun hH hA w hI=>?_
 rintro r w' ⟨hP,hk⟩
 exact⟨((hI.ext hk).drop j).pick hH hn.2.2.2,h r w w' hI hk hP (fun q ⟨x,hx,hq⟩=>hI.low x hx q hq) hH hA.none w' (hI.ext hk).here⟩
theorem zlB (i k j:Nat) {t e:TypeId} {kk by' m:Nat} {z:Value} {x y:Operand} {kl kc:IntKind} {zs:List Value} (hu:P.underlying t=some (.slice e)) (he:(P.info? e).map (fun i=>(i.zero,i.size,i.bytes))=some (some z,kk,by'))
  (hi:ops[i]?=some ⟨some d,.makeSlice t x y,ty,ps,aft,g⟩) (hn:(Nat.blt d n,gd ops env g,(hget H k).isNone,ev env x,ev env y,qd (Hs.map (·.1)))=(true,some true,true,some (.int kl (m:Int)),some (.int kc (m:Int)),true)) (hB:Bs.drop j=B0)
  (hb:by'*m<=281474976710656) (hm:m<=9223372036854775807) (hz:madeCells z.cells (m*kk)=zs.toArray) (hl:zs.length=m*kk)
  (h:∀ b,VD P n Q ks ops Hs B0 L fuel (listed.setIfInBounds i true) ((d,.slice (some ⟨b,0,none⟩) m m)::env) ((d,none)::A) ((k,.row e kk (.slice (some ⟨b,0,none⟩) m m) m zs)::H) Bs):VT P n Q ks ops Hs B0 L fuel listed env A H Bs i:=by
 simp only [Prod.mk.injEq,Option.isNone_iff_eq_none] at hn
 subst hB
 obtain⟨h1,h2,h3,h4,h5,h6⟩:=hn
 refine zn7 hi h1 h2 (fun w hI=>.inl (zly hu he h4 h5 hb hm hz)) fun hH hA w hI=>?_
 rintro _ w1 ⟨b,rfl,hN⟩
 have hI1:=hI.row k hm hl hN
 have hH1:Has Hs ((k,.row e kk (.slice (some ⟨b,0,none⟩) m m) m zs)::H):=hH.new h3
 exact⟨(hI1.drop j).pick hH1 h6,h b hH1 (TgOk.none (hA.new h3)) w1 hI1⟩
end
end Go.GL
namespace Go.Proofs.YtckdhgbepmpgiaaGreat
open Go.GL
noncomputable def zdT (f:Fl) (g:List Nd) (s:Sf) (r:Ins):Int:=if yn f g s ≠ 0 then yn f g s else zB f.vars r
theorem zgW (f:Fl) (g:List Nd) (s:Sf) (hR:RightF f g s (rdV f g)) (n:Nat) (hn:n<g.length) (y:Nat) (hy:(zk s n).phis ≠ []->y ∈ qa g n) (hgl:g.length<=100000) (hpl:(zk s n).phis.length<=1000000) (vl:List Int) (m:Nat) (hm:vl.length=m) (hvll:m=s.of_.length) (hvm:m<=1000000) (b gb bv cv:Nat) (ofv nodv hv rv ov tv:Value) (D:Nat->Prop) (W:World) (hc:Cells W b 0 (rnr gb ofv nodv (.slice (some ⟨bv,0,none⟩) m cv) hv rv ov tv)) (hS:RSf D W s ofv nodv) (hown:(qq (.slice (some ⟨bv,0,none⟩) m cv) vl).holds W) (hap:∀ q,D q->bv ≠ q) (hapb:bv ≠ b) :
  Calls Tryz.prog 47 #[.pointer (some ⟨b,0,none⟩),.int .i64 y,.int .i64 n] W (Ret fun r w'=>∃ _x:Unit,r=.tuple #[]/\(qq (.slice (some ⟨bv,0,none⟩) m cv) (qs f g s y vl (zk s n).phis)).holds w'/\Keep (qq (.slice (some ⟨bv,0,none⟩) m cv) vl).S W w'/\∀ q,(qq (.slice (some ⟨bv,0,none⟩) m cv) (qs f g s y vl (zk s n).phis)).S q->((qq (.slice (some ⟨bv,0,none⟩) m cv) vl).S q\/W.heap.size<=q)/\q<w'.heap.size):=by
 subst hm
 exact zib f g s hR n hn y hy hgl hpl vl hvll hvm b gb bv cv ofv nodv hv rv ov tv D W hc hS hown hap hapb
theorem zjv {s:Sf} {m n:Nat} (h:(LP s m).length<=1000000) (hn:n<m):(zk s n).phis.length<=1000000:=by
 unfold LP at h
 have h1:=(List.sublist_flatten_of_mem (l:=dP (zk s n)++(zk s n).phis.map (·.ver)) (L:=(List.range m).map fun i=>dP (zk s i)++(zk s i).phis.map (·.ver)) (List.mem_map.2 ⟨n,List.mem_range.2 hn,rfl⟩)).length_le
 rw [<- List.flatMap_def,zor,zoD] at h1
 omega
theorem zjw (f:Fl) (g:List Nd) (s:Sf) (r:Ins) (hsz:snodes f.body+zA f.hatches<=1024) (hbk:sbulk f.body<=1000000) (hbig:s.of_.length<=1000000/\(LP s g.length).length<=1000000) (hb:∀ k,(xr r k).length<=1000000000) (v1 v2 v3 gv ofv nodv s1 s2 s3:Value) (D:Nat->Prop) (W:World) (hf:RFl D W f v1 v2 v3) (hg:SlR 4 RNd D W gv g) (hS:RSf D W s ofv nodv) (hi1:SlR 1 yj D W s1 r.secret) (hi2:SlR 1 yj D W s2 r.pub) (hi3:SlR 1 yj D W s3 r.random) (hD:∀ q,D q->q<W.heap.size) :
  Calls Tryz.prog 18 #[.agg #[v1,v2,v3],.agg #[gv],.agg #[ofv,nodv],.agg #[s1,s2,s3]] W (Ret fun rr w'=>(∃ ov t,rr=.tuple #[.agg #[ov,.int .i64 t],.int .i64 (zdT f g s r)]/\(zdT f g s r ≠ 0->ov=.slice none 0 0/\t=0)/\(zdT f g s r=0->SlR 1 yj (fun b=>W.heap.size<=b) w' ov (zeP f r).outs/\t=(zeP f r).time))/\Ext W w'):=by
 obtain⟨a1,c1,rfl⟩:=hf.vars.form
 obtain⟨a2,c2,rfl⟩:=hf.hatches.form
 obtain⟨a3,c3,rfl⟩:=hf.body.form
 obtain⟨ag,cg,rfl⟩:=hg.form
 obtain⟨ao,co,rfl⟩:=hS.of_.form
 obtain⟨an,cn,rfl⟩:=hS.nodes.form
 obtain⟨b1,d1,rfl⟩:=hi1.form
 obtain⟨b2,d2,rfl⟩:=hi2.form
 obtain⟨b3,d3,rfl⟩:=hi3.form
 have hgm:=hg.max
 have hom:=hS.of_.max
 refine zmx Tryz.func18 O Tryz.ntmps18 O (zmE ?_)
 refine Vs 2 O ?_
 refine V.box 4 O O (fun b4=>?_)
 refine V.box 5 O O (fun b5=>?_)
 refine V.box 6 O O (fun b6=>?_)
 refine V.box 7 O O (fun b7=>?_)
 refine V.alloc 8 Tryz.zeroValue47 O O (fun b8=>?_)
 refine Vs 9 O ?_
 refine zmZ Tryz.call16 O (fun w hI=>jZ f g s hsz hbk hbig _ _ _ _ _ _ D w (Tr1 hI.k0 hf) (Tr1 hI.k0 hg) (Tr1 hI.k0 hS) (fun q hq=>Nat.lt_of_lt_of_le (hD q hq) (Keep.size hI.k0))) ?_
 refine Vs 9 O ?_
 refine zkG O (fun c0=>?_) (fun c0=>?_)
 ·
  have hc:zdT f g s r=yn f g s:=zou c0
  refine Vs 2 O ?_
  refine znh [Value.slice none 0 0,Value.int IntKind.i64 0] [(0,1),(1,1)] [] O O (fun _=>by kernel_rfl) ?_
  refine Vs 7 O ?_
  refine zl7 Tryz.results18 tg47 ts47 O O O O (fun w hI=>⟨_,rfl,⟨_,_,by rw [hc],fun _=>⟨rfl,rfl⟩,fun h=>absurd (hc ▸ h) c0⟩,hI.k0⟩)
 ·
  have hc:zdT f g s r=zB f.vars r:=zot c0
  obtain⟨hgc,hR⟩:=zgA (zos.1 c0)
  obtain⟨hck,hgg⟩:=jq (zoG hgc)
  subst hgg
  have vd:Valid f:=⟨hck,hsz,hbk⟩
  have hlens:=vd.lens
  have hss:=vd.ssize
  have hcl:=yz f vd.plain
  have hwl:=yU f.body
  rw [hc]
  refine Vs 6 O ?_
  refine zn1 Tryz.call44 O (fun w hI=>zis f r _ _ _ _ _ _ D w (Tr1 hI.k0 hf) (Tr1 hI.k0 hi1) (Tr1 hI.k0 hi2) (Tr1 hI.k0 hi3) vd.kinds (by omega) hb) ?_
  rintro rr w1 w2 hI1 hk12 ⟨u,rfl,hu⟩ hlow
  refine Vs 14 O ?_
  refine zkG O (fun e0=>?_) (fun e0=>?_)
  ·
   refine Vs 2 O ?_
   refine znh [Value.slice none 0 0,Value.int IntKind.i64 0] [(0,1),(1,1)] [] O O (fun _=>by kernel_rfl) ?_
   refine Vs 7 O ?_
   refine zl7 Tryz.results18 tg47 ts47 O O O O (fun w hI=>⟨_,rfl,⟨_,_,rfl,fun _=>⟨rfl,rfl⟩,fun h=>absurd h e0⟩,hI.k1⟩)
  ·
   have e0':zB f.vars r=0:=zos.1 e0
   have hst:=hu e0'
   obtain⟨au,cu,rfl⟩:=hst.form
   have hsl:=(zb1 e0').len
   have hofl:=hR.of_.len
   refine Vs 3 O ?_
   refine V.dat 906 0 O O O (hst) (fun b hb _ hs=>by have:=hlow b hs;omega) ?_
   refine zne (σ:=Nat × Nat × Nat × Nat × Nat × Nat) [4,8,11] [4,8,906] [4,8] O (fun e ⟨la,lz,gb,b45,b49,b51⟩=>(13,.pointer (some ⟨b51,0,none⟩))::e) (fun e ⟨la,lz,gb,b45,b49,b51⟩=>(904,.dat (fun q=>D q\/(la<=q/\q<lz)) (fun w=>GrO (fun q=>D q\/(la<=q/\q<lz)) w f (zh f) gb))::(45,.row 3 1 (.slice (some ⟨b45,0,none⟩) s.of_.length s.of_.length) s.of_.length (List.replicate s.of_.length (.int .i64 0)))::(49,.row 3 1 (.slice (some ⟨b49,0,none⟩) (zh f).length (zh f).length) (zh f).length (List.replicate (zh f).length (.int .i64 0)))::(51,.own b51 [.pointer (some ⟨gb,0,none⟩),.slice ao s.of_.length co,.slice an s.nodes.length cn,.slice (some ⟨b45,0,none⟩) s.of_.length s.of_.length,.slice none 0 0,.slice (some ⟨b49,0,none⟩) (zh f).length (zh f).length,.slice none 0 0,.int .i64 0] 107)::e) (fun⟨la,lz,gb,b45,b49,b51⟩=>True) (fun _=>rfl) (fun _=>rfl) ?_ ?_
   ·
    refine Vw [4,5,6,7,8] [] O ?_
    refine Vd [0,1,3,4,5,6,8,9,10] 0 (by kernel_rfl) O O O ?_
    refine zoh 2 [7,11] (by kernel_rfl) ⟨zn3 2 0 tc37 O O O (fun w hI=>yE f (zh f) vd.prOk (by omega) (by omega) _ _ _ _ D w (Tr1 hI.k1 hf) (Tr1 hI.k1 hg) (fun q hq=>Nat.lt_of_lt_of_le (hD q hq) (Keep.size hI.k1))) ?_,zlB 7 45 0 tu27 Tryz.el3 O O O (by omega) (by omega) (by exact qw _ _ O:madeCells _ _=(List.replicate s.of_.length (Value.int .i64 0)).toArray) (by simp) (fun b45=>?_),zlB 11 49 0 tu27 Tryz.el3 O O O (by omega) (by omega) (by exact qw _ _ O:madeCells _ _=(List.replicate (zh f).length (Value.int .i64 0)).toArray) (by simp) (fun b49=>?_),True.intro⟩
    ·
     rintro gp w3 w4 hI3 hk34 ⟨gb,rfl,hG⟩ hlow2
     refine zoh 7 [11] (by kernel_rfl) ⟨zlB 7 45 1 tu27 Tryz.el3 O O O (by omega) (by omega) (by exact qw _ _ O:madeCells _ _=(List.replicate s.of_.length (Value.int .i64 0)).toArray) (by simp) (fun b45=>?_),zlB 11 49 1 tu27 Tryz.el3 O O O (by omega) (by omega) (by exact qw _ _ O:madeCells _ _=(List.replicate (zh f).length (Value.int .i64 0)).toArray) (by simp) (fun b49=>?_),True.intro⟩
     ·
      refine zoh 11 [] (by kernel_rfl) ⟨zlB 11 49 1 tu27 Tryz.el3 O O O (by omega) (by omega) (by exact qw _ _ O:madeCells _ _=(List.replicate (zh f).length (Value.int .i64 0)).toArray) (by simp) (fun b49=>?_),True.intro⟩
      ·
       refine zni 12 [Value.pointer none,Value.slice none 0 0,Value.slice none 0 0,Value.slice none 0 0,Value.slice none 0 0,Value.slice none 0 0,Value.slice none 0 0,Value.int IntKind.i64 0] [(0,1),(1,2),(3,1),(4,1),(5,1),(6,2)] [(0,_),(1,_),(2,_),(4,_)] O (by kernel_rfl) O O (fun _=>by kernel_rfl) ?_
       refine zmK 13 51 1 O (by kernel_rfl) O O (fun _ _=>M.box O O) (fun b51=>?_)
       refine Vd [14] 1 (by kernel_rfl) O O O ?_
       refine VD.done (by kernel_rfl) ?_
       refine znV 904 0 (F:=fun q=>D q\/(w3.heap.size<=q/\q<w4.heap.size)) (p:=fun w=>GrO (fun q=>D q\/(w3.heap.size<=q/\q<w4.heap.size)) w f (zh f) gb) O O (fun w w' T h hk hT=>GrO.keep h hk (fun b hb _=>hT b hb)) (hG) (fun q hq=>⟨by have h1:=hk34.size;have h2:W.heap.size<=w3.heap.size:=(hI3.k1).size;rcases hq with hq | hq;(· have:=hD q hq;omega);omega,fun hs=>by have h1:=hlow2 q hs;have h2:=hI3.hsE 1 O hs;rcases hq with hq | hq;(· have:=hD q hq;omega);omega⟩) ?_
       refine zkT (⟨w3.heap.size,w4.heap.size,gb,b45,b49,b51⟩) (Sub.of O) (Has.of O) (trivial) 1 O O
     ·
      refine zoh 7 [] (by kernel_rfl) ⟨zlB 7 45 1 tu27 Tryz.el3 O O O (by omega) (by omega) (by exact qw _ _ O:madeCells _ _=(List.replicate s.of_.length (Value.int .i64 0)).toArray) (by simp) (fun b45=>?_),True.intro⟩
      ·
       refine zni 12 [Value.pointer none,Value.slice none 0 0,Value.slice none 0 0,Value.slice none 0 0,Value.slice none 0 0,Value.slice none 0 0,Value.slice none 0 0,Value.int IntKind.i64 0] [(0,1),(1,2),(3,1),(4,1),(5,1),(6,2)] [(0,_),(1,_),(2,_),(4,_)] O (by kernel_rfl) O O (fun _=>by kernel_rfl) ?_
       refine zmK 13 51 1 O (by kernel_rfl) O O (fun _ _=>M.box O O) (fun b51=>?_)
       refine Vd [14] 1 (by kernel_rfl) O O O ?_
       refine VD.done (by kernel_rfl) ?_
       refine znV 904 0 (F:=fun q=>D q\/(w3.heap.size<=q/\q<w4.heap.size)) (p:=fun w=>GrO (fun q=>D q\/(w3.heap.size<=q/\q<w4.heap.size)) w f (zh f) gb) O O (fun w w' T h hk hT=>GrO.keep h hk (fun b hb _=>hT b hb)) (hG) (fun q hq=>⟨by have h1:=hk34.size;have h2:W.heap.size<=w3.heap.size:=(hI3.k1).size;rcases hq with hq | hq;(· have:=hD q hq;omega);omega,fun hs=>by have h1:=hlow2 q hs;have h2:=hI3.hsE 1 O hs;rcases hq with hq | hq;(· have:=hD q hq;omega);omega⟩) ?_
       refine zkT (⟨w3.heap.size,w4.heap.size,gb,b45,b49,b51⟩) (Sub.of O) (Has.of O) (trivial) 1 O O
    ·
     refine zoh 2 [11] (by kernel_rfl) ⟨zn3 2 0 tc37 O O O (fun w hI=>yE f (zh f) vd.prOk (by omega) (by omega) _ _ _ _ D w (Tr1 hI.k1 hf) (Tr1 hI.k1 hg) (fun q hq=>Nat.lt_of_lt_of_le (hD q hq) (Keep.size hI.k1))) ?_,zlB 11 49 0 tu27 Tryz.el3 O O O (by omega) (by omega) (by exact qw _ _ O:madeCells _ _=(List.replicate (zh f).length (Value.int .i64 0)).toArray) (by simp) (fun b49=>?_),True.intro⟩
     ·
      rintro gp w3 w4 hI3 hk34 ⟨gb,rfl,hG⟩ hlow2
      refine zoh 11 [] (by kernel_rfl) ⟨zlB 11 49 1 tu27 Tryz.el3 O O O (by omega) (by omega) (by exact qw _ _ O:madeCells _ _=(List.replicate (zh f).length (Value.int .i64 0)).toArray) (by simp) (fun b49=>?_),True.intro⟩
      ·
       refine zni 12 [Value.pointer none,Value.slice none 0 0,Value.slice none 0 0,Value.slice none 0 0,Value.slice none 0 0,Value.slice none 0 0,Value.slice none 0 0,Value.int IntKind.i64 0] [(0,1),(1,2),(3,1),(4,1),(5,1),(6,2)] [(0,_),(1,_),(2,_),(4,_)] O (by kernel_rfl) O O (fun _=>by kernel_rfl) ?_
       refine zmK 13 51 1 O (by kernel_rfl) O O (fun _ _=>M.box O O) (fun b51=>?_)
       refine Vd [14] 1 (by kernel_rfl) O O O ?_
       refine VD.done (by kernel_rfl) ?_
       refine znV 904 0 (F:=fun q=>D q\/(w3.heap.size<=q/\q<w4.heap.size)) (p:=fun w=>GrO (fun q=>D q\/(w3.heap.size<=q/\q<w4.heap.size)) w f (zh f) gb) O O (fun w w' T h hk hT=>GrO.keep h hk (fun b hb _=>hT b hb)) (hG) (fun q hq=>⟨by have h1:=hk34.size;have h2:W.heap.size<=w3.heap.size:=(hI3.k1).size;rcases hq with hq | hq;(· have:=hD q hq;omega);omega,fun hs=>by have h1:=hlow2 q hs;have h2:=hI3.hsE 1 O hs;rcases hq with hq | hq;(· have:=hD q hq;omega);omega⟩) ?_
       refine zkT (⟨w3.heap.size,w4.heap.size,gb,b45,b49,b51⟩) (Sub.of O) (Has.of O) (trivial) 1 O O
     ·
      refine zoh 2 [] (by kernel_rfl) ⟨zn3 2 0 tc37 O O O (fun w hI=>yE f (zh f) vd.prOk (by omega) (by omega) _ _ _ _ D w (Tr1 hI.k1 hf) (Tr1 hI.k1 hg) (fun q hq=>Nat.lt_of_lt_of_le (hD q hq) (Keep.size hI.k1))) ?_,True.intro⟩
      ·
       rintro gp w3 w4 hI3 hk34 ⟨gb,rfl,hG⟩ hlow2
       refine zni 12 [Value.pointer none,Value.slice none 0 0,Value.slice none 0 0,Value.slice none 0 0,Value.slice none 0 0,Value.slice none 0 0,Value.slice none 0 0,Value.int IntKind.i64 0] [(0,1),(1,2),(3,1),(4,1),(5,1),(6,2)] [(0,_),(1,_),(2,_),(4,_)] O (by kernel_rfl) O O (fun _=>by kernel_rfl) ?_
       refine zmK 13 51 1 O (by kernel_rfl) O O (fun _ _=>M.box O O) (fun b51=>?_)
       refine Vd [14] 1 (by kernel_rfl) O O O ?_
       refine VD.done (by kernel_rfl) ?_
       refine znV 904 0 (F:=fun q=>D q\/(w3.heap.size<=q/\q<w4.heap.size)) (p:=fun w=>GrO (fun q=>D q\/(w3.heap.size<=q/\q<w4.heap.size)) w f (zh f) gb) O O (fun w w' T h hk hT=>GrO.keep h hk (fun b hb _=>hT b hb)) (hG) (fun q hq=>⟨by have h1:=hk34.size;have h2:W.heap.size<=w3.heap.size:=(hI3.k1).size;rcases hq with hq | hq;(· have:=hD q hq;omega);omega,fun hs=>by have h1:=hlow2 q hs;have h2:=hI3.hsE 1 O hs;rcases hq with hq | hq;(· have:=hD q hq;omega);omega⟩) ?_
       refine zkT (⟨w3.heap.size,w4.heap.size,gb,b45,b49,b51⟩) (Sub.of O) (Has.of O) (trivial) 1 O O
    ·
     refine zoh 2 [7] (by kernel_rfl) ⟨zn3 2 0 tc37 O O O (fun w hI=>yE f (zh f) vd.prOk (by omega) (by omega) _ _ _ _ D w (Tr1 hI.k1 hf) (Tr1 hI.k1 hg) (fun q hq=>Nat.lt_of_lt_of_le (hD q hq) (Keep.size hI.k1))) ?_,zlB 7 45 0 tu27 Tryz.el3 O O O (by omega) (by omega) (by exact qw _ _ O:madeCells _ _=(List.replicate s.of_.length (Value.int .i64 0)).toArray) (by simp) (fun b45=>?_),True.intro⟩
     ·
      rintro gp w3 w4 hI3 hk34 ⟨gb,rfl,hG⟩ hlow2
      refine zoh 7 [] (by kernel_rfl) ⟨zlB 7 45 1 tu27 Tryz.el3 O O O (by omega) (by omega) (by exact qw _ _ O:madeCells _ _=(List.replicate s.of_.length (Value.int .i64 0)).toArray) (by simp) (fun b45=>?_),True.intro⟩
      ·
       refine zni 12 [Value.pointer none,Value.slice none 0 0,Value.slice none 0 0,Value.slice none 0 0,Value.slice none 0 0,Value.slice none 0 0,Value.slice none 0 0,Value.int IntKind.i64 0] [(0,1),(1,2),(3,1),(4,1),(5,1),(6,2)] [(0,_),(1,_),(2,_),(4,_)] O (by kernel_rfl) O O (fun _=>by kernel_rfl) ?_
       refine zmK 13 51 1 O (by kernel_rfl) O O (fun _ _=>M.box O O) (fun b51=>?_)
       refine Vd [14] 1 (by kernel_rfl) O O O ?_
       refine VD.done (by kernel_rfl) ?_
       refine znV 904 0 (F:=fun q=>D q\/(w3.heap.size<=q/\q<w4.heap.size)) (p:=fun w=>GrO (fun q=>D q\/(w3.heap.size<=q/\q<w4.heap.size)) w f (zh f) gb) O O (fun w w' T h hk hT=>GrO.keep h hk (fun b hb _=>hT b hb)) (hG) (fun q hq=>⟨by have h1:=hk34.size;have h2:W.heap.size<=w3.heap.size:=(hI3.k1).size;rcases hq with hq | hq;(· have:=hD q hq;omega);omega,fun hs=>by have h1:=hlow2 q hs;have h2:=hI3.hsE 1 O hs;rcases hq with hq | hq;(· have:=hD q hq;omega);omega⟩) ?_
       refine zkT (⟨w3.heap.size,w4.heap.size,gb,b45,b49,b51⟩) (Sub.of O) (Has.of O) (trivial) 1 O O
     ·
      refine zoh 2 [] (by kernel_rfl) ⟨zn3 2 0 tc37 O O O (fun w hI=>yE f (zh f) vd.prOk (by omega) (by omega) _ _ _ _ D w (Tr1 hI.k1 hf) (Tr1 hI.k1 hg) (fun q hq=>Nat.lt_of_lt_of_le (hD q hq) (Keep.size hI.k1))) ?_,True.intro⟩
      ·
       rintro gp w3 w4 hI3 hk34 ⟨gb,rfl,hG⟩ hlow2
       refine zni 12 [Value.pointer none,Value.slice none 0 0,Value.slice none 0 0,Value.slice none 0 0,Value.slice none 0 0,Value.slice none 0 0,Value.slice none 0 0,Value.int IntKind.i64 0] [(0,1),(1,2),(3,1),(4,1),(5,1),(6,2)] [(0,_),(1,_),(2,_),(4,_)] O (by kernel_rfl) O O (fun _=>by kernel_rfl) ?_
       refine zmK 13 51 1 O (by kernel_rfl) O O (fun _ _=>M.box O O) (fun b51=>?_)
       refine Vd [14] 1 (by kernel_rfl) O O O ?_
       refine VD.done (by kernel_rfl) ?_
       refine znV 904 0 (F:=fun q=>D q\/(w3.heap.size<=q/\q<w4.heap.size)) (p:=fun w=>GrO (fun q=>D q\/(w3.heap.size<=q/\q<w4.heap.size)) w f (zh f) gb) O O (fun w w' T h hk hT=>GrO.keep h hk (fun b hb _=>hT b hb)) (hG) (fun q hq=>⟨by have h1:=hk34.size;have h2:W.heap.size<=w3.heap.size:=(hI3.k1).size;rcases hq with hq | hq;(· have:=hD q hq;omega);omega,fun hs=>by have h1:=hlow2 q hs;have h2:=hI3.hsE 1 O hs;rcases hq with hq | hq;(· have:=hD q hq;omega);omega⟩) ?_
       refine zkT (⟨w3.heap.size,w4.heap.size,gb,b45,b49,b51⟩) (Sub.of O) (Has.of O) (trivial) 1 O O
   rintro⟨la,lz,gb,b45,b49,b51⟩ _
   show V _ _ _ _ _ ((13,.pointer (some ⟨b51,0,none⟩))::_) _ ((904,.dat (fun q=>D q\/(la<=q/\q<lz)) (fun w=>GrO (fun q=>D q\/(la<=q/\q<lz)) w f (zh f) gb))::(45,.row 3 1 (.slice (some ⟨b45,0,none⟩) s.of_.length s.of_.length) s.of_.length (List.replicate s.of_.length (.int .i64 0)))::(49,.row 3 1 (.slice (some ⟨b49,0,none⟩) (zh f).length (zh f).length) (zh f).length (List.replicate (zh f).length (.int .i64 0)))::(51,.own b51 [.pointer (some ⟨gb,0,none⟩),.slice ao s.of_.length co,.slice an s.nodes.length cn,.slice (some ⟨b45,0,none⟩) s.of_.length s.of_.length,.slice none 0 0,.slice (some ⟨b49,0,none⟩) (zh f).length (zh f).length,.slice none 0 0,.int .i64 0] 107)::_) _
   refine zmL 13 51 0 O O ?_
   have hz0:(zF f.vars r).map (Value.int .i64)++(List.replicate s.of_.length (Value.int .i64 0)).drop (zF f.vars r).length=(zF f.vars r++List.replicate (s.of_.length - f.vars.length) 0).map zc:=by rw [List.map_append,List.drop_replicate,List.map_replicate,hsl]
   generalize hvl0:zF f.vars r++List.replicate (s.of_.length - f.vars.length) 0=vl0 at hz0
   have hl0:vl0.length=s.of_.length:=by rw [<- hvl0,zor,List.length_replicate];omega
   refine Vs 8 O ?_
   refine V.opM 45 (e':=.row 3 1 (.slice (some ⟨b45,0,none⟩) s.of_.length s.of_.length) s.of_.length (vl0.map zc)) (r:=.int .i64 ((zF f.vars r).length:Int)) O (trivial) (fun _ h=>h) (fun w hI=>zog tu27 Tryz.el3 O O (hI.at 45 O) (hI.at 906 O).1 (by omega) hz0) ?_
   refine Vs 11 O ?_
   refine zmR 907 3 1 O ?_
   refine Vs 1 O ?_
   refine znd (σ:=Nat × Value) [4,8,11,13,59,60] [4,8,904,906] [4,8,13] O (fun e ⟨i,hv⟩=>(61,.int .i64 i)::e) (fun e ⟨i,hv⟩=>(51,.own b51 [.pointer (some ⟨gb,0,none⟩),.slice ao s.of_.length co,.slice an s.nodes.length cn,.slice (some ⟨b45,0,none⟩) s.of_.length s.of_.length,hv,.slice (some ⟨b49,0,none⟩) (zh f).length (zh f).length,.slice none 0 0,.int .i64 0] 107)::(907,.row 3 1 hv i ((zhD (zF f.vars r) (f.hatches.take i)).map zc))::(45,.row 3 1 (.slice (some ⟨b45,0,none⟩) s.of_.length s.of_.length) s.of_.length (vl0.map zc))::(49,.row 3 1 (.slice (some ⟨b49,0,none⟩) (zh f).length (zh f).length) (zh f).length (List.replicate (zh f).length (.int .i64 0)))::e) (fun⟨i,hv⟩=>i<=f.hatches.length) (fun⟨i,hv⟩=>f.hatches.length - i) ((0,.slice none 0 0)) (Sub.of O) (Has.of O) (fun _=>rfl) (fun _=>rfl) (fun _=>rfl) (zoy _) ?_
   rintro⟨i,hv⟩ hi
   show V _ _ _ _ _ ((61,.int .i64 i)::_) _ ((51,.own b51 [.pointer (some ⟨gb,0,none⟩),.slice ao s.of_.length co,.slice an s.nodes.length cn,.slice (some ⟨b45,0,none⟩) s.of_.length s.of_.length,hv,.slice (some ⟨b49,0,none⟩) (zh f).length (zh f).length,.slice none 0 0,.int .i64 0] 107)::(907,.row 3 1 hv i ((zhD (zF f.vars r) (f.hatches.take i)).map zc))::(45,.row 3 1 (.slice (some ⟨b45,0,none⟩) s.of_.length s.of_.length) s.of_.length (vl0.map zc))::(49,.row 3 1 (.slice (some ⟨b49,0,none⟩) (zh f).length (zh f).length) (zh f).length (List.replicate (zh f).length (.int .i64 0)))::_) _
   refine Vs 6 O ?_
   refine zkG O (fun hlt=>?_) (fun hlt=>?_)
   ·
    refine Vs 6 O ?_
    obtain⟨x,he_x,hm_x⟩:=gE_ f.hatches (i) (by omega)
    obtain⟨b_x,o_x,c_x,ha_x,_,hc_x,hR_x⟩:=hf.hatches.at he_x
    obtain⟨v1_x,rfl,hk_x⟩:=hR_x
    obtain⟨a1_x,n1_x,rfl⟩:=hk_x.form
    refine zna 1000 1 O O hc_x ?_
    refine zmN 1000 tR23 ts109 O ha_x (by omega) (_) (rfl) O ?_
    obtain⟨g1,g2,g3,g4⟩:=vd.hatch x hm_x
    refine Vs 1 O ?_
    refine V.alloc 15 tz109 O O (fun b15=>?_)
    refine Vs 10 O ?_
    refine zmZ Tryz.call45 O (fun w hI=>zaX vd.good (zb1 e0') x.term g1 g2 g3 _ D D (fun b=>w1.heap.size<=b/\b<w2.heap.size) w _ _ (Tr1 hI.k1 hf.vars) (hI.at 906 O).1 (RTm.put (Tr1 hI.k1 hk_x))) ?_
    refine Vs 7 O ?_
    refine Vw [4,8,51,1000,15] [15] O ?_
    refine Vd [0,1,2,3,4,5,6,7,8,9] 0 (by kernel_rfl) O O O ?_
    refine zn0 10 0 Tryz.call46 O (by kernel_rfl) O O (fun w hI=>zda _ x.low x.high w g4) ?_
    refine VD.bs 11 85 0 [(0,_)] tR27 ts3 tz3 (by decide) O (by kernel_rfl) O O (by kernel_rfl) (fun b85=>?_)
    refine zmT 12 907 85 0 tu27 Tryz.el3 O (by decide) O (by kernel_rfl) O O O (by omega) (by omega) (fun u907=>?_)
    refine Vd [13,14] 0 (by kernel_rfl) O O O ?_
    refine zmV 907 O (by omega) ?_
    rintro bh chh rfl hcap_907
    refine Vl 15 O (by kernel_rfl) O ?_
    refine VDx.done (by kernel_rfl) ?_
    refine Va 6 O (by omega) ?_
    refine znc 907 O (e':=.row 3 1 (.slice (some ⟨bh,0,none⟩) (i+1) chh) (i+1) ((zhD (zF f.vars r) (f.hatches.take (i+1))).map zc)) (by rw [zg7 he_x,List.map_append];rfl) ?_
    refine V.back (⟨i+1,_⟩) (Sub.of O) (Has.of O) (by omega) (by first | omega | (dsimp only;omega)) 0 O O
   ·
    obtain rfl:i=f.hatches.length:=by omega
    rw [zoo]
    have hhl:(zY f r).length=f.hatches.length:=by simp [zhD]
    refine znX 907 O (p:=fun w=>SlR 1 yj (fun q=>hv.ownBlock=some q) w hv (zY f r)) (fun w w' T h hk hT=>h.keep ze hk fun b hb _=>hT b hb) (fun w hI=>zlM zc (fun _ _=>rfl) (show w.ownsRow 0 3 1 hv (zY f r).length ((zY f r).map zc) by rw [hhl];exact hI.at 907 O) (fun g hg=>hg)) (fun wp hpin hap=>?_)
    refine V.ren [(51,900),(45,901),(49,902)] [(4,some (4,0)),(8,some (8,0)),(13,some (900,0))] O O ?_
    refine zo4 904 907 O (fun w0 hG0 hh0 hsz0 hoff1 hoff2=>?_)
    obtain⟨v1',v2',v3',gv',sv',pv',hDg,hcellg,hfg,hgsg,_,_⟩:=id hG0
    obtain⟨ag',cg',rfl⟩:=hgsg.form
    refine znb 909 0 O O (fun h=>hoff1 _ h hDg) hcellg ?_
    obtain⟨K,rdK,hK8,hgo⟩:=vd.walk (zY f r) (zhE f r)
    have hK:GoesAll f r K:=⟨rdK,hgo⟩
    refine Vs 6 O ?_
    refine zmR 903 3 1 O ?_
    refine znc 901 O (e':=.row 3 1 (.slice (some ⟨b45,0,none⟩) s.of_.length s.of_.length) vl0.length (vl0.map zc)) (by rw [hl0]) ?_
    refine znc 902 O (e':=.row 3 1 (.slice (some ⟨b49,0,none⟩) (zh f).length (zh f).length) (List.replicate (zh f).length (0:Int)).length ((List.replicate (zh f).length (0:Int)).map zc)) (by rw [List.map_replicate,List.length_replicate]) ?_
    refine Vs 7 O ?_
    refine znd (σ:=Nat × List Int × List Int × Value) [8,13] [8,904,906,907,909] [8,13] O (fun e ⟨i,vl,ro,ov⟩=>(18,.int .i64 (yB f r (i - 1)).at_)::(19,.int .i64 (yB f r i).at_)::e) (fun e ⟨i,vl,ro,ov⟩=>(900,.own b51 [.pointer (some ⟨gb,0,none⟩),.slice ao s.of_.length co,.slice an s.nodes.length cn,.slice (some ⟨b45,0,none⟩) s.of_.length s.of_.length,hv,.slice (some ⟨b49,0,none⟩) (zh f).length (zh f).length,ov,.int .i64 (yB f r i).σ.time] 107)::(901,.row 3 1 (.slice (some ⟨b45,0,none⟩) s.of_.length s.of_.length) vl.length (vl.map zc))::(902,.row 3 1 (.slice (some ⟨b49,0,none⟩) (zh f).length (zh f).length) ro.length (ro.map zc))::(903,.row 3 1 ov (yB f r i).σ.outs.length ((yB f r i).σ.outs.map zc))::e) (fun⟨i,vl,ro,ov⟩=>i<=K/\vl.length=s.of_.length/\ro.length=(zh f).length/\zjq f s r i vl/\CtOk f ro (yB f r i).rd) (fun⟨i,vl,ro,ov⟩=>K - i) ((0,vl0,List.replicate (zh f).length 0,.slice none 0 0)) (Sub.of O) (Has.of O) (fun _=>rfl) (fun _=>rfl) (fun _=>rfl) (⟨zoy _,hl0,List.length_replicate,⟨fun _ v hv=>by rw [<- hvl0,zoJ (by omega)],fun j hj=>by omega⟩,zff f⟩) ?_
    rintro⟨i,vl,ro,ov⟩ ⟨hi,hvl,hrl,hpre,hct⟩
    show V _ _ _ _ _ ((18,.int .i64 (yB f r (i - 1)).at_)::(19,.int .i64 (yB f r i).at_)::_) _ ((900,.own b51 [.pointer (some ⟨gb,0,none⟩),.slice ao s.of_.length co,.slice an s.nodes.length cn,.slice (some ⟨b45,0,none⟩) s.of_.length s.of_.length,hv,.slice (some ⟨b49,0,none⟩) (zh f).length (zh f).length,ov,.int .i64 (yB f r i).σ.time] 107)::(901,.row 3 1 (.slice (some ⟨b45,0,none⟩) s.of_.length s.of_.length) vl.length (vl.map zc))::(902,.row 3 1 (.slice (some ⟨b49,0,none⟩) (zh f).length (zh f).length) ro.length (ro.map zc))::(903,.row 3 1 ov (yB f r i).σ.outs.length ((yB f r i).σ.outs.map zc))::_) _
    obtain⟨n,x,hw⟩:=zgt vd hK hi
    have hnl:=(zox.1 hw.nd).1
    have hat:=hw.at_
    obtain⟨x2,he_x2,hm_x2⟩:=gE_ (zh f) (n) (by omega)
    obtain⟨b_x2,o_x2,c_x2,ha_x2,hd_x2,hc_x2,hR_x2⟩:=hgsg.atD he_x2
    obtain rfl:=hR_x2
    refine znb 2000 0 O O (fun h_=>by have h1_:=hoff1 _ h_;have h2_:=hd_x2;first | omega | exact h1_ h2_) hc_x2 ?_
    obtain rfl:x2=x:=Option.some.inj (he_x2.symm.trans hw.nd)
    refine Vs 7 O ?_
    refine zmL 93 909 0 O O ?_
    refine Vs 4 O ?_
    refine zmN 2000 tR34 ts65 O ha_x2 (by omega) (n) (hat) O ?_
    refine Vs 5 O ?_
    refine zkG O (fun c=>?_) (fun c=>?_)
    ·
     have hiK:i<K:=by
      rcases Nat.lt_or_ge i K with h | h
      . exact h
      . have:=(hw.fin (by omega)).2;omega
     obtain⟨y,hy⟩:∃ y:Nat,(yB f r (i - 1)).at_=(y:Int):=by
      obtain⟨n0,x0,hw0⟩:=zgt vd hK (show i - 1<=K by omega)
      exact⟨n0,hw0.at_⟩
     obtain⟨hinv,hyp⟩:=zim vd hR hK hi hw hy hvl hpre
     refine Vs 8 O ?_
     refine zn4 901 (E:=fun _:Unit=>qq (.slice (some ⟨b45,0,none⟩) s.of_.length s.of_.length) (qs f (zh f) s y vl (zk s n).phis)) Tryz.call47 O (fun _=>⟨trivial,fun _ h=>h⟩) (fun w hI=>hy ▸ hat ▸ zgW f (zh f) s hR n hnl y hyp (by omega) (zjv hbig.2 hnl) vl _ hvl O hbig.1 b51 gb b45 _ _ _ _ _ _ _ D w (hI.at 900 O).cells (Tr1 hI.k3 hS) (hI.at 901 O) (fun q hq e=>by have h1:=hI.own 901 3 O O q (congrArg some e);have:=hD q hq;omega) (fun e=>hI.sep (k:=901) (k2:=900) O O (by decide) (q:=b51) (congrArg some e) O)) ?_
     rintro _ ⟨⟩ rfl
     have hjl:=zb8 (f:=f) (g:=zh f) (s:=s) (y:=y) (vl:=vl) (zk s n).phis
     refine Vs 6 O ?_
     refine znQ [900,901,902,903] (Hn:=fun z:List Int × List Int × Value=>[(900,.own b51 [.pointer (some ⟨gb,0,none⟩),.slice ao s.of_.length co,.slice an s.nodes.length cn,.slice (some ⟨b45,0,none⟩) s.of_.length s.of_.length,hv,.slice (some ⟨b49,0,none⟩) (zh f).length (zh f).length,z.2.2,.int .i64 (yB f r (i+1)).σ.time] 107),(901,.row 3 1 (.slice (some ⟨b45,0,none⟩) s.of_.length s.of_.length) z.1.length (z.1.map zc)),(902,.row 3 1 (.slice (some ⟨b49,0,none⟩) (zh f).length (zh f).length) z.2.1.length (z.2.1.map zc)),(903,.row 3 1 z.2.2 (yB f r (i+1)).σ.outs.length ((yB f r (i+1)).σ.outs.map zc))]) [(8,some (8,0)),(13,some (900,0)),(90,some (900,0)),(91,some (900,0)),(92,some (900,0)),(93,some (909,0)),(94,some (909,0)),(95,some (909,3)),(98,some (2000,0)),(99,some (2000,0)),(102,some (900,0)),(107,some (900,0))] Tryz.call48 O (fun _ _=>rfl) (fun _=>rfl) (fun w hI=>zdR O O (hat ▸ zir f s vd hR r e0' K hK i hiK n x2 hw (qs f (zh f) s y vl (zk s n).phis) ro (by omega) hrl hinv hct b51 gb _ _ _ _ _ ov (fun q=>D q\/(la<=q/\q<lz)) (fun q=>hv.ownBlock=some q) w (fun q hq=>Nat.lt_of_lt_of_le (hsz0 q hq) (Keep.size hI.k0)) (hI.held O O O) ((Tr1 hI.k3 hS).wide fun q h=>.inl h) (hG0.keep hI.k0 fun q hq _ h=>hoff1 q h hq) (hh0.keep ze hI.k0 fun q hq _ h=>hoff2 q h hq) (fun q hq hd=>hI.offF 904 O q hd (zgL O hq)) (fun q hq hd=>hI.offF 907 O q hd (zgL O hq)))) ?_
     rintro _ ⟨vl',ro',ov'⟩ ⟨rfl,hl',hpre',hrl',hct'⟩
     have hl2:vl'.length=s.of_.length:=hl'.trans (hjl.trans hvl)
     have hrl2:ro'.length=(zh f).length:=hrl'.trans hrl
     refine Vs 4 O ?_
     refine V.back (⟨i+1,vl',ro',ov'⟩) (Sub.of O) (Has.of O) (⟨by omega,hl2,hrl2,zin hw hpre',hct'⟩) (by first | omega | (dsimp only;omega)) 0 O O
    ·
     have hiK:i=K:=by
      rcases Nat.lt_or_ge i K with h | h
      . have:=(hw.go h).2;omega
      . omega
     have hfin:(yB f r i).σ=zeP f r:=by rw [hiK];exact congrArg Mc.σ hgo.1
     rw [hfin]
     refine zmG (p:=∃ a c,ov=.slice a (zeP f r).outs.length c) (fun w hI=>xL (hI.at 903 O)) (fun hform=>?_)
     obtain⟨oa,oc,rfl⟩:=hform
     refine Vs 16 O ?_
     refine zl7 Tryz.results18 tg47 ts47 O O O O (fun w hI=>⟨_,rfl,⟨_,_,by rw [e0'],fun h=>absurd e0' h,fun _=>⟨zlM (R:=yj) (D:=fun b=>W.heap.size<=b) zc (fun _ _=>rfl) (hI.at 903 O) (fun q hq=>hI.own 903 3 O O q hq),rfl⟩⟩,hI.k3⟩)
theorem zgX {w:World} {e:TypeId} {k:Nat} {v:Value} {n:Nat} {xs:List Value} (h:w.ownsRow 0 e k v n xs):∃ ao c,v=.slice ao n c/\(0<n->∃ b,ao=some ⟨b,0,none⟩):=by
 rcases h.2 with⟨rfl,rfl⟩ | ⟨g,cap,cur,rfl,_⟩
 . exact⟨_,_,rfl,fun h=>by omega⟩
 . exact⟨_,_,rfl,fun _=>⟨_,rfl⟩⟩
def FdOk (D:Nat->Prop) (W:World) (hs:List Value) (fl:List (List Int)) (G:Nat->Prop) (w:World):Prop:=hs.length=fl.length/\∀ (j:Nat) l,fl[j]?=some l->∃ v,hs[j]?=some v/\(SlR 1 yj D W v l\/SlR 1 yj G w v l)
abbrev FdP (D:Nat->Prop) (W:World) (hs:List Value) (fl:List (List Int)) (G:Nat->Prop):HE:=.res G (FdOk D W hs fl G)
theorem FdP.loc {D:Nat->Prop} {W:World} {hs:List Value} {fl:List (List Int)} {G:Nat->Prop}:(FdP D W hs fl G).loc:=fun w w' T h hk hT=>by
 have h:FdOk D W hs fl G w:=h
 refine⟨h.1,fun j l hj=>?_⟩
 obtain⟨v,h1,h2⟩:=h.2 j l hj
 exact⟨v,h1,h2.imp id fun h3=>h3.keep ze hk fun b hb hlt=>hT b hlt hb⟩
theorem znD {D:Nat->Prop} {W w:World} (n:Nat):FdOk D W (List.replicate n (.slice none 0 0)) (List.replicate n []) (fun _=>False) w:=by
 refine⟨by simp,fun j l hj=>?_⟩
 rw [List.getElem?_replicate] at hj
 split at hj
 ·
  rename_i h
  cases hj
  exact⟨_,by rw [List.getElem?_replicate,zou h],.inl SlR.nil⟩
 . cases hj
theorem FdOk.set {D:Nat->Prop} {W w:World} {hs:List Value} {fl:List (List Int)} {G G':Nat->Prop} (h:FdOk D W hs fl G w) {q:Nat} {v:Value} {l:List Int} (hG:∀ b,G b->G' b) (hv:SlR 1 yj D W v l\/SlR 1 yj G' w v l):FdOk D W (hs.set q v) (fl.set q l) G' w:=by
 refine⟨by rw [List.length_set,List.length_set];exact h.1,fun j l' hj=>?_⟩
 by_cases e:q=j
 ·
  subst e
  have hlt:q<fl.length:=by have:=(zox.1 hj).1;rw [List.length_set] at this;exact this
  rw [List.getElem?_set_self hlt] at hj
  cases hj
  exact⟨v,List.getElem?_set_self (by rw [h.1];exact hlt),hv⟩
 ·
  rw [List.getElem?_set_ne e] at hj
  obtain⟨v',h1,h2⟩:=h.2 j l' hj
  exact⟨v',by rw [List.getElem?_set_ne e];exact h1,h2.imp id fun h3=>h3.wide ze hG⟩
theorem FdOk.get {D:Nat->Prop} {W w:World} {hs:List Value} {fl:List (List Int)} {G:Nat->Prop} (h:FdOk D W hs fl G w) (hE:Ext W w) {j:Nat} {l:List Int} {v:Value} (hj:fl[j]?=some l) (hv:hs[j]?=some v):SlR 1 yj (fun q=>D q\/G q) w v l:=by
 obtain⟨v',h1,h2⟩:=h.2 j l hj
 rw [hv] at h1
 cases h1
 rcases h2 with h2 | h2
 . exact (h2.ext ze hE).wide ze fun _ h=>.inl h
 . exact h2.wide ze fun _ h=>.inr h
theorem FdOk.form {D:Nat->Prop} {W w:World} {hs:List Value} {fl:List (List Int)} {G:Nat->Prop} (h:FdOk D W hs fl G w) {j:Nat} {l:List Int} (hj:fl[j]?=some l):∃ a c,hs[j]?=some (.slice a l.length c):=by
 obtain⟨v',h1,h2⟩:=h.2 j l hj
 rcases h2 with h2 | h2
 . obtain⟨a,c,rfl⟩:=h2.form;exact⟨a,c,h1⟩
 . obtain⟨a,c,rfl⟩:=h2.form;exact⟨a,c,h1⟩
theorem zcm (l:List Int):l.flatMap (fun x=>[zc x])=l.map zc:=by
 induction l with
 | nil=>rfl
 | cons x l ih=>rw [List.flatMap_cons,ih];rfl
theorem zit {w:World} {t:TypeId} {b m c j:Nat} {xs:List Value} (h:w.ownsRow 0 t 1 (.slice (some ⟨b,0,none⟩) m c) m xs) (hj:j<=m):w.ownsRow 0 t 1 (.slice (some ⟨b,0,none⟩) j c) j (xs.take j):=by
 obtain⟨sp,hB,hc,hcm,hlen⟩:=qz h
 have hx:=h.1
 have:=ym (k:=1) (n:=j) (cap:=c) hB (by omega) hcm hlen
 rwa [Nat.mul_one,List.take_append_of_le_length (by omega)] at this
theorem zfg (f:Fl) (g:List Nd) (s:Sf) (hsz:snodes f.body+zA f.hatches<=1024) (hbk:sbulk f.body<=1000000) (hbig:s.of_.length<=1000000/\(LP s g.length).length<=1000000) (hM:(ye f g s g.length).length+muN s g.length (List.replicate s.of_.length false)<=1000000000) (hul:∀ x ∈ s.nodes,x.uses.length<=1000000) (v1 v2 v3 gv ofv nodv:Value) (D:Nat->Prop) (W:World) (hf:RFl D W f v1 v2 v3) (hg:SlR 4 RNd D W gv g) (hS:RSf D W s ofv nodv) (hD:∀ q,D q->q<W.heap.size) :
  Calls Tryz.prog 21 #[.agg #[v1,v2,v3],.agg #[gv],.agg #[ofv,nodv]] W (Ret fun rr w'=>(∃ u,rr=.tuple #[u,.int .i64 (yn f g s)]/\(yn f g s ≠ 0->u=.slice none 0 0)/\(yn f g s=0->SlR 1 zjD (fun b=>W.heap.size<=b) w' u (kY f g s)))/\Ext W w'):=by
 obtain⟨a1,c1,rfl⟩:=hf.vars.form
 obtain⟨a2,c2,rfl⟩:=hf.hatches.form
 obtain⟨a3,c3,rfl⟩:=hf.body.form
 have hg0:=hg
 obtain⟨ag,cg,rfl⟩:=hg.form
 have hofs:=hS.of_
 have hnod:=hS.nodes
 obtain⟨ao,co,rfl⟩:=hofs.form
 obtain⟨an,cn,rfl⟩:=hnod.form
 have hgm:=hg.max
 have hom:=hofs.max
 have hnm:=hnod.max
 refine zmw Tryz.func21 O Tryz.ntmps21 O (zmE ?_)
 refine Vs 2 O ?_
 refine V.box 3 O O (fun b3=>?_)
 refine V.box 4 O O (fun b4=>?_)
 refine V.box 5 O O (fun b5=>?_)
 refine Vs 10 O ?_
 refine zmZ Tryz.call16 O (fun w hI=>jZ f g s hsz hbk hbig _ _ _ _ _ _ D w (Tr1 hI.k0 hf) (Tr1 hI.k0 hg) (Tr1 hI.k0 hS) (fun q hq=>Nat.lt_of_lt_of_le (hD q hq) (Keep.size hI.k0))) ?_
 refine Vs 9 O ?_
 refine zkG O (fun c0=>?_) (fun c0=>?_)
 ·
  refine Vs 9 O ?_
  refine zkZ Tryz.results21 O O (fun w hI=>⟨_,rfl,⟨_,rfl,fun _=>rfl,fun h=>absurd h c0⟩,hI.k0⟩)
 ·
  have c0':yn f g s=0:=zos.1 c0
  obtain⟨hgc,hR⟩:=zgA c0'
  obtain⟨hck,hgg⟩:=jq (zoG hgc)
  have vd:Valid f:=⟨hck,hsz,hbk⟩
  have hF:=hR.toFormF
  have hlen:=hF.len
  have hlens:=vd.lens
  have hss:=vd.ssize
  have hp:PrOk f g:=by rw [hgg];exact vd.prOk
  have hk:GOk f g:=by rw [hgg];exact vd.gOk
  have hgl1:g.length<=8000:=by
   have h1:=yz f vd.plain
   have h2:=yU f.body
   rw [hgg];omega
  refine Vs 6 O ?_
  refine zn1 tc37 O (fun w hI=>yE f g hp (by omega) (by omega) _ _ _ _ D w (Tr1 hI.k0 hf) (Tr1 hI.k0 hg) (fun q hq=>Nat.lt_of_lt_of_le (hD q hq) (Keep.size hI.k0))) ?_
  rintro gp w1 w2 hI1 hk12 ⟨gb,rfl,hG⟩ hlow
  have hoff:∀ q,HS _ q->¬ (D q\/(w1.heap.size<=q/\q<w2.heap.size)):=fun q hs hq=>by
   have h1:=hlow q hs
   have h2:=hI1.hsE 0 rfl hs
   rcases hq with hq | hq
   . have:=hD q hq;omega
   . omega
  obtain⟨v1',v2',v3',gv',sv',pv',hDg,hcellg,hfg,hgsg,hstg,_⟩:=id hG
  obtain⟨ag',cg',rfl⟩:=hgsg.form
  obtain⟨as',cs',rfl⟩:=hstg.form
  have hstm:(g.map (stN f)).length=g.length:=zoD _
  generalize hgm':g.map (stN f)=gm at *
  refine znb 909 0 O O (fun h=>hoff _ h hDg) hcellg ?_
  refine Vs 4 O ?_
  refine zmL 9 909 0 O O ?_
  refine Vs 4 O ?_
  refine zlz 34 tu89 Tryz.el27 O (by omega) (by omega) (zs:=List.replicate s.of_.length (.slice none 0 0)) (qw _ _ O) (by simp) (fun b34=>?_)
  refine Vs 4 O ?_
  refine zmR 902 3 1 O ?_
  refine zmR 904 3 1 O ?_
  refine znH 904 (e':=FdP D W (List.replicate s.of_.length (.slice none 0 0)) (yZ s 0) (fun _=>False)) O (fun w hI=>znD _) (FdP.loc) (fun _ h=>h) (fun q hq=>hq.elim) ?_
  refine Vs 14 O ?_
  refine znd (σ:=Nat × List Value × Value × (Nat->Prop)) [5,9,10,36,37] [5,909] [5,9] O (fun e ⟨i,hs,wv,G⟩=>(38,.int .i64 i)::(11,wv)::e) (fun e ⟨i,hs,wv,G⟩=>(34,.row 27 1 (.slice (some ⟨b34,0,none⟩) s.of_.length s.of_.length) s.of_.length hs)::(902,.row 3 1 wv (ye f g s i).length ((ye f g s i).map zc))::(904,FdP D W hs (yZ s i) G)::e) (fun⟨i,hs,wv,G⟩=>i<=s.nodes.length/\hs.length=s.of_.length) (fun⟨i,hs,wv,G⟩=>s.nodes.length - i) ((0,List.replicate s.of_.length (.slice none 0 0),.slice none 0 0,fun _=>False)) (Sub.of O) (Has.of O) (fun _=>rfl) (fun _=>rfl) (fun _=>rfl) (⟨zoy _,List.length_replicate⟩) ?_
  rintro⟨i,hs,wv,G⟩ ⟨hi,hhl⟩
  show V _ _ _ _ _ ((38,.int .i64 i)::(11,wv)::_) _ ((34,.row 27 1 (.slice (some ⟨b34,0,none⟩) s.of_.length s.of_.length) s.of_.length hs)::(902,.row 3 1 wv (ye f g s i).length ((ye f g s i).map zc))::(904,FdP D W hs (yZ s i) G)::_) _
  refine Vs 6 O ?_
  refine zkG O (fun li=>?_) (fun li=>?_)
  ·
   refine Vs 7 O ?_
   obtain⟨x,he_x,hm_x⟩:=gE_ s.nodes (i) (by omega)
   obtain⟨b_x,o_x,c_x,ha_x,_,hc_x,hR_x⟩:=hnod.at he_x
   obtain⟨v1_x,v2_x,rfl,hp_x,hu_x⟩:=hR_x
   obtain⟨a1_x,n1_x,rfl⟩:=hp_x.form
   obtain⟨a2_x,n2_x,rfl⟩:=hu_x.form
   refine zna 1000 1 O O hc_x ?_
   refine zmN 1000 tR28 ts59 O ha_x (by omega) (_) (rfl) O ?_
   have hxn:zk s i=x:=yO he_x
   have hnodf:=hF.nod i x he_x
   have hix:i<g.length:=by omega
   have hdfn:=hF.dfn hix
   rw [hxn] at hdfn
   have hulx:=hul x hm_x
   refine Vs 1 O ?_
   refine V.alloc 13 tz59 O O (fun b13=>?_)
   refine Vs 5 O ?_
   refine zmR 903 3 1 O ?_
   refine Vs 14 O ?_
   refine znd (σ:=Nat × Value) [5,9,10,11,12,13,36,37,38,44,45] [5,13,909] [5,9,13] O (fun e ⟨j,uv⟩=>(46,.int .i64 j)::(14,uv)::e) (fun e ⟨j,uv⟩=>(903,.row 3 1 uv ((x.uses.take j).map (·.2)).length (((x.uses.take j).map (·.2)).map zc))::(34,.row 27 1 (.slice (some ⟨b34,0,none⟩) s.of_.length s.of_.length) s.of_.length hs)::(902,.row 3 1 wv (ye f g s i).length ((ye f g s i).map zc))::(904,FdP D W hs (yZ s i) G)::e) (fun⟨j,uv⟩=>j<=x.uses.length) (fun⟨j,uv⟩=>x.uses.length - j) ((0,.slice none 0 0)) (Sub.of O) (Has.of O) (fun _=>rfl) (fun _=>rfl) (fun _=>rfl) (zoy _) ?_
   rintro⟨j,uv⟩ hj
   show V _ _ _ _ _ ((46,.int .i64 j)::(14,uv)::_) _ ((903,.row 3 1 uv ((x.uses.take j).map (·.2)).length (((x.uses.take j).map (·.2)).map zc))::(34,.row 27 1 (.slice (some ⟨b34,0,none⟩) s.of_.length s.of_.length) s.of_.length hs)::(902,.row 3 1 wv (ye f g s i).length ((ye f g s i).map zc))::(904,FdP D W hs (yZ s i) G)::_) _
   have hul2:((x.uses.take j).map (·.2)).length<=1000000:=by rw [zoD,zoN];omega
   refine Vs 6 O ?_
   refine zkG O (fun lj=>?_) (fun lj=>?_)
   ·
    refine Vs 6 O ?_
    obtain⟨u,he_u,hm_u⟩:=gE_ x.uses (j) (by omega)
    obtain⟨b_u,o_u,c_u,ha_u,_,hc_u,hR_u⟩:=hu_x.at he_u
    obtain rfl:=hR_u
    refine zna 2000 1 O O hc_u ?_
    refine zmN 2000 tR57 ts85 O ha_u (by omega) (_) (rfl) O ?_
    refine Vs 1 O ?_
    refine V.alloc 16 tz85 O O (fun b16=>?_)
    refine Vs 7 O ?_
    refine V.bs 53 [(0,_)] tR27 ts3 tz3 (by decide) O O (by kernel_rfl) (fun b53=>?_)
    refine zmS 903 53 tu27 Tryz.el3 O (by decide) O O (by omega) (by omega) (fun u903=>?_)
    refine Va 8 O (by omega) ?_
    refine znc 903 O (e':=.row 3 1 u903 ((x.uses.take (j+1)).map (·.2)).length (((x.uses.take (j+1)).map (·.2)).map zc)) (by rw [zd he_u];simp [zc]) ?_
    refine V.back (⟨j+1,u903⟩) (Sub.of O) (Has.of O) (by omega) (by first | omega | (dsimp only;omega)) 0 O O
   ·
    obtain rfl:j=x.uses.length:=by omega
    rw [zoo] at hul2
    refine znc 903 O (e':=.row 3 1 uv (x.uses.map (·.2)).length ((x.uses.map (·.2)).map zc)) (by rw [zoo]) ?_
    refine Vs 15 O ?_
    refine znd (σ:=Nat × List Value) [5,9,10,11,12,13,14,36,37,38,57,58] [5,13,909] [5,9,13] O (fun e ⟨j,hs⟩=>(59,.int .i64 j)::e) (fun e ⟨j,hs⟩=>(34,.row 27 1 (.slice (some ⟨b34,0,none⟩) s.of_.length s.of_.length) s.of_.length hs)::(904,FdP D W hs (zbn s i x j) G)::(903,.row 3 1 uv (x.uses.map (·.2)).length ((x.uses.map (·.2)).map zc))::(902,.row 3 1 wv (ye f g s i).length ((ye f g s i).map zc))::e) (fun⟨j,hs⟩=>j<=x.phis.length/\hs.length=s.of_.length) (fun⟨j,hs⟩=>x.phis.length - j) ((0,hs)) (Sub.of O) (Has.of O) (fun _=>rfl) (fun _=>rfl) (fun _=>rfl) (⟨zoy _,hhl⟩) ?_
    rintro⟨j,hs⟩ ⟨hj,hhl⟩
    show V _ _ _ _ _ ((59,.int .i64 j)::_) _ ((34,.row 27 1 (.slice (some ⟨b34,0,none⟩) s.of_.length s.of_.length) s.of_.length hs)::(904,FdP D W hs (zbn s i x j) G)::(903,.row 3 1 uv (x.uses.map (·.2)).length ((x.uses.map (·.2)).map zc))::(902,.row 3 1 wv (ye f g s i).length ((ye f g s i).map zc))::_) _
    have hpmx:=hp_x.max
    refine Vs 6 O ?_
    refine zkG O (fun lj=>?_) (fun lj=>?_)
    ·
     refine Vs 6 O ?_
     obtain⟨p,he_p,hm_p⟩:=gE_ x.phis (j) (by omega)
     obtain⟨b_p,o_p,c_p,ha_p,_,hc_p,hR_p⟩:=hp_x.at he_p
     obtain⟨v1_p,v2_p,rfl,hf_p,hg_p⟩:=hR_p
     obtain⟨a1_p,n1_p,rfl⟩:=hf_p.form
     obtain⟨a2_p,n2_p,rfl⟩:=hg_p.form
     refine zna 3000 1 O O hc_p ?_
     refine zmN 3000 tR56 ts88 O ha_p (by omega) (_) (rfl) O ?_
     obtain⟨q,hq,hql⟩:=qJ (hnodf.phi.ver p hm_p)
     refine Vs 1 O ?_
     refine V.alloc 18 tz88 O O (fun b18=>?_)
     refine Va 10 O (by omega) ?_
     refine zmX 34 (q) ts27 O (by omega) (by omega) ?_
     refine znH 904 (e':=FdP D W (hs.set q (.slice a2_p p.args.length n2_p)) (zbn s i x (j+1)) G) O (fun w hI=>(by rw [zf8 he_p,hq,zoF];exact (show FdOk _ _ _ _ _ _ from hI.at 904 O).set (fun _ h=>h) (.inl hg_p))) (FdP.loc) (fun _ h=>h) (fun q h=>h) ?_
     refine Va 7 O (by omega) ?_
     refine V.back (⟨j+1,hs.set q (.slice a2_p p.args.length n2_p)⟩) (Sub.of O) (Has.of O) (⟨by omega,by rw [List.length_set];exact hhl⟩) (by first | omega | (dsimp only;omega)) 0 O O
    ·
     obtain rfl:j=x.phis.length:=by omega
     refine zmG (p:=∃ a c,uv=.slice a (x.uses.map (·.2)).length c) (fun w hI=>xL (hI.at 903 O)) (fun hform=>?_)
     obtain⟨au,cu,rfl⟩:=hform
     refine Vs 12 O ?_
     refine zkG O (fun d0=>?_) (fun d0=>?_)
     ·
      obtain⟨q,hq,hql⟩:=qJ (hnodf.yes (hdfn.1 d0))
      refine Va 6 O (by omega) ?_
      refine zmX 34 (q) ts27 O (by omega) (by omega) ?_
      refine znU 904 903 (e':=FdP D W (hs.set q (.slice au (x.uses.map (·.2)).length cu)) (yZ s (i+1)) (fun b=>G b\/(Value.slice au (x.uses.map (·.2)).length cu).ownBlock=some b)) [(5,some (5,0)),(9,some (909,0)),(13,some (13,0)),(70,some (13,2)),(74,some (13,2))] O O O (fun w hI=>(by rw [zgJ he_x d0,hq,zoF];exact (show FdOk _ _ _ _ _ _ from hI.at 904 O).set (fun _ h=>.inl h) (.inr (zlM zc (fun _ _=>rfl) (hI.at 903 O) fun b hb=>.inr hb)))) (FdP.loc) (fun _ h=>h) (fun b hb=>hb) ?_
      have hns:¬ jc f g s i=true:=by unfold jc;rw [hxn];simp [d0]
      refine znc 902 O (e':=.row 3 1 wv (ye f g s (i+1)).length ((ye f g s (i+1)).map zc)) (by rw [kg hns]) ?_
      refine Va 7 O (by omega) ?_
      refine V.back (⟨i+1,hs.set q (.slice au (x.uses.map (·.2)).length cu),wv,fun b=>G b\/(Value.slice au (x.uses.map (·.2)).length cu).ownBlock=some b⟩) (Sub.of O) (Has.of O) (⟨by omega,by rw [List.length_set];exact hhl⟩) (by first | omega | (dsimp only;omega)) 0 O O
     ·
      obtain⟨y,he_y,hm_y⟩:=gE_ g (i) (by omega)
      obtain⟨b_y,o_y,c_y,ha_y,hd_y,hc_y,hR_y⟩:=hgsg.atD he_y
      obtain rfl:=hR_y
      refine znb 4000 0 O O (fun h_=>by have h1_:=hoff _ h_;have h2_:=hd_y;first | omega | exact h1_ h2_) hc_y ?_
      have hyn:xF g i=y:=xd he_y
      have hsk:jc f g s i=decide (y.kind ≠ 2\/(zU f y.at_).act=1):=by unfold jc;rw [hxn,hyn];simp [d0]
      have hwl:=zgK (f:=f) (g:=g) (s:=s) i
      have hwm:=zik (f:=f) (g:=g) (s:=s) (show i<=g.length by omega)
      obtain⟨st,he_st,hm_st⟩:=gE_ gm (i) (by omega)
      obtain⟨b_st,o_st,c_st,ha_st,hd_st,hc_st,hR_st⟩:=hstg.atD he_st
      obtain⟨v1_st,v2_st,v3_st,v4_st,rfl,hk_st,ht_st,hs_st,hb_st⟩:=hR_st.get
      obtain⟨a1_st,n1_st,rfl⟩:=hk_st.form
      obtain⟨a2_st,n2_st,rfl⟩:=ht_st.form
      obtain⟨a3_st,n3_st,rfl⟩:=hs_st.form
      obtain⟨a4_st,n4_st,rfl⟩:=hb_st.form
      refine znb 5000 0 O O (fun h_=>by have h1_:=hoff _ h_;have h2_:=hd_st;first | omega | exact h1_ h2_) hc_st ?_
      refine Vs 7 O ?_
      refine zmN 4000 tR34 ts65 O ha_y (by omega) (_) (rfl) O ?_
      refine Vs 4 O ?_
      refine V.sp 87 O (fun k2=>?_) (fun k2=>?_)
      ·
       have hs1:jc f g s i=true:=by rw [hsk];simp [k2]
       refine Vs 16 O ?_
       refine zng 902 (fun x=>[zc x]) (fun _=>rfl) (by simp [Value.oneCell']) zcc tu27 Tryz.el3 O (by decide) O (fun w hI=>⟨_,zlM (D:=fun _=>True) zc (fun _ _=>rfl) (hI.at 903 O) (fun _ _=>trivial)⟩) (by omega) (by omega) (fun u902=>?_)
       refine znc 904 O (e':=FdP D W hs (yZ s (i+1)) G) (by rw [zch he_x d0]) ?_
       refine znc 902 O (e':=.row 3 1 u902 (ye f g s (i+1)).length ((ye f g s (i+1)).map zc)) (by rw [qN hs1,hxn,zor,List.map_append,zcm]) ?_
       refine Va 8 O (by omega) ?_
       refine V.back (⟨i+1,hs,u902,G⟩) (Sub.of O) (Has.of O) (⟨by omega,hhl⟩) (by first | omega | (dsimp only;omega)) 0 O O
      ·
       refine Vs 5 O ?_
       refine zmN 5000 tR24 ts72 O ha_st (by omega) (_) (rfl) O ?_
       have hstn:st.act=(zU f y.at_).act:=by
        have h1:gm[i]?=some (stN f y):=by rw [<- hgm',zoA,he_y];rfl
        rw [Option.some.inj (he_st.symm.trans h1)]
        have h2:=(hk.at he_y (.inl (by omega))).1
        unfold stN;rw [zou h2]
       refine Vs 6 O ?_
       refine zkG O (fun a1=>?_) (fun a1=>?_)
       ·
        have hs1:jc f g s i=true:=by rw [hsk,<- hstn];simp [a1]
        refine Vs 3 O ?_
        refine zng 902 (fun x=>[zc x]) (fun _=>rfl) (by simp [Value.oneCell']) zcc tu27 Tryz.el3 O (by decide) O (fun w hI=>⟨_,zlM (D:=fun _=>True) zc (fun _ _=>rfl) (hI.at 903 O) (fun _ _=>trivial)⟩) (by omega) (by omega) (fun u902=>?_)
        refine znc 904 O (e':=FdP D W hs (yZ s (i+1)) G) (by rw [zch he_x d0]) ?_
        refine znc 902 O (e':=.row 3 1 u902 (ye f g s (i+1)).length ((ye f g s (i+1)).map zc)) (by rw [qN hs1,hxn,zor,List.map_append,zcm]) ?_
        refine Va 8 O (by omega) ?_
        refine V.back (⟨i+1,hs,u902,G⟩) (Sub.of O) (Has.of O) (⟨by omega,hhl⟩) (by first | omega | (dsimp only;omega)) 0 O O
       ·
        have hns:¬ jc f g s i=true:=by
         have hk2:y.kind=2:=by omega
         rw [hsk,<- hstn];simp [a1,hk2]
        refine znc 904 O (e':=FdP D W hs (yZ s (i+1)) G) (by rw [zch he_x d0]) ?_
        refine znc 902 O (e':=.row 3 1 wv (ye f g s (i+1)).length ((ye f g s (i+1)).map zc)) (by rw [kg hns]) ?_
        refine Va 7 O (by omega) ?_
        refine V.back (⟨i+1,hs,wv,G⟩) (Sub.of O) (Has.of O) (⟨by omega,hhl⟩) (by first | omega | (dsimp only;omega)) 0 O O
  ·
   obtain rfl:i=s.nodes.length:=by omega
   refine Vs 10 O ?_
   refine zlz 105 Tryz.underlying52 Tryz.el4 O (by omega) (by omega) (zs:=List.replicate s.of_.length (.bool false)) (qw _ _ O) (by simp) (fun b105=>?_)
   refine znc 105 O (e':=.row 4 1 (.slice (some ⟨b105,0,none⟩) s.of_.length s.of_.length) s.of_.length ((List.replicate s.of_.length false).map Value.bool)) (by rw [List.map_replicate]) ?_
   refine znc 902 O (e':=.row 3 1 wv (ye f g s g.length).length ((ye f g s g.length).map zc)) (by rw [hlen]) ?_
   refine znc 904 O (e':=FdP D W hs (yZ s g.length) G) (by rw [hlen]) ?_
   refine Vs 5 O ?_
   refine znd (σ:=List Bool × List Int × Value) [10,19] [] [] O (fun e ⟨nl,wl,wv⟩=>(11,wv)::e) (fun e ⟨nl,wl,wv⟩=>(105,.row 4 1 (.slice (some ⟨b105,0,none⟩) s.of_.length s.of_.length) s.of_.length (nl.map Value.bool))::(902,.row 3 1 wv wl.length (wl.map zc))::(34,.row 27 1 (.slice (some ⟨b34,0,none⟩) s.of_.length s.of_.length) s.of_.length hs)::(904,FdP D W hs (yZ s g.length) G)::e) (fun⟨nl,wl,wv⟩=>WkN f g s nl wl/\wl.length+muN s g.length nl<=1000000000) (fun⟨nl,wl,wv⟩=>wl.length+muN s g.length nl) ((List.replicate s.of_.length false,ye f g s g.length,wv)) (Sub.of O) (Has.of O) (fun _=>rfl) (fun _=>rfl) (fun _=>rfl) (⟨znC hF,hM⟩) ?_
   rintro⟨nl,wl,wv⟩ ⟨hW,hmu⟩
   show V _ _ _ _ _ ((11,wv)::_) _ ((105,.row 4 1 (.slice (some ⟨b105,0,none⟩) s.of_.length s.of_.length) s.of_.length (nl.map Value.bool))::(902,.row 3 1 wv wl.length (wl.map zc))::(34,.row 27 1 (.slice (some ⟨b34,0,none⟩) s.of_.length s.of_.length) s.of_.length hs)::(904,FdP D W hs (yZ s g.length) G)::_) _
   have hnll:=hW.len
   refine zmG (p:=∃ a c,wv=.slice a wl.length c/\(0<wl.length->∃ b,a=some ⟨b,0,none⟩)) (fun w hI=>zgX (hI.at 902 O)) (fun hwf=>?_)
   obtain⟨aw,cw,rfl,haw⟩:=hwf
   refine Vs 8 O ?_
   refine zkG O (fun lw=>?_) (fun lw=>?_)
   ·
    obtain⟨wl',v0,rfl⟩:∃ a b,wl=a++[b]:=by
     rcases List.eq_nil_or_concat wl with h | ⟨a,b,h⟩
     . subst h;simp at lw
     . exact⟨a,b,by simpa using h⟩
    obtain⟨hN,v,rfl,hvl⟩:=hW.wrk v0 (by simp)
    have hwl1:(wl'++[(v:Int)]).length=wl'.length+1:=by simp
    obtain⟨b,hb⟩:∃ b,nl[v]?=some b:=⟨_,zoj (by omega)⟩
    obtain⟨l,hl⟩:∃ l,(yZ s g.length)[v]?=some l:=⟨_,zoj (by rw [zdb];exact hvl)⟩
    obtain⟨bw,rfl⟩:=haw (by omega)
    refine zmG (p:=(wl'++[(v:Int)]).length<=cw) (fun w hI=>(qz (show w.ownsRow 0 3 1 (.slice (some ⟨bw,0,none⟩) (wl'++[(v:Int)]).length cw) (wl'++[(v:Int)]).length ((wl'++[(v:Int)]).map zc) from hI.at 902 O)).choose_spec.2.1) (fun hcw=>?_)
    refine Va 10 O (by omega) ?_
    refine zmW 902 (wl'.length) tg3 O (by omega) (show _=some (Value.int .i64 (v:Int)) by simp [zc]) ?_
    refine Va 9 O (by omega) ?_
    refine zml O (fun w hI=>zlO tR27 ts3 O O (by omega)) ?_
    refine V.eq 119 (v:=.slice (some ⟨bw,0,none⟩) wl'.length cw) O (by congr 1;omega) ?_
    refine znH 902 (e':=.row 3 1 (.slice (some ⟨bw,0,none⟩) wl'.length cw) wl'.length (wl'.map zc)) O (fun w hI=>(by have h:=zit (j:=wl'.length) (show w.ownsRow 0 3 1 (.slice (some ⟨bw,0,none⟩) (wl'++[(v:Int)]).length cw) (wl'++[(v:Int)]).length ((wl'++[(v:Int)]).map zc) from hI.at 902 O) (by omega);rwa [List.map_append,List.take_left' (by simp)] at h)) (trivial) (fun _ h=>h) (fun q h=>h) ?_
    refine Va 8 O (by omega) ?_
    refine zmW 105 (v) tg4 O (by omega) (show _=some (Value.bool b) by rw [zoA,hb];rfl) ?_
    refine zml O (fun w hI=>zlV O (by first | exact za | rfl)) ?_
    refine Vs 2 O ?_
    refine V.bool O (fun n0=>?_) (fun n0=>?_)
    ·
     obtain rfl:b=false:=by cases b <;> simp_all
     refine Va 5 O (by omega) ?_
     refine zmX 105 (v) ts4 O (by omega) (by simp;omega) ?_
     refine znc 105 O (e':=.row 4 1 (.slice (some ⟨b105,0,none⟩) s.of_.length s.of_.length) s.of_.length ((nl.set v true).map Value.bool)) (by rw [List.map_set]) ?_
     refine zmG (p:=∃ a c,hs[v]?=some (.slice a l.length c)) (fun w hI=>(show FdOk _ _ _ _ _ _ from hI.at 904 O).form hl) (fun hfd=>?_)
     obtain⟨al,cl,hfd⟩:=hfd
     have hms:=zjo hl (by rw [hb];exact fun e=>by cases e) (show v<nl.length by omega)
     refine Va 7 O (by omega) ?_
     refine zmW 34 (v) tg27 O (by omega) (hfd) ?_
     refine zng 902 (fun x=>[zc x]) (fun _=>rfl) (by simp [Value.oneCell']) zcc tu27 Tryz.el3 O (by decide) O (fun w hI=>⟨_,(show FdOk _ _ _ _ _ _ from hI.at 904 O).get hI.k1 hl hfd⟩) (by omega) (by omega) (fun u902=>?_)
     refine znc 902 O (e':=.row 3 1 u902 (wl'++l).length ((wl'++l).map zc)) (by rw [zor,List.map_append,zcm]) ?_
     refine Vs 3 O ?_
     refine V.back (⟨nl.set v true,wl'++l,u902⟩) (Sub.of O) (Has.of O) (⟨hW.take hF hl,by rw [zor];omega⟩) (by simp only [zor];omega) 0 O O
    ·
     obtain rfl:b=true:=by cases b <;> simp_all
     refine Vs 2 O ?_
     refine V.back (⟨nl,wl',.slice (some ⟨bw,0,none⟩) wl'.length cw⟩) (Sub.of O) (Has.of O) (⟨hW.skip hb,by omega⟩) (by simp only [];omega) 0 O O
   ·
    obtain rfl:wl=[]:=by cases wl;(· rfl);simp at lw
    have hfin:=hW.fin hF
    refine Vs 13 O ?_
    refine zkZ Tryz.results21 O O (fun w hI=>⟨_,rfl,⟨_,by rw [c0'],fun h=>absurd c0' h,fun _=>by rw [<- hfin];exact zlM (R:=zjD) (D:=fun b=>W.heap.size<=b) Value.bool (fun _ _=>rfl) (show w.ownsRow 0 4 1 (.slice (some ⟨b105,0,none⟩) s.of_.length s.of_.length) nl.length (nl.map Value.bool) by rw [hnll];exact hI.at 105 O) (fun q hq=>hI.own 105 1 O O q hq)⟩,hI.k1⟩)
end Go.Proofs.YtckdhgbepmpgiaaGreat
namespace Go.GL
section
variable {P:Program} {n:Nat} {Q:Exit->Act->World->Prop} {ks:List Fr} {env:Env} {A:Tgs} {H Hs:Hp} {Bs B0:zG} {ops:Array Oper} {L:List Nat} {fuel:Nat} {listed:Array Bool} {v:Value}
variable {ty:TypeId} {ps:String} {aft:Array Edge} {g:Option (Nat × Bool)}
theorem zoi (i k q j:Nat) {ts:TypeId} {x y:Operand} {b o:Nat} {cs:List Value} {e:TypeId} (hss:∀ w,(sizeOf ts).run P w=.ok 1 w) (hi:ops[i]?=some ⟨none,.store ts x y,ty,ps,aft,g⟩) (hr:Region.ready .any ops listed=[i])
  (hn:(gd ops env g,hget H k,ev env x,ev env y,qd (Hs.map (·.1)),xW k (Hs.map (·.1)))=(some true,some (.own b cs e),some (.pointer (some ⟨b,o,none⟩)),some v,true,true)) (h1:Go.GL.one v=true) (hj:o=q) (hl:q<cs.length) (hB:Bs.drop j=B0)
  (h:VD P n Q ks ops Hs B0 L fuel (listed.setIfInBounds i true) env A (yw H k (.own b (cs.set q v) e)) Bs):VD P n Q ks ops Hs B0 L (fuel+1) listed env A H Bs:=by
 simp only [Prod.mk.injEq] at hn
 subst hj hB
 obtain⟨h2,h3,h4,h5,h6,h7⟩:=hn
 intro hH hA w hI
 have hB:Blk w b cs e:=hI.at k h3
 obtain⟨c1,c2⟩:=xu h1
 have hH':Has Hs (yw H k (.own b (cs.set o v) e)):=hH.set h3 h7
 refine zn8 i hi hr h2 (M.store hss h4 h5 c1 c2 hB hl) ?_
 rintro w2 ⟨_,hB2,hk2⟩
 have hI2:VI Bs (yw H k (.own b (cs.set o v) e)) w2:=hI.set h3 hk2 hB2 trivial (fun _ h=>h) fun q hq=>⟨.inl hq,by have hq:q=b:=hq;rw [hq];exact hB2.lt⟩
 exact⟨(hI2.drop j).pick hH' h6,h hH' (hA.set h3) w2 hI2⟩
end
section
theorem VI.all {Bs:zG} {H E:Hp} {w:World} (hI:VI Bs H w) (h:E.map (fun x=>hget H x.1)=E.map (fun x=>some x.2)):∀ x ∈ E,x.2.holds w:=fun x hx=>hI.at x.1 (Has.of h x hx)
end
end Go.GL
namespace Go.Proofs.YtckdhgbepmpgiaaGreat
open Go.GL
theorem zbI {P:Program} {f:FuncId} {args:Array Value} {w:World} {k k':Int} (h:k=k') (hc:Calls P f args w (Ret fun r w'=>r=.int .i64 k/\Ext w w')):Calls P f args w (Ret fun r w'=>r=.int .i64 k'/\Ext w w'):=h ▸ hc
theorem zfh (W:World):Calls Tryz.prog 11 #[] W (Ret fun r w'=>r=.bool true/\Ext W w'):=by
 have hsz:=zgG
 have hbk:=zgH
 have hbig:exS22.of_.length<=1000000/\(LP exS22 exG22.length).length<=1000000:=by decide +kernel
 have hbig2:exT22.of_.length<=1000000/\(LP exT22 exG22.length).length<=1000000:=by decide +kernel
 have hbi:∀ k,(xr zgO k).length<=1000000000:=fun k=>by unfold xr;split <;> (try split) <;> decide
 refine zmt Tryz.func11 O Tryz.ntmps11 (zmE ?_)
 refine Vs 7 O ?_
 refine znQ [] (Hn:=fun b:B22=>[(906,.own b.1 [.string ⟨#[120]⟩,.int .i64 1,.int .i64 0,.int .i64 1,.int .i64 0,.string ⟨#[121]⟩,.int .i64 0,.int .i64 0,.int .i64 1,.int .i64 0] 142),(910,.own b.2.1 [.int .i64 0,.int .i64 0,.int .i64 1,.int .i64 0,.int .i64 0,.int .i64 1,.slice none 0 0,.slice none 0 0,.slice none 0 0,.slice none 0 0] 72),(914,.own b.2.2.1 [.int .i64 3,.int .i64 0,.int .i64 0,.int .i64 0,.int .i64 24,.int .i64 0,.slice none 0 0,.slice (some ⟨b.2.1,0,none⟩) 1 1,.slice none 0 0,.slice none 0 0,.int .i64 1,.int .i64 0,.int .i64 0,.int .i64 0,.int .i64 24,.int .i64 1,.slice none 0 0,.slice none 0 0,.slice none 0 0,.slice none 0 0] 72),(916,.own b.2.2.2.1 [.int .i64 0,.int .i64 1,.int .i64 1,.int .i64 1] 3),(919,.own b.2.2.2.2.1 [.int .i64 0,.int .i64 0] 85),(922,.own b.2.2.2.2.2.1 [.int .i64 1,.int .i64 2] 3),(923,.own b.2.2.2.2.2.2.1 [.int .i64 1,.int .i64 2] 3),(925,.own b.2.2.2.2.2.2.2.1 [.int .i64 1,.int .i64 3,.slice (some ⟨b.2.2.2.2.2.1,0,none⟩) 2 2,.slice (some ⟨b.2.2.2.2.2.2.1,0,none⟩) 2 2] 88),(927,.own b.2.2.2.2.2.2.2.2.1 [.int .i64 1,.int .i64 3] 85),(930,.own b.2.2.2.2.2.2.2.2.2 [.slice none 0 0,.slice none 0 0,.int .i64 (-1),.slice none 0 0,.slice (some ⟨b.2.2.2.2.1,0,none⟩) 1 1,.int .i64 (-1),.slice none 0 0,.slice none 0 0,.int .i64 2,.slice (some ⟨b.2.2.2.2.2.2.2.1,0,none⟩) 1 1,.slice (some ⟨b.2.2.2.2.2.2.2.2.1,0,none⟩) 1 1,.int .i64 (-1),.slice none 0 0,.slice none 0 0,.int .i64 (-1)] 59)]) [] Tryz.call31 O (fun _ _=>rfl) (fun _=>rfl) (fun w hI=>zdR O O (zdc w)) ?_
 rintro _ ⟨bv,bb,bx,bo,b9,bf,ba,bp,bu,bn⟩ rfl
 refine Vs 3 O ?_
 refine V.alloc 1 tz26 O O (fun b1=>?_)
 refine V.alloc 2 tz30 O O (fun b2=>?_)
 refine Vs 7 O ?_
 refine zn1 Tryz.call14 O (fun w hI=>zgM exF22 _ _ _ (fun q=>q<w.heap.size) w (ki (hI.all O) (fun q h=>h)) (by decide)) ?_
 rintro rr w1 w2 hI1 hk12 ⟨nv,rfl,hnv⟩ hlow
 rw [zbC] at hnv
 obtain⟨an,cn,rfl⟩:=hnv.form
 refine V.alloc 3 tz36 O O (fun b3=>?_)
 refine Vs 8 O ?_
 refine V.bs 18 [(0,_)] tR27 ts3 tz3 (by decide) O O (by kernel_rfl) (fun b18=>?_)
 refine znh [Value.slice none 0 0,Value.slice none 0 0,Value.slice none 0 0] [(0,1),(1,1),(2,1)] [(0,_)] O O (fun _=>by kernel_rfl) ?_
 refine zn1 Tryz.call18 O (fun w hI=>zjw exF22 exG22 exS22 zgO hsz hbk hbig hbi _ _ _ _ _ _ _ _ _ (fun q=>q<w.heap.size) w (ki (hI.all O) (fun q h=>h)) ((SlR.narrow (by omega) jV (hnv.keep zI hI.k0 (fun b hb _ hs=>by have:=hlow b hs;omega))).wide zI fun q h=>h.2) (zci (hI.all O) (fun q h=>h)) (zo5 (R:=yj) (l:=[(1:Int)]) [[.int .i64 1]] (hI.at 18 O) (Blk.lt (hI.at 18 O)) (fun c hc=>by rw [zoB] at hc;subst hc;rfl) (by decide) ⟨rfl,trivial⟩) SlR.nil SlR.nil (fun q h=>h)) ?_
 rintro rr w3 w4 hI3 hk34 ⟨ov,t,rfl,_,hov⟩ hlow2
 have hc:zdT exF22 exG22 exS22 zgO=0:=by unfold zdT;rw [zot (by rw [zba];decide)];exact zfc
 rw [hc] at hov ⊢
 obtain⟨hov,_⟩:=hov rfl
 rw [zgP] at hov
 obtain⟨ovl,hO⟩:∃ ovl:List Int,ovl=[1]:=⟨_,rfl⟩
 rw [<- hO] at hov
 obtain⟨ao,co,rfl⟩:=hov.form
 have hOl:ovl.length=1:=by rw [hO];rfl
 have hN4:(kY exF22 exG22 exS22).length=4:=(zgI _ _ _).trans rfl
 have hN0:=zfd
 have hN3:=zfe
 refine Vs 3 O ?_
 refine V.alloc 4 Tryz.zeroValue47 O O (fun b4=>?_)
 refine Vs 9 O ?_
 refine zn1 Tryz.call21 O (fun w hI=>zfg exF22 exG22 exS22 hsz hbk hbig zjp (by decide) _ _ _ _ _ _ (fun q=>q<w.heap.size) w (ki (hI.all O) (fun q h=>h)) ((SlR.narrow (by omega) jV (hnv.keep zI hI.k1 (fun b hb _ hs=>by have:=hlow b hs;omega))).wide zI fun q h=>h.2) (zci (hI.all O) (fun q h=>h)) (fun q h=>h)) ?_
 rintro rr w5 w6 hI5 hk56 ⟨nu,rfl,_,hnl⟩ hlow3
 rw [zba] at hnl ⊢
 have hnl:=hnl rfl
 obtain⟨N,hNN⟩:∃ N,N=kY exF22 exG22 exS22:=⟨_,rfl⟩
 rw [<- hNN] at hnl hN4 hN0 hN3
 obtain⟨au,cu,rfl⟩:=hnl.form
 refine Vs 13 O ?_
 refine zmZ Tryz.call16 O (fun w hI=>(zbI zba (jZ exF22 exG22 exS22 hsz hbk hbig _ _ _ _ _ _ (fun q=>q<w.heap.size) w (ki (hI.all O) (fun q h=>h)) ((SlR.narrow (by omega) jV (hnv.keep zI hI.k2 (fun b hb _ hs=>by have:=hlow b hs;omega))).wide zI fun q h=>h.2) (zci (hI.all O) (fun q h=>h)) (fun q h=>h)))) ?_
 refine Vs 2 O ?_
 refine V.sp 35 O (fun q1=>?_) (fun q1=>?_)
 . exact absurd O q1
 ·
  refine Vs 4 O ?_
  refine V.sp 39 O (fun q2=>?_) (fun q2=>?_)
  . exact absurd O q2
  ·
   refine Vs 6 O ?_
   refine V.sp 45 O (fun q3=>?_) (fun q3=>?_)
   . omega
   ·
    obtain⟨z,he_z,hm_z⟩:=gE_ ovl (0) (by omega)
    obtain⟨b_z,o_z,c_z,ha_z,hd_z,hc_z,hR_z⟩:=hov.atD he_z
    obtain rfl:=hR_z
    refine znb 1000 1 O O (fun h_=>by have h1_:=hlow2 _ h_;have h2_:=hd_z;first | omega | exact h1_ h2_) hc_z ?_
    obtain rfl:z=1:=by rw [hO] at he_z;exact (Option.some.inj he_z).symm
    refine Vs 2 O ?_
    refine zmN 1000 tR27 ts3 O ha_z (by omega) (_) (rfl) O ?_
    refine Vs 4 O ?_
    refine V.sp 52 O (fun q4=>?_) (fun q4=>?_)
    . exact absurd O q4
    ·
     refine Vs 4 O ?_
     refine V.sp 56 O (fun q5=>?_) (fun q5=>?_)
     . exact absurd O q5
     ·
      refine Vs 5 O ?_
      refine V.sp 61 O (fun q6=>?_) (fun q6=>?_)
      . omega
      ·
       obtain⟨x0,he_x0,hm_x0⟩:=gE_ N (0) (by omega)
       obtain⟨b_x0,o_x0,c_x0,ha_x0,hd_x0,hc_x0,hR_x0⟩:=hnl.atD he_x0
       obtain rfl:=hR_x0
       refine znb 2000 0 O O (fun h_=>by have h1_:=hlow3 _ h_;have h2_:=hd_x0;first | omega | exact h1_ h2_) hc_x0 ?_
       obtain rfl:x0=true:=Option.some.inj (he_x0.symm.trans hN0)
       refine Vs 1 O ?_
       refine zmN 2000 tR52 ts4 O ha_x0 (by omega) (_) (rfl) O ?_
       refine Vs 1 O ?_
       refine zml O (fun w hI=>zlV O (by first | exact za | rfl)) ?_
       refine Vs 2 O ?_
       refine V.sb 67 O (fun q7=>?_) (fun q7=>?_)
       . cases q7
       ·
        obtain⟨x3,he_x3,hm_x3⟩:=gE_ N (3) (by omega)
        obtain⟨b_x3,o_x3,c_x3,ha_x3,hd_x3,hc_x3,hR_x3⟩:=hnl.atD he_x3
        obtain rfl:=hR_x3
        refine znb 3000 0 O O (fun h_=>by have h1_:=hlow3 _ h_;have h2_:=hd_x3;first | omega | exact h1_ h2_) hc_x3 ?_
        obtain rfl:x3=true:=Option.some.inj (he_x3.symm.trans hN3)
        refine Vs 1 O ?_
        refine zmN 3000 tR52 ts4 O ha_x3 (by omega) (_) (rfl) O ?_
        refine Vs 1 O ?_
        refine zml O (fun w hI=>zlV O (by first | exact za | rfl)) ?_
        refine Vs 3 O ?_
        refine V.bool O (fun q8=>?_) (fun q8=>?_)
        . cases q8
        ·
         refine Vs 3 O ?_
         refine Vw [906,910,914,916,919,922,923,925,1,2,3,18,4,1000,2000,3000] [] O ?_
         refine Vd [0,1,2,3] 0 (by kernel_rfl) O O O ?_
         refine znj 4 O (by kernel_rfl) O (fun w=>zlh tR28 ts59 O O O (by decide)) ?_
         refine Vd [5] 0 (by kernel_rfl) O O O ?_
         refine zmm 6 0 O (by kernel_rfl) O O (fun w hI=>R.load Tryz.isAgg57 O (v:=.slice (some ⟨bu,0,none⟩) 1 1) (by exact Blk.cells (hI.at 930 O) 10 _ O)) ?_
         refine znj 7 O (by kernel_rfl) O (fun w=>zlh tR28 ts59 O O O (by decide)) ?_
         refine Vd [8] 0 (by kernel_rfl) O O O ?_
         refine zoi 9 930 9 0 Tryz.sizeOf56 O (by kernel_rfl) O O O (by simp) O ?_
         refine znj 10 O (by kernel_rfl) O (fun w=>zlh tR57 ts85 O O O (by decide)) ?_
         refine Vd [11] 0 (by kernel_rfl) O O O ?_
         refine zoi 12 927 1 0 ts3 O (by kernel_rfl) O O O (by simp) O ?_
         refine VD.done (by kernel_rfl) ?_
         refine Vs 6 O ?_
         refine zmZ Tryz.call16 O (fun w hI=>(zbI zf7 (jZ exF22 exG22 exT22 hsz hbk hbig2 _ _ _ _ _ _ (fun q=>q<w.heap.size) w (ki (hI.all O) (fun q h=>h)) ((SlR.narrow (by omega) jV (hnv.keep zI hI.k2 (fun b hb _ hs=>by have:=hlow b hs;omega))).wide zI fun q h=>h.2) (zgN (hI.all O) (fun q h=>h)) (fun q h=>h)))) ?_
         refine Vs 5 O ?_
         refine zkW Tryz.results11 O (fun w hI=>⟨_,rfl,rfl,hI.k3⟩)
attribute [local instance 1] Classical.propDecidable
def addN (l:List Bool) (b:Bool) (k:Nat):List Bool × Bool:=if l[k]?=some true then (l,b) else (l.set k true,true)
end Go.Proofs.YtckdhgbepmpgiaaGreat
namespace Go.GL
theorem ziu {p:Prop} [Decidable p] (h:¬ p):some (Value.bool false)=some (Value.bool (decide p)):=by rw [zow h]
theorem ziv {q p:Prop} [Decidable q] [Decidable p] (h:q ↔ p):some (Value.bool (decide q))=some (Value.bool (decide p)):=by rw [zoL.2 h]
end Go.GL
namespace Go.Proofs.YtckdhgbepmpgiaaGreat
open Go.GL
theorem jr (vs:List Vr) (k:Int) (vv:Value) (D:Nat->Prop) (W:World) (hk:0<=k/\k<=3) (hg:∀ v ∈ vs,yr (v.low,v.high)) (hlen:vs.length<=1000000) (hvs:SlR 5 RVr D W vv vs) :
  Calls Tryz.prog 42 #[vv,.int .i64 k] W (Ret fun r w'=>r=.tuple #[.int .i64 ((zn k vs).getD 0),.int .i64 (if (zn k vs).isSome then 0 else 4)]/\Ext W w'):=by
 have hgo:∀ v ∈ zp k vs,yr (v.low,v.high):=fun v hv=>hg v (List.mem_filter.1 hv).1
 have hsp:yg k (zp k vs) 1=zn k vs:=xw k vs 1
 have hall:∀ v ∈ zp k vs,v.kind=k:=fun v hv=>by simpa using (List.mem_filter.1 hv).2
 have hol:=zop (qZ k vs) hlen
 refine zmv Tryz.func42 O Tryz.ntmps42 O (zmE ?_)
 refine Vs 8 O ?_
 refine zne (σ:=Unit) [0,1] [] [] O (fun e u=>(23,.bool (decide (¬ (0<=k/\k<=3))))::e) (fun e u=>e) (fun u=>True) (fun _=>rfl) (fun _=>rfl) ?_ ?_
 ·
  refine Vs 4 O ?_
  refine V.sp 12 O (fun k1_=>?_) (fun k1_=>?_)
  ·
   refine Vs 4 O ?_
   refine V.sp 16 O (fun k2_=>?_) (fun k2_=>?_)
   ·
    refine Vs 4 O ?_
    refine V.sp 20 O (fun k3_=>?_) (fun k3_=>?_)
    ·
     refine Vs 4 O ?_
     refine zkT (()) (Sub.cons (by first | exact boolT (by omega) | exact ziu (by omega) | exact ziv (by omega)) (Sub.of O)) (Has.of O) (trivial) 0 O O
    ·
     refine Vs 4 O ?_
     refine zkT (()) (Sub.cons (by first | exact boolT (by omega) | exact ziu (by omega) | exact ziv (by omega)) (Sub.of O)) (Has.of O) (trivial) 0 O O
   ·
    refine Vs 8 O ?_
    refine zkT (()) (Sub.cons (by first | exact boolT (by omega) | exact ziu (by omega) | exact ziv (by omega)) (Sub.of O)) (Has.of O) (trivial) 0 O O
  ·
   refine Vs 12 O ?_
   refine zkT (()) (Sub.cons (by first | exact boolT (by omega) | exact ziu (by omega) | exact ziv (by omega)) (Sub.of O)) (Has.of O) (trivial) 0 O O
 rintro u _
 refine Vs 1 O ?_
 refine zkG O (fun h0=>?_) (fun h0=>?_)
 . exact absurd hk h0
 ·
  refine Vs 6 O ?_
  refine zn1 Tryz.call85 O (fun w hI=>zi2 vs k vv D w (Tr1 hI.k0 hvs) hlen) ?_
  rintro l w1 w2 hI1 hk12 hos hlow
  obtain⟨al,cl,rfl⟩:=hos.form
  have hml:=hos.max
  refine Vs 10 O ?_
  refine znd (σ:=Nat) [6] [] [] O (fun e i=>(7,.int .i64 i)::e) (fun e i=>e) (fun i=>i<=(zp k vs).length) (fun i=>(zp k vs).length - i) (0) (Sub.of O) (Has.of O) (fun _=>rfl) (fun _=>rfl) (fun _=>rfl) (zoy _) ?_
  rintro i hi
  refine Vs 9 O ?_
  refine zkG O (fun hlt=>?_) (fun hlt=>?_)
  ·
   refine Vs 5 O ?_
   obtain⟨x,he_x,hm_x⟩:=gE_ (zp k vs) (i) (by omega)
   obtain⟨b_x,o_x,c_x,ha_x,hd_x,hc_x,hR_x⟩:=hos.atD he_x
   obtain rfl:=hR_x
   refine znb 1000 0 O O (fun h_=>by have h1_:=hlow _ h_;have h2_:=hd_x;first | omega | exact h1_ h2_) hc_x ?_
   have hgx:=hgo x hm_x
   unfold yr at hgx
   dsimp only at hgx
   refine Vq (by kernel_rfl) ?_
   refine Vs 2 O ?_
   refine zmQ 1000 tR22 ts142 O ha_x (by omega) (_) (rfl) O ?_
   refine Vs 4 O ?_
   refine zmQ 1000 tR22 ts142 O ha_x (by omega) (_) (rfl) O ?_
   refine Vs 4 O ?_
   refine V.sp 44 O (fun b1=>?_) (fun b1=>?_)
   . exact absurd b1 (by omega)
   ·
    refine Vs 2 O ?_
    refine zmQ 1000 tR22 ts142 O ha_x (by omega) (_) (rfl) O ?_
    refine Vs 5 O ?_
    refine V.sp 52 O (fun b2=>?_) (fun b2=>?_)
    . exact absurd b2 (by omega)
    ·
     refine Vs 2 O ?_
     refine zmQ 1000 tR22 ts142 O ha_x (by omega) (_) (rfl) O ?_
     refine Vs 6 O ?_
     refine zkG O (fun b3=>?_) (fun b3=>?_)
     . exact absurd b3 (by omega)
     ·
      refine Va 8 O (by omega) ?_
      refine V.back (i+1) (Sub.of O) (Has.of O) (by omega) (by first | omega | (dsimp only;omega)) 0 O O
  ·
   refine Vs 17 O ?_
   refine znd (σ:=Nat × Int) [6] [] [] O (fun e ⟨j,n⟩=>(8,.int .i64 n)::(9,.int .i64 j)::e) (fun e ⟨j,n⟩=>e) (fun⟨j,n⟩=>j<=(zp k vs).length/\yg k ((zp k vs).take j) 1=some n) (fun⟨j,n⟩=>(zp k vs).length - j) ((0,1)) (Sub.of O) (Has.of O) (fun _=>rfl) (fun _=>rfl) (fun _=>rfl) (⟨zoy _,rfl⟩) ?_
   rintro⟨j,n⟩ ⟨hj,hs⟩
   show V _ _ _ _ _ ((8,.int .i64 n)::(9,.int .i64 j)::_) _ (_) _
   have hn:=yH k ((zp k vs).take j) 1 n (fun v hv=>hgo v (List.mem_of_mem_take hv)) (by omega) (by omega) hs
   refine Vs 9 O ?_
   refine zkG O (fun hlt2=>?_) (fun hlt2=>?_)
   ·
    refine Vs 5 O ?_
    obtain⟨x,he_x,hm_x⟩:=gE_ (zp k vs) (j) (by omega)
    obtain⟨b_x,o_x,c_x,ha_x,hd_x,hc_x,hR_x⟩:=hos.atD he_x
    obtain rfl:=hR_x
    refine znb 2000 0 O O (fun h_=>by have h1_:=hlow _ h_;have h2_:=hd_x;first | omega | exact h1_ h2_) hc_x ?_
    have hgx:=hgo x hm_x
    unfold yr at hgx
    dsimp only at hgx
    have hp:=zdt (n:=n) (s:=x.high - x.low+1) hn.1 hn.2 (by omega) (by omega)
    have hst:yg k ((zp k vs).take (j+1)) 1=if 4096<n*(x.high - x.low+1) then none else some (n*(x.high - x.low+1)):=by
     rw [zd he_x,zS,hs];simp [yg,hall x hm_x]
    refine Vq (by kernel_rfl) ?_
    refine Vs 3 O ?_
    refine zmQ 2000 tR22 ts142 O ha_x (by omega) (_) (rfl) O ?_
    refine Vs 4 O ?_
    refine zmQ 2000 tR22 ts142 O ha_x (by omega) (_) (rfl) O ?_
    refine Va 14 O (by omega) ?_
    refine zkG O (fun hb=>?_) (fun hb=>?_)
    ·
     rw [zou hb] at hst
     have hnone:zn k vs=none:=by
      rw [<- hsp,<- List.take_append_drop (j+1) (zp k vs),zS,hst];rfl
     refine Vs 12 O ?_
     refine zkZ Tryz.results42 O O (fun w hI=>⟨_,rfl,by rw [hnone];rfl,hI.k1⟩)
    ·
     rw [zot hb] at hst
     refine Va 8 O (by omega) ?_
     refine V.back ((j+1,n*(x.high - x.low+1))) (Sub.of O) (Has.of O) (⟨by omega,hst⟩) (by first | omega | (dsimp only;omega)) 0 O O
   ·
    have:j=(zp k vs).length:=by omega
    subst this
    rw [zoo,hsp] at hs
    refine Vs 13 O ?_
    refine zkZ Tryz.results42 O O (fun w hI=>⟨_,rfl,by rw [hs];rfl,hI.k1⟩)
def spN (f:Fl):Nat:=((zn 1 f.vars).getD 0).toNat
theorem js {f:Fl} (vd:Valid f):(∃ m,zn 1 f.vars=some m)/\(∃ m,zn 2 f.vars=some m)/\∃ m,zn 3 f.vars=some m:=by
 have h:=(zX vd.ok).2.1
 unfold zr at h
 split at h
 . rename_i h1;exact absurd h h1
 split at h
 . cases h
 ·
  rename_i h2
  unfold yA at h2
  cases h3:zn 1 f.vars <;> cases h4:zn 2 f.vars <;> cases h5:zn 3 f.vars <;> simp [h3,h4,h5] at h2 ⊢
def rnN (f:Fl):Nat:=((zn 3 f.vars).getD 0).toNat
theorem zk4 {f:Fl} (vd:Valid f):(zn 1 f.vars).getD 0=(spN f:Int)/\1<=spN f/\spN f<=4096:=by
 obtain⟨⟨m,h⟩,_⟩:=js vd
 have h1:=yH 1 f.vars 1 m vd.good (by omega) (by omega) h
 unfold spN
 rw [h,Option.getD_some]
 omega
theorem zk5 {f:Fl} (vd:Valid f):(zn 3 f.vars).getD 0=(rnN f:Int)/\1<=rnN f/\rnN f<=4096:=by
 obtain⟨_,_,m,h⟩:=js vd
 have h1:=yH 3 f.vars 1 m vd.good (by omega) (by omega) h
 unfold rnN
 rw [h,Option.getD_some]
 omega
structure FitC (f:Fl) (a b c:Int):Prop where
 vd:Valid f
 vars:f.vars.length<=10
 hatches:f.hatches.length<=10
 small:sbulk f.body+zA f.hatches<=80
 sp:(spN f:Int)<=a
 pb:(zn 2 f.vars).getD 0<=b
 rn:(rnN f:Int)<=c
theorem zjx (f:Fl) (a b c:Int) (v1 v2 v3:Value) (D:Nat->Prop) (W:World) (hf:RFl D W f v1 v2 v3) :
  Calls Tryz.prog 32 #[.agg #[v1,v2,v3],.int .i64 a,.int .i64 b,.int .i64 c] W (Ret fun r w'=>(∃ q:Bool,r=.bool q/\(q=true->FitC f a b c))/\Ext W w'):=by
 obtain⟨a1,n1,rfl⟩:=hf.vars.form
 obtain⟨a2,n2,rfl⟩:=hf.hatches.form
 obtain⟨a3,n3,rfl⟩:=hf.body.form
 refine zmx Tryz.func32 O Tryz.ntmps32 O (zmE ?_)
 refine Vs 2 O ?_
 refine V.box 4 O O (fun b4=>?_)
 refine Vs 7 O ?_
 refine zmZ Tryz.call28 O (fun w hI=>zhd f 10 80 _ _ _ D w (Tr1 hI.k0 hf) (by decide) (by decide)) ?_
 refine zmF (p:=(f.vars.length:Int)<=10/\(f.hatches.length:Int)<=10/\((sbulk f.body+zA f.hatches:Nat):Int)<=80) (fun hfew=>?_) (fun hfew=>?_)
 ·
  have h1:=zcz f.body
  have hsz:snodes f.body+zA f.hatches<=1024:=by omega
  have hbk:sbulk f.body<=1000000:=by omega
  refine zml O (fun w hI=>zlV O (by first | exact za | rfl)) ?_
  refine Vs 1 O ?_
  refine V.sp 21 O (fun q1=>?_) (fun q1=>?_)
  . exact absurd hfew q1
  ·
   refine Vs 1 O ?_
   refine zmZ Tryz.call29 O (fun w hI=>zaT f _ _ _ D w (Tr1 hI.k0 hf) hsz hbk) ?_
   refine Vs 4 O ?_
   refine zkG O (fun c0=>?_) (fun c0=>?_)
   ·
    refine Vs 7 O ?_
    refine zkW tr32 O (fun w hI=>⟨_,rfl,⟨_,rfl,fun h=>by cases h⟩,hI.k0⟩)
   ·
    have c0':yp f=0:=by omega
    have vd:Valid f:=⟨c0',hsz,hbk⟩
    have hst:=(zX c0').2.2.2.1
    obtain⟨s1,s2,s3⟩:=js vd
    refine Vs 6 O ?_
    refine zmZ Tryz.call42 O (fun w hI=>jr f.vars 1 _ D w (by decide) vd.good (by omega) (Tr1 hI.k0 hf.vars)) ?_
    refine Vs 11 O ?_
    refine zmZ Tryz.call42 O (fun w hI=>jr f.vars 2 _ D w (by decide) vd.good (by omega) (Tr1 hI.k0 hf.vars)) ?_
    refine Vs 11 O ?_
    refine zmZ Tryz.call42 O (fun w hI=>jr f.vars 3 _ D w (by decide) vd.good (by omega) (Tr1 hI.k0 hf.vars)) ?_
    refine Vs 11 O ?_
    refine zmZ Tryz.call65 O (fun w hI=>kQ f.vars f.hatches.length f.body _ D w true hst (Tr1 hI.k0 hf.body) hbk) ?_
    have e1:=(zk4 vd).1
    have e3:=(zk5 vd).1
    refine Vs 15 O ?_
    refine V.sp 54 O (fun g1=>?_) (fun g1=>?_)
    ·
     refine Vs 5 O ?_
     refine V.sp 59 O (fun g2=>?_) (fun g2=>?_)
     ·
      refine Vs 5 O ?_
      refine V.sp 64 O (fun g3=>?_) (fun g3=>?_)
      ·
       refine Vs 7 O ?_
       refine zkW tr32 O (fun w hI=>⟨_,rfl,⟨_,rfl,fun _=>⟨vd,by omega,by omega,by omega,by omega,by omega,by omega⟩⟩,hI.k0⟩)
      ·
       refine Vs 7 O ?_
       refine zkW tr32 O (fun w hI=>⟨_,rfl,⟨_,rfl,fun h=>by cases h⟩,hI.k0⟩)
     ·
      refine Vs 12 O ?_
      refine zkW tr32 O (fun w hI=>⟨_,rfl,⟨_,rfl,fun h=>by cases h⟩,hI.k0⟩)
    ·
     refine Vs 17 O ?_
     refine zkW tr32 O (fun w hI=>⟨_,rfl,⟨_,rfl,fun h=>by cases h⟩,hI.k0⟩)
 ·
  refine zml O (fun w hI=>zlV O (by first | exact za | rfl)) ?_
  refine Vs 1 O ?_
  refine V.sp 21 O (fun q1=>?_) (fun q1=>?_)
  ·
   refine Vs 14 O ?_
   refine zkW tr32 O (fun w hI=>⟨_,rfl,⟨_,rfl,fun h=>by cases h⟩,hI.k0⟩)
  . exact absurd (zos.1 q1) hfew
end Go.Proofs.YtckdhgbepmpgiaaGreat
namespace Go.GL
theorem SlR.now {α:Type} {k:Nat} {R:Rel α} {D S:Nat->Prop} {w w':World} {v:Value} {l:List α} (h:SlR k R D w v l) (hs:ya R) (hn:xM R) [NeZero k] (hk:Keep S w w') (hD:∀ b,D b->¬ S b):SlR k R (fun q=>q<w'.heap.size) w' v l :=
 (SlR.narrow (Nat.pos_of_ne_zero (NeZero.ne k)) hn (h.keep hs hk fun b hb _=>hD b hb)).wide hs fun _ h=>h.2
theorem RFl.now {D:Nat->Prop} {w:World} {f:Fl} {v1 v2 v3:Value} (h:RFl D w f v1 v2 v3):RFl (fun q=>q<w.heap.size) w f v1 v2 v3 :=
 ⟨(SlR.narrow (by omega) zcu h.vars).wide xf fun _ h=>h.2,(SlR.narrow (by omega) zct h.hatches).wide xg fun _ h=>h.2,(SlR.narrow (by omega) jz h.body).wide zb fun _ h=>h.2⟩
end Go.GL
namespace Go.Proofs.YtckdhgbepmpgiaaGreat
open Go.GL
theorem RSf.now {D:Nat->Prop} {w:World} {s:Sf} {u1 u2:Value} (h:RSf D w s u1 u2):RSf (fun q=>q<w.heap.size) w s u1 u2 :=
 ⟨(SlR.narrow (by omega) xV h.of_).wide ze fun _ h=>h.2,(SlR.narrow (by omega) zgb h.nodes).wide jU fun _ h=>h.2⟩
theorem jt {i n:Nat} (h:i<=n):List.range n=List.range i++List.range' i (n - i):=by
 have h1:=@List.range'_append_1 0 i (n - i)
 rw [Nat.zero_add,show i+(n - i)=n by omega] at h1
 rw [List.range_eq_range',List.range_eq_range']
 exact h1.symm
theorem zk6 (s:Sf) (n:Nat):(LP s n).length<=(LP s s.nodes.length).length:=by
 by_cases h:n<=s.nodes.length
 ·
  have e:LP s s.nodes.length=LP s n++(List.range' n (s.nodes.length - n)).flatMap fun i=>dP (zk s i)++(zk s i).phis.map (·.ver):=by
   unfold LP
   rw [jt h,List.flatMap_append]
  rw [e,zor];omega
 ·
  have e:LP s n=LP s s.nodes.length++(List.range' s.nodes.length (n - s.nodes.length)).flatMap fun i=>dP (zk s i)++(zk s i).phis.map (·.ver):=by
   unfold LP
   rw [jt (show s.nodes.length<=n by omega),List.flatMap_append]
  have e2:((List.range' s.nodes.length (n - s.nodes.length)).flatMap fun i=>dP (zk s i)++(zk s i).phis.map (·.ver))=[]:=by
   rw [List.flatMap_eq_nil_iff]
   intro i hi
   have:=(List.mem_range'_1.1 hi).1
   rw [kD (by omega)];rfl
  rw [e,e2,List.append_nil];exact zoI _
theorem FewS.big {s:Sf} (h:FewS s) (n:Nat):s.of_.length<=1000000/\(LP s n).length<=1000000:=by
 have:=h.lp
 have:=zk6 s n
 have:=h.of_
 omega
theorem ziw (f:Fl) (v1 v2 v3:Value) (D:Nat->Prop) (W:World) (hf:RFl D W f v1 v2 v3) :
  Calls Tryz.prog 12 #[.agg #[v1,v2,v3]] W (Ret fun r w'=>(∃ q:Bool,r=.bool q/\(q=true->FitC f 16 4 4))/\Ext W w'):=by
 refine zmu Tryz.func12 O Tryz.ntmps12 O (zmE ?_)
 refine Vs 2 O ?_
 refine V.box 1 O O (fun b1=>?_)
 refine Vs 6 O ?_
 refine zn1 Tryz.call32 O (fun w hI=>zjx f 16 4 4 v1 v2 v3 D w (Tr1 hI.k0 hf)) ?_
 rintro rr w1 w2 hI1 hk12 ⟨q,rfl,hq⟩ hlow
 refine Vs 4 O ?_
 refine zkW Tryz.results12 O (fun w hI=>⟨_,rfl,⟨_,rfl,hq⟩,hI.k1⟩)
theorem zky {f:Fl} {g:List Nd} {s:Sf} {i:Nat} (h:i<=g.length):((List.range i).flatMap (dfL f g s)).length<=(xG f g s).length:=by
 have e:xG f g s=(List.range i).flatMap (dfL f g s)++(List.range' i (g.length - i)).flatMap (dfL f g s):=by
  unfold xG
  rw [jt h,List.flatMap_append]
 rw [e,zor];omega
end Go.Proofs.YtckdhgbepmpgiaaGreat
