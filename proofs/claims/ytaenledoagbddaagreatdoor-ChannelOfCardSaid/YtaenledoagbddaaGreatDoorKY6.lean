/-
  Contracts and the mathematics that the proof needs. Nothing here is a claim.
-/
import Derived.Test.YtaenledoagbddaaGreatDoorKY5
namespace Go.GL
section
variable {P:Program} {n:Nat} {Q:Exit->Act->World->Prop} {ks:List Fr} {pos:Pos} {env:Env} {A:Tgs} {H:Hp} {Bs:zP}
theorem znQ (k m kk:Nat) {b:Nat} {cs:List Value} {t:TypeId} (hn:zl H k=some (.own b cs t)) (hA:A.all (fun p=>match p.2 with | some (j,_)=>!Nat.beq k j | none=>true)=true) (hl:cs.length=m*kk) (hm:m<=9223372036854775807) (h:V P n Q ks pos env A (hset H k (.row t kk (.slice (some ⟨b,0,none⟩) m m) m cs)) Bs):V P n Q ks pos env A H Bs :=
 V.as (e':=.row t kk (.slice (some ⟨b,0,none⟩) m m) m cs) k hn hA (fun w hB=>by have:=yG (k:=kk) hB (zoi m) hm hl;rwa [<- hl,znY] at this) trivial (fun _ h=>h) (fun q hq=>(Option.some.inj hq).symm) h
theorem znR (k:Nat) {p:World->Prop} (hn:(zl H k).isNone=true) (hp:∀ w,p w) (h:V P n Q ks pos env A ((k,.res (fun _=>False) p)::H) Bs):V P n Q ks pos env A H Bs :=
 fun hA w hI=>h (hA.new (by simpa using hn)) w (hI.new (Keep.refl _ _) k (hp w) (fun _ w' _ _ _ _=>hp w') (fun _ h=>h) (fun _ h=>h.elim))
end
end Go.GL
namespace Go.Proofs.YtaenledoagbddaaGreatDoor
open Go.GL
theorem za0 {e:TypeId} {w:World} {rv:List Value} {rows:List (List Int)} {p:Nat} {v:Value} {r:List Int} (h:RowsOk zd e w rv rows) (hv:rv[p]?=some v) (hr:rows[p]?=some r):SlR 1 zB (fun _=>True) w v r:=zlh zd (fun _ _=>rfl) (h.row p v r hv hr) (fun _ _=>trivial)
theorem ziI (xs ys:List Int) (u v:Value) (D D':Nat->Prop) (W:World) (hx:SlR 1 zB D W u xs) (hy:SlR 1 zB D' W v ys):Calls Tryz.prog 74 #[u,v] W (Ret fun r w'=>r=.int .i64 (xL ys xs)/\Ext W w'):=by
 refine zmb Tryz.func74 O Tryz.ntmps74 O (zmm ?_)
 refine Vs 9 O ?_
 refine zmB Tryz.call75 O (fun w hI=>zaL ys xs v u D' D w (Tr1 hI.k0 hy) (Tr1 hI.k0 hx)) ?_
 refine Vs 4 O ?_
 refine zkr Tryz.results74 O (fun w hI=>⟨_,rfl,rfl,hI.k0⟩)
theorem zeN (c:Mx) (hc1:1<=c.length) (hw:∀ row ∈ c,row.length=(c.headD []).length) (hb:c.length<=1000000/\(c.headD []).length<=1000000) (v:Value) (D:Nat->Prop) (W:World) (hc:SlR 1 (RSl 1 zB) D W v c):Calls Tryz.prog 70 #[v] W (Ret fun r w'=>SlR 1 (RSl 1 zB) (fun b=>W.heap.size<=b) w' r (yn c)/\Ext W w'):=by
 refine (zb1 c hc1 hw hb v D W hc).mono ?_
 rintro _ w' ⟨r,rfl,⟨rv,g1,g2,g3,g4⟩,hk⟩
 exact⟨r,rfl,ziF g1 g2 (fun g hg=>(g3 g hg).1) g4,hk⟩
theorem zeO {H:Hp} {w:World} (k:Nat) (l:List Int) (d:Int) (hd:0<d) (hn:∀ x ∈ l,0<=x/\x<=9223372036854775807) (hlen:l.length<=1000000) {v:Value} {D:Nat->Prop} (hl:SlR 1 zB D w v l) :
  Calls Tryz.prog 72 #[v,.int .i64 d] w (Ret fun r w'=>∃ y:Option Addr × Nat × (Nat->Prop),r=.slice y.1 l.length y.2.1/\Hands H [] [(k,DaP (RSl 1 zB) y.2.2 (l.map (· / d)) [.slice y.1 l.length y.2.1])] w w'):=by
 refine (zbq l d hd hn hlen v D w hl).mono ?_
 rintro _ w' ⟨r,rfl,h1,hk⟩
 obtain⟨ao,co,rfl⟩:=h1.form
 rw [zod] at *
 refine⟨_,rfl,(ao,co,fun b=>w.heap.size<=b/\b<w'.heap.size),rfl,hk.mono fun q _ h=>h.elim,fun x hx=>?_,List.pairwise_singleton _ _⟩
 rw [zob] at hx
 subst hx
 exact⟨⟨_,rfl,h1.narrow (by omega) xp⟩,DaP.loc,fun _ h=>h,fun q hq=>⟨.inr hq.1,hq.2⟩⟩
def DivIn (D:Mx) (j:Nat) (xs:List Value) (F:Nat->Prop) (w:World):Prop:=∀ (i:Nat) x,i<j->D[i]?=some x->∃ v,xs[i]?=some v/\SlR 1 zB F w v x
theorem DivIn.loc {D:Mx} {j:Nat} {xs:List Value} {F:Nat->Prop}:(HE.res F (DivIn D j xs F)).loc:=fun w w' T hx hk hT i x hi hD=>by
 obtain⟨v,h1,h2⟩:=hx i x hi hD
 exact⟨v,h1,h2.keep zc hk fun b hb hlt=>hT b hlt hb⟩
theorem DivIn.next {D:Mx} {j:Nat} {xs:List Value} {F G:Nat->Prop} {w:World} {v:Value} {x:List Int} (h:DivIn D j xs F w) (hx:D[j]?=some x) (hj:j<xs.length) (hG:RSl 1 zB G w x [v]):DivIn D (j+1) (xs.set j v) (fun q=>F q\/G q) w:=fun i z hi hz=>by
 by_cases e:i=j
 ·
  subst e
  rw [hx] at hz
  cases hz
  obtain⟨u,h1,h2⟩:=hG
  simp only [List.cons.injEq,and_true] at h1
  subst h1
  exact⟨v,by rw [List.getElem?_set_self hj],h2.wide zc fun q hq=>.inr hq⟩
 ·
  obtain⟨u,h1,h2⟩:=h i z (by omega) hz
  exact⟨u,by rw [List.getElem?_set_ne (fun h=>e h.symm)];exact h1,h2.wide zc fun q hq=>.inl hq⟩
theorem DivIn.own {D:Mx} {xs:List Value} {F:Nat->Prop} {w:World} {v:Value} {e:TypeId} (h:DivIn D D.length xs F w) (hv:w.ownsRow 0 e 1 v D.length xs):OwnR e 1 (RSl 1 zB) F w v D:=⟨xs,hv,fun i x hx=>by
 obtain⟨u,h1,h2⟩:=h i x (zo7.1 hx).1 hx
 have hd:(xs.drop (i*1)).take 1=[u]:=by rw [Nat.mul_one,yU h1];rfl
 rw [hd]
 exact⟨u,rfl,h2⟩⟩
theorem zjn:zed Tryz.prog 73:=⟨fun enc h1 cf hO g cb blk off cap d w eg hcmp hH hblk hsz=>Tryz.slices_SortFuncA enc h1 cf hO g cb blk off cap d w eg hcmp hH hblk hsz,fun p cap fv w=>Tryz.slices_SortFuncA_none p cap fv w⟩
theorem swoL:Go.Sort.SWO (Go.Proofs.ltOf fun x y:List Int=>xL y x):=by
 have hlt:∀ x y:List Int,Go.Proofs.ltOf (fun x y:List Int=>xL y x) x y=true ↔ xL y x<0:=fun x y=>by unfold Go.Proofs.ltOf;rw [decide_eq_true_eq]
 have hlf:∀ x y:List Int,Go.Proofs.ltOf (fun x y:List Int=>xL y x) x y=false ↔ ¬ xL y x<0:=fun x y=>by rw [<- hlt,Bool.not_eq_true]
 refine⟨fun x=>?_,fun x y z=>?_,fun x y z=>?_⟩
 . rw [hlf,jL];omega
 . rw [hlt,hlt,hlt];exact fun h1 h2=>xT h2 h1
 ·
  rw [hlf,hlf,hlf]
  intro h1 h2 h3
  have a1:=xe x y
  have a2:=xe y z
  have a3:=xe x z
  rcases Int.lt_or_le (xL x y) 0 with b | b
  . have:=xT (x:=z) (y:=x) (z:=y) h3 b;omega
  ·
   have e:x=y:=(qg (by omega))
   rw [e] at h3;exact h2 h3
theorem ziJ {l:List Int} {B:Int} (hB:0<=B) (h:∀ x ∈ l,0<=x/\x<=B):yq l<=B:=by
 by_cases he:∃ x ∈ l,x ≠ 0
 ·
  obtain⟨x,hx,h0⟩:=he
  have h1:=h x hx
  have:=Int.le_of_dvd (by omega) (yx hx)
  omega
 ·
  have h1:(0:Int) ∣ yq l:=xJ fun n hn=>by
   have:n=0:=zo2.1 fun h0=>he ⟨n,hn,h0⟩
   rw [this];exact Int.dvd_refl 0
  rw [Int.zero_dvd.1 h1];exact hB
theorem zjo {l:List (List Int)} {x:List Int} (h:x ∈ l):l[l.idxOf x]?=some x:=by
 have hl:=List.idxOf_lt_length_iff.2 h
 rw [znT hl,List.getElem_idxOf]
def hdr (rv:List Value) (p:Nat):Value:=(rv[p]?).getD (.slice none 0 0)
theorem za1 {rv:List Value} {p:Nat} {v:Value} (h:rv[p]?=some v):hdr rv p=v:=by unfold hdr;rw [h];rfl
theorem zei (c:Mx) (v:Value) (D:Nat->Prop) (W:World) (hc:SlR 1 (RSl 1 zB) D W v c) (ht:Tab W):Calls Tryz.prog 17 #[.agg #[v]] W (Ret fun r w'=>(∃ u,r=.agg #[u]/\SlR 1 (RSl 1 zB) (fun b=>W.heap.size<=b) w' u (zhB c))/\Ext W w'):=by
 obtain⟨av,cv,rfl⟩:=hc.form
 refine zma Tryz.func17 O Tryz.ntmps17 O (zmm ?_)
 refine Vs 2 O ?_
 refine V.box 1 O O (fun b1=>?_)
 refine V.alloc 2 tz36 O O (fun b2=>?_)
 refine Vs 6 O ?_
 refine zmB Tryz.call39 O (fun w hI=>kq c _ D w (Tr1 hI.k0 hc)) ?_
 refine zm2 O (fun w hI=>zly O (by first | exact za | rfl)) ?_
 refine Vs 2 O ?_
 refine zk7 O (fun v0=>?_) (fun v0=>?_)
 ·
  refine Vs 2 O ?_
  refine zmR [Value.slice none 0 0] [(0,1)] [] O O (fun _=>by kernel_rfl) ?_
  refine Vs 5 O ?_
  refine zkz Tryz.results17 tg36 ts36 O O O (fun w hI=>⟨_,rfl,⟨_,rfl,by rw [ziG v0];exact SlR.nil⟩,hI.k0⟩)
 ·
  have v0:=zo2.1 v0
  have hw2:=v0.w2
  have hr2:=v0.r2
  have hTl:=qJ c
  have hTc:∀ col ∈ yn c,col.length=c.length:=fun col h=>zaW h
  have hTb:=fun col (h:col ∈ yn c)=>zgo v0 h
  generalize hT:yn c=T at *
  refine Vs 4 O ?_
  refine zn7 900 (E:=fun b=>MapP Value.string b []) (u:=fun b=>.map (some b)) O (fun _=>⟨MapP.loc,fun _ h=>h⟩) (fun w hI=>znx) (fun m900=>?_)
  refine Vs 4 O ?_
  refine zmu 903 27 1 O ?_
  refine Vs 9 O ?_
  refine zn1 [] (Hn:=fun y:Nat × Nat × List Value=>[(901,.row 27 1 (.slice (some ⟨y.1,0,none⟩) T.length y.2.1) T.length y.2.2),(902,RowsP zd 3 y.2.2 T)]) [(1,some (1,0)),(2,some (2,0)),(22,some (1,0))] Tryz.call70 O (fun _ _=>rfl) (fun _=>rfl) (fun w hI=>(hT ▸ ziE 901 902 c v0 (Tr1 hI.k0 hc))) ?_
  rintro _ ⟨bt,ct,rv⟩ rfl
  refine Vs 5 O ?_
  refine zmL (σ:=Nat × Value × Mx × List Nat × List (ByteArray × Value)) [2,3,24,25] [2,901] [2] O (fun e ⟨y,u,C,ps,L⟩=>(26,.int .i64 y)::(4,u)::e) (fun e ⟨y,u,C,ps,L⟩=>(900,MapP Value.string m900 L)::(902,RowsP zd 3 rv C)::(903,.row 27 1 u ps.length (ps.map (hdr rv)))::e) (fun⟨y,u,C,ps,L⟩=>AbsIn T y C ps L/\ColsAt c.length C y) (fun⟨y,u,C,ps,L⟩=>T.length - y) ((0,.slice none 0 0,T,[],[])) (zlO O) (zlP O) (fun _=>rfl) (fun _=>rfl) (fun _=>rfl) (⟨zlo _,hT ▸ zlq v0⟩) ?_
  rintro⟨y,u,C,ps,L⟩ ⟨hA,hCA⟩
  show V _ _ _ _ _ ((26,.int .i64 y)::(4,u)::_) _ ((900,MapP Value.string m900 L)::(902,RowsP zd 3 rv C)::(903,.row 27 1 u ps.length (ps.map (hdr rv)))::_) _
  have hyT:=hA.le
  have hpl:ps.length<=y:=by rw [hA.pl];refine znZ (zfY _) ?_;rw [zon];omega
  refine zmn (p:=rv.length=C.length) (fun w hI=>(show RowsOk _ _ _ _ _ from hI.at 902 O).len) (fun hRl=>?_)
  have hCl:=hA.len
  refine Vs 6 O ?_
  refine zk7 O (fun hlt=>?_) (fun hlt=>?_)
  ·
   obtain⟨col,he⟩:∃ z,T[y]?=some z:=⟨_,znT (by omega)⟩
   have heC:C[y]?=some col:=by rw [hA.later y (zoi _)];exact he
   have hcl:=hTc col (znU he)
   have hcb:=hTb col (znU he)
   obtain⟨hv,hrv⟩:∃ z,rv[y]?=some z:=⟨_,znT (by omega)⟩
   refine zmn (p:=∃ ao ch,hv=.slice ao col.length ch/\(0<col.length->∃ g,ao=some ⟨g,0,none⟩)) (fun w hI=>zb2 (show RowsOk _ _ _ _ _ from hI.at 902 O) hrv heC) (fun hhd=>?_)
   obtain⟨ah,ch,rfl,hah⟩:=hhd
   refine Va 7 O (by omega) ?_
   refine zmz 901 (y) tg27 O (by omega) (hrv) ?_
   refine Vs 6 O ?_
   refine zmB Tryz.call71 O (fun w hI=>zbm col _ (fun _=>True) w (za0 (hI.at 902 O) hrv heC) (fun x hx=>by have:=hcb x hx;omega)) ?_
   have hg0:=yS col
   refine Vs 10 O ?_
   refine zk7 O (fun g=>?_) (fun g=>?_)
   ·
    refine Va 8 O (by omega) ?_
    refine zki (⟨y+1,u,C,ps,L⟩) (zlO O) (zlP O) (⟨hA.zero he (by omega),hCA.more⟩) (by first | omega | (dsimp only;omega)) 0 O O
   ·
    have hkl:=zfZ col
    have hkb:∀ x ∈ xy col,0<=x/\x<=1048576:=fun x hx=>by
     obtain⟨z,hz,rfl⟩:=List.mem_map.1 hx
     have h1:=hcb z hz
     exact⟨Int.ediv_nonneg h1.1 hg0,Int.le_trans (Int.ediv_le_self _ h1.1) h1.2⟩
    refine Vs 6 O ?_
    refine zmD Tryz.call72 O (fun w hI=>zbq col (yq col) (by omega) (fun x hx=>by have:=hcb x hx;omega) (by omega) _ (fun _=>True) w (za0 (hI.at 902 O) hrv heC)) ?_
    rintro r1 w1 w2 hI1 hk12 hres hlow
    refine zmB Tryz.call66 O (fun w hI=>zbp (xy col) (by omega) (fun x hx=>by have:=hkb x hx;omega) _ _ w ((show SlR 1 zB _ _ _ (xy col) from hres).keep zc hI.k0 (fun b hb _ hs=>by have:=hlow b hs;omega)) (Tr1 hI.k1 ht)) ?_
    refine Vs 7 O ?_
    refine zm2 O (fun w hI=>znz (KeyOk.str tu9) (hI.at 900 O) tu105 tz3 O O) ?_
    refine zmo 41 (v:=.tuple #[.int .i64 (if xy col ∈ (yB (T.take y)).map (·.1) then (((yB (T.take y)).map (·.1)).idxOf (xy col):Nat) else 0),.bool (decide (xy col ∈ (yB (T.take y)).map (·.1)))]) O (by rw [hA.ix];by_cases h:xy col ∈ (yB (T.take y)).map (·.1) <;> simp [h]) ?_
    refine Vs 11 O ?_
    refine zm2 O (fun w hI=>zly O (by first | exact za | rfl)) ?_
    refine Vs 2 O ?_
    refine zk7 O (fun hm=>?_) (fun hm=>?_)
    ·
     refine zmn (p:=∃ ao c,u=.slice ao ps.length c) (fun w hI=>jr (show w.ownsRow 0 27 1 u _ _ from hI.at 903 O)) (fun huf=>?_)
     obtain⟨au,cu,rfl⟩:=huf
     refine Vs 6 O ?_
     refine zn8 900 (e':=MapP Value.string m900 (yR L (spC (xy col)) (.int .i64 (ps.length:Int)))) O (MapP.loc) (fun _ h=>h) (fun w hI=>znA (KeyOk.str tu9) (hI.at 900 O) tu105 O O O) ?_
     refine Vs 6 O ?_
     refine zmO 52 [(0,_)] tR34 ts27 tz27 (by decide) O O (by kernel_rfl) (fun b52=>?_)
     refine zmv 903 52 tu34 Tryz.el27 O (by decide) O O (by omega) (by omega) (fun u903=>?_)
     refine Va 11 O (by omega) ?_
     refine zmK 903 O (e':=.row 27 1 u903 (ps++[y]).length ((ps++[y]).map (hdr rv))) (by rw [zo1,List.map_append,List.map_singleton,za1 hrv];rfl) ?_
     refine zki (⟨y+1,u903,C,ps++[y],yR L (spC (xy col)) (.int .i64 (ps.length:Int))⟩) (zlO O) (zlP O) (⟨hA.new he g hm,hCA.more⟩) (by first | omega | (dsimp only;omega)) 1 O O
    ·
     have hm:=zo2.1 hm
     obtain⟨k,hk,hkK⟩:∃ k,k<ps.length/\((yB (T.take y)).map (·.1)).idxOf (xy col)=k/\((yB (T.take y)).map (·.1))[k]?=some (xy col):=⟨_,by rw [hA.pl,<- zod (f:=(·.1))];exact List.idxOf_lt_length_iff.2 hm,rfl,zjo hm⟩
     obtain⟨hki,hkK⟩:=hkK
     rw [zo4 hm,hki]
     obtain⟨p,hp⟩:∃ p,ps[k]?=some p:=⟨_,znT hk⟩
     have hpy:=hA.lt p (znU hp)
     obtain⟨r,hr⟩:∃ r,C[p]?=some r:=⟨_,znT (by omega)⟩
     have hrm:=znU hr
     have hrl:=hCA.len r hrm
     have hrb:=hCA.bd r hrm
     obtain⟨hu,hru⟩:∃ z,rv[p]?=some z:=⟨_,znT (by omega)⟩
     refine zmn (p:=∃ ao ch,hu=.slice ao r.length ch/\(0<r.length->∃ g,ao=some ⟨g,0,none⟩)) (fun w hI=>zb2 (show RowsOk _ _ _ _ _ from hI.at 902 O) hru hr) (fun hhd=>?_)
     obtain⟨au,cu,rfl,hau⟩:=hhd
     refine zmx 903 O (by omega) ?_
     rintro bc cc rfl hcap_903
     refine zmK 902 O (e':=RowsP zd 3 rv (C.set p (qm r col 0))) (by rw [zeK,zeh hr]) ?_
     refine Vs 10 O ?_
     refine zmL (σ:=Nat) [2,3,4,9,24,25,26,54,55] [2,900,901,903] [2] O (fun e x=>(56,.int .i64 x)::e) (fun e x=>(902,RowsP zd 3 rv (C.set p (qm r col x)))::e) (fun x=>x<=col.length) (fun x=>col.length - x) (0) (zlO O) (zlP O) (fun _=>rfl) (fun _=>rfl) (fun _=>rfl) (zo8 _) ?_
     rintro x hx
     refine Vs 6 O ?_
     refine zk7 O (fun hlt2=>?_) (fun hlt2=>?_)
     ·
      obtain⟨a,ha⟩:∃ a,r[x]?=some a:=⟨_,znT (by omega)⟩
      obtain⟨b,hb⟩:∃ b,col[x]?=some b:=⟨_,znT (by omega)⟩
      have hab:=hrb a (znU ha)
      have hbb:=hcb b (znU hb)
      have hset:=zgn (r:=r) (col:=col) (by omega) ha hb
      have hgx:=zgm (r:=r) (col:=col) (by omega) ha
      have hral:=zgl (r:=r) (col:=col) (by omega) (x:=x) (by omega)
      have hCy:(C.set p (qm r col x))[y]?=some col:=by rw [List.getElem?_set,zo3 (by omega)];exact heC
      have hCp:(C.set p (qm r col x))[p]?=some (qm r col x):=by rw [List.getElem?_set,zo4 rfl,zo4 (by omega)]
      obtain⟨gh,rfl⟩:=hah (by omega)
      obtain⟨gu,rfl⟩:=hau (by omega)
      refine Vs 7 O ?_
      refine zm2 O (fun w hI=>zkP tR27 ts3 O O O (by omega)) ?_
      refine zm2 O (fun w hI=>R.load tg3 O (zcZ (hI.at 902 O) hrv hCy hb)) ?_
      refine Va 8 O (by omega) ?_
      refine zmz 903 (k) tg27 O (by omega) (show (ps.map (hdr rv))[k]?=some (Value.slice (some ⟨gu,0,none⟩) r.length cu) by rw [zoa,hp,Option.map_some,za1 hru]) ?_
      refine Vs 1 O ?_
      refine zm2 O (fun w hI=>zkP tR27 ts3 O O O (by omega)) ?_
      refine zm2 O (fun w hI=>R.load tg3 O (zcZ (hI.at 902 O) hru hCp hgx)) ?_
      refine Va 2 O (by omega) ?_
      refine zm2 O (fun w hI=>zkP tR27 ts3 O O O (by omega)) ?_
      refine zn8 902 (e':=RowsP zd 3 rv ((C.set p (qm r col x)).set p ((qm r col x).set x (a+b)))) O (RowsP.loc) (fun _ h=>h) (fun w hI=>znO ts3 (hI.at 902 O) hru hCp (by omega) O O O) ?_
      refine zmK 902 O (e':=RowsP zd 3 rv (C.set p (qm r col (x+1)))) (by rw [List.set_set,hset]) ?_
      refine Va 7 O (by omega) ?_
      refine zki (x+1) (zlO O) (zlP O) (by omega) (by first | omega | (dsimp only;omega)) 0 O O
     ·
      obtain rfl:x=col.length:=by omega
      refine zmK 902 O (e':=RowsP zd 3 rv (C.set p (List.zipWith (·+·) r col))) (by rw [<- zeL (r:=r) (col:=col) (by omega),show r.length=col.length from by omega]) ?_
      refine Va 10 O (by omega) ?_
      refine zki (⟨y+1,.slice (some ⟨bc,0,none⟩) ps.length cc,C.set p (List.zipWith (·+·) r col),ps,L⟩) (zlO O) (zlP O) (⟨hA.old he g hkK hp hr (by omega),hCA.add hrm hcb (by omega)⟩) (by first | omega | (dsimp only;omega)) 1 O O
  ·
   obtain rfl:y=T.length:=by omega
   have hout:IsAbs T (zeS T):=zdz T
   have hvo:=zeM v0
   rw [hT] at hvo
   have hpM:=hA.pl
   rw [znY] at hpM
   have hpos:0<ps.length:=by
    have h1:=hout.perm.length_eq
    have h2:=hvo.1.w1
    have h3:=qJ (zhB c)
    rw [hvo.2] at h3
    simp only [xV,zG,zod] at h1
    omega
   refine zmx 903 O (hpos) ?_
   rintro bc cc rfl hcap_903
   have hbdC:=hCA.bd
   have hcols:∀ (k p:Nat),ps[k]?=some p->C[p]?=(zG (yB T))[k]?:=fun k p h=>by have:=hA.cols k p h;rwa [znY] at this
   have hclen:(zG (yB T)).length=ps.length:=by rw [hpM];simp [zG]
   have hcm:∀ r ∈ zG (yB T),r ∈ C:=fun r hr=>by
    obtain⟨k,hk⟩:=List.mem_iff_getElem?.1 hr
    have hkl:=(zo7.1 hk).1
    obtain⟨p,hp⟩:∃ p,ps[k]?=some p:=⟨_,znT (by omega)⟩
    exact znU ((hcols k p hp).trans hk)
   refine Vs 19 O ?_
   refine zmL (σ:=Nat) [2,4,73,74] [2,900,902,903] [2] O (fun e k=>(75,.int .i64 k)::(13,.int .i64 (yq ((zG (yB T)).take k).flatten))::e) (fun e k=>e) (fun k=>k<=ps.length) (fun k=>ps.length - k) (0) (zlO O) (zlP O) (fun _=>rfl) (fun _=>rfl) (fun _=>rfl) (zo8 _) ?_
   rintro k hk
   refine Vs 6 O ?_
   refine zk7 O (fun hlt=>?_) (fun hlt=>?_)
   ·
    obtain⟨p,hp⟩:∃ p,ps[k]?=some p:=⟨_,znT (by omega)⟩
    obtain⟨r,hrc⟩:∃ r,(zG (yB T))[k]?=some r:=⟨_,znT (by omega)⟩
    have hr:=(hcols k p hp).trans hrc
    have hpl2:=(zo7.1 hr).1
    have hrm:=znU hr
    have hrl:=hCA.len r hrm
    have hrb:=hCA.bd r hrm
    obtain⟨hu,hru⟩:∃ z,rv[p]?=some z:=⟨_,znT (by omega)⟩
    refine zmn (p:=∃ ao ch,hu=.slice ao r.length ch/\(0<r.length->∃ g,ao=some ⟨g,0,none⟩)) (fun w hI=>zb2 (show RowsOk _ _ _ _ _ from hI.at 902 O) hru hr) (fun hhd=>?_)
    obtain⟨au,cu,rfl,_⟩:=hhd
    refine Va 7 O (by omega) ?_
    refine zmz 903 (k) tg27 O (by omega) (show (ps.map (hdr rv))[k]?=some (Value.slice au r.length cu) by rw [zoa,hp,Option.map_some,za1 hru]) ?_
    refine Vs 5 O ?_
    refine zmO 80 [(0,_)] tR27 ts3 tz3 (by decide) O O (by kernel_rfl) (fun b80=>?_)
    refine Vs 1 O ?_
    refine znQ 80 1 1 O O O (by decide) ?_
    refine zmQ 80 (fun x=>[zd x]) (fun _=>rfl) (by simp [Value.oneCell']) zbO tu27 Tryz.el3 O (by decide) O (fun w hI=>⟨_,za0 (hI.at 902 O) hru hr⟩) (by omega) (by omega) (fun u80=>?_)
    have hG0:=yS ((zG (yB T)).take k).flatten
    have hGl:yq ((zG (yB T)).take k).flatten<=300000000:=ziJ (by omega) fun x hx=>by
     obtain⟨q,hq,hxq⟩:=List.mem_flatten.1 hx
     have:=hbdC q (hcm q (List.mem_of_mem_take hq)) x hxq
     omega
    refine zmK 80 O (e':=.row 3 1 u80 (yq ((zG (yB T)).take k).flatten::r).length ((yq ((zG (yB T)).take k).flatten::r).map zd)) (by rw [zom,Nat.add_comm,List.map_cons,kQ];rfl) ?_
    refine zmB Tryz.call71 O (fun w hI=>zbm (yq ((zG (yB T)).take k).flatten::r) _ (fun _=>True) w (zlh zd (fun _ _=>rfl) (hI.at 80 O) (fun _ _=>trivial)) (fun x hx=>(zo9.1 hx).elim (fun e=>by rw [e];omega) (fun hx=>by have:=hrb x hx;omega))) ?_
    refine zmo 83 (v:=.int .i64 (yq ((zG (yB T)).take (k+1)).flatten)) O (by rw [zhC,zg hrc,List.flatten_append,List.flatten_singleton]) ?_
    refine Va 8 O (by omega) ?_
    refine zki (k+1) (zlO O) (zlP O) (by omega) (by first | omega | (dsimp only;omega)) 0 O O
   ·
    obtain rfl:k=ps.length:=by omega
    rw [show (zG (yB T)).take ps.length=zG (yB T) from by rw [<- hclen,znY]]
    generalize hg:yq (zG (yB T)).flatten=g
    have hg0:0<g:=by rw [<- hg];exact ziH (qh T) (fun e=>by rw [e] at hpM;have:ps.length=0:=hpM;omega)
    obtain⟨D,hD⟩:∃ D,D=xV (zG (yB T)):=⟨_,rfl⟩
    have hDl:D.length=ps.length:=by rw [hD,<- hclen];simp [xV]
    have hDat:∀ (k:Nat) r,(zG (yB T))[k]?=some r->D[k]?=some (r.map (· / g)):=fun k r h=>by rw [hD,xV,zoa,h,hg];rfl
    refine znR 904 (p:=DivIn D 0 (ps.map (hdr rv)) (fun _=>False)) O (fun w i x h=>by omega) ?_
    refine Vs 14 O ?_
    refine zmL (σ:=Nat × List Value × (Nat->Prop)) [2,4,13,86] [2,900,902] [2] O (fun e ⟨j,xs,F⟩=>(87,.int .i64 j)::e) (fun e ⟨j,xs,F⟩=>(903,.row 27 1 (.slice (some ⟨bc,0,none⟩) ps.length cc) ps.length xs)::(904,.res F (DivIn D j xs F))::e) (fun⟨j,xs,F⟩=>j<=ps.length/\xs.length=ps.length/\(∀ i,j<=i->xs[i]?=(ps.map (hdr rv))[i]?)) (fun⟨j,xs,F⟩=>ps.length - j) ((0,ps.map (hdr rv),fun _=>False)) (zlO O) (zlP O) (fun _=>rfl) (fun _=>rfl) (fun _=>rfl) (⟨zo8 _,by rw [zod],fun _ _=>rfl⟩) ?_
    rintro⟨j,xs,F⟩ ⟨hj,hxl,hxs⟩
    show V _ _ _ _ _ ((87,.int .i64 j)::_) _ ((903,.row 27 1 (.slice (some ⟨bc,0,none⟩) ps.length cc) ps.length xs)::(904,.res F (DivIn D j xs F))::_) _
    refine Vs 6 O ?_
    refine zk7 O (fun hlt=>?_) (fun hlt=>?_)
    ·
     obtain⟨p,hp⟩:∃ p,ps[j]?=some p:=⟨_,znT (by omega)⟩
     obtain⟨r,hrc⟩:∃ r,(zG (yB T))[j]?=some r:=⟨_,znT (by omega)⟩
     have hr:=(hcols j p hp).trans hrc
     have hrm:=znU hr
     have hrl:=hCA.len r hrm
     have hrb:=hCA.bd r hrm
     obtain⟨hu,hru⟩:∃ z,rv[p]?=some z:=⟨_,znT (by have:=(zo7.1 hr).1;omega)⟩
     refine Va 16 O (by omega) ?_
     refine zmz 903 (j) tg27 O (by omega) (show xs[j]?=some hu by rw [hxs j (zoi _),zoa,hp,Option.map_some,za1 hru]) ?_
     refine Vs 1 O ?_
     refine zn1 [] (Hn:=fun y:Option Addr × Nat × (Nat->Prop)=>[(905,DaP (RSl 1 zB) y.2.2 (r.map (· / g)) [.slice y.1 r.length y.2.1])]) [(2,some (2,0))] Tryz.call72 O (fun _ _=>rfl) (fun _=>rfl) (fun w hI=>zeO 905 r g hg0 (fun x hx=>by have:=hrb x hx;omega) (by omega) (za0 (hI.at 902 O) hru hr)) ?_
     rintro _ ⟨aq,cq,G⟩ rfl
     refine Va 1 O (by omega) ?_
     refine V.rs 903 (j) ts27 O (by omega) (by omega) ?_
     refine znd 904 905 (e':=.res (fun q=>F q\/G q) (DivIn D (j+1) (xs.set j (.slice aq r.length cq)) (fun q=>F q\/G q))) [(2,some (2,0))] O O O (fun w hI=>(show DivIn _ _ _ _ _ from hI.at 904 O).next (hDat j r hrc) (by omega) (hI.at 905 O)) (DivIn.loc) (fun _ h=>h) (fun q hq=>hq) ?_
     refine Va 7 O (by omega) ?_
     refine zki (⟨j+1,xs.set j (.slice aq r.length cq),fun q=>F q\/G q⟩) (zlO O) (zlP O) (⟨by omega,by rw [List.length_set];exact hxl,fun i hi=>by rw [List.getElem?_set_ne (by omega)];exact hxs i (by omega)⟩) (by first | omega | (dsimp only;omega)) 0 O O
    ·
     obtain rfl:j=ps.length:=by omega
     refine znd 903 904 (e':=OwP 27 1 (RSl 1 zB) F (.slice (some ⟨bc,0,none⟩) ps.length cc) D) [(2,some (2,0))] O O O (fun w hI=>⟨by rw [<- hDl];exact DivIn.own (hDl ▸ (hI.at 904 O)) (hDl ▸ (hI.at 903 O)),fun q hq=>⟨hI.low _ (zi (k:=904) O) q hq,fun h=>hI.sep (k:=904) (k2:=903) O O (by decide) hq h⟩⟩) (OwP.loc) (fun _ h=>h) (fun q hq=>hq) ?_
     refine Vs 8 O ?_
     refine zmE 903 (E:=fun l'=>OwP 27 1 (RSl 1 zB) F (.slice (some ⟨bc,0,none⟩) ps.length cc) l') Tryz.call73 O (fun _=>⟨OwP.loc,fun _ h=>h⟩) (fun w hI=>zg7 (k:=903) (cf:=fun x y=>xL y x) zjn (fun D w x cs h=>by obtain⟨u,rfl,h1⟩:=h;obtain⟨a,c,rfl⟩:=h1.form;exact⟨_,rfl,rfl⟩) Tryz.call74 swoL hI O (by omega) (fun x y u u' W' hk hx hy=>by obtain⟨_,h1,h2⟩:=hx;obtain⟨_,h3,h4⟩:=hy;cases h1;cases h3;exact ziI x y _ _ _ _ W' h2 h4)) ?_
     rintro _ l' ⟨rfl,hperm,hpw⟩
     have hl':l'=zeS T:=IsAbs.unique ⟨hD ▸ hperm,hpw.imp fun {a b} h=>by have:=xe a b;omega⟩ hout
     subst hl'
     have hol:(zeS T).length=ps.length:=by rw [hperm.length_eq,hDl]
     have hocl:∀ col ∈ zeS T,col.length=c.length:=fun col h=>(hout.col (n:=c.length) (fun r hr=>⟨hTc r hr,fun v hv=>(hTb r hr v hv).1⟩) h).1
     have hoh:((zeS T).headD []).length=c.length:=hocl _ (kY (by omega))
     have hres0:yn (zeS T)=zhB c:=by rw [kZ v0,hT];unfold yn ko;rw [hoh]
     refine Vs 5 O ?_
     refine zmD Tryz.call70 O (fun w hI=>zeN (zeS T) (by omega) (fun row h=>by rw [hocl row h,hoh]) ⟨by omega,by omega⟩ _ _ w ((show OwH _ _ _ _ _ _ _ from hI.at 903 O).sl (by omega) (fun q hq=>hq))) ?_
     rintro r1 w1 w2 hI1 hk12 hres hlow
     rw [hres0] at hres
     obtain⟨az,cz,rfl⟩:=hres.form
     have e1:W.heap.size<=w1.heap.size:=hI1.k0.size
     refine zmR [Value.slice none 0 0] [(0,1)] [(0,_)] O O (fun _=>by kernel_rfl) ?_
     refine Vs 4 O ?_
     refine V.dat 906 0 O O O (hres) (fun q hq _ hs=>by have:=hlow q hs;omega) ?_
     refine zkz Tryz.results17 tg36 ts36 O O O (fun w hI=>⟨_,rfl,⟨_,rfl,(hI.at 906 O).1.wide (yV zc) (fun q hq=>by omega)⟩,hI.k1⟩)
theorem zhE (D:Nat->Prop) {w:World} (x:List Int) (cs:List Value) (h:RSl 1 zB D w x cs):∀ u ∈ cs,u.oneCell'=true:=by
 obtain⟨v,rfl,h1⟩:=h
 obtain⟨a,c,rfl⟩:=h1.form
 simp [Value.oneCell']
theorem zej {α:Type} {R:Rel α} {e:TypeId} {kk:Nat} {F:Nat->Prop} {w:World} {v:Value} {l:List α} (h:(OwP e kk R F v l).holds w):∃ ao c,v=.slice ao l.length c:=by
 obtain⟨ao,c,h,_⟩:=OwH.form (show OwH e kk R F w v l from h)
 exact⟨ao,c,h⟩
end Go.Proofs.YtaenledoagbddaaGreatDoor
namespace Go.GL
section
variable {P:Program} {n:Nat} {Q:Exit->Act->World->Prop} {ks:List Fr} {pos:Pos} {env:Env} {A:Tgs} {H:Hp} {Bs:zP}
theorem znS (k k2:Nat) {α:Type} {R:Rel α} [hs:StC R] {e:TypeId} {kk:Nat} {F:Nat->Prop} {v:Value} {l:List α} (A1:Tgs) (hn:zl H k=some (OwP e kk R F v l))
  (hA1:∀ xs:List Value,A1.map (fun p=>zd2 env p.1)=A1.map (fun p=>jx ((k,HE.row e kk v l.length xs)::(k2,.res F (fun w=>∀ (i:Nat) x,l[i]?=some x->R F w x ((xs.drop (i*kk)).take kk)))::yu [k] H) p.2))
  (hA2:∀ xs:List Value,A1.all (fun p=>(jx ((k,HE.row e kk v l.length xs)::(k2,.res F (fun w=>∀ (i:Nat) x,l[i]?=some x->R F w x ((xs.drop (i*kk)).take kk)))::yu [k] H) p.2).isSome)=true)
  (h:∀ xs:List Value,V P n Q ks pos env A1 ((k,.row e kk v l.length xs)::(k2,.res F (fun w=>∀ (i:Nat) x,l[i]?=some x->R F w x ((xs.drop (i*kk)).take kk)))::yu [k] H) Bs):V P n Q ks pos env A H Bs:=by
 intro _ w hI
 have hh:OwH e kk R F w v l:=hI.at k hn
 obtain⟨⟨xs,g1,g2⟩,g3⟩:=hh
 refine h xs (zlQ (hA1 xs) (hA2 xs)) w (hI.hands (Hn:=[(k,.row e kk v l.length xs),(k2,.res F (fun w=>∀ (i:Nat) x,l[i]?=some x->R F w x ((xs.drop (i*kk)).take kk)))]) ⟨Keep.refl _ _,fun x hx=>?_,?_⟩)
 ·
  have i1:∀ q,(OwP e kk R F v l).S q->InS H [k] q:=fun q hq=>⟨_,zi hn,by simp [zbw,Nat.beq_refl],hq⟩
  have i2:=hI.low _ (zi hn)
  simp only [zo9,List.not_mem_nil,or_false] at hx
  rcases hx with rfl | rfl
  . exact⟨g1,trivial,fun _ h=>h,fun q hq=>⟨.inl (i1 q (.inl hq)),i2 q (.inl hq)⟩⟩
  . refine⟨g2,fun w w' T hx hk hT i x hi=>hs.s F F w w' (fun _ h=>h) (fun b hb hlt=>hk.block b hlt (hT b hlt hb)) x _ (hx i x hi),fun _ h=>h,fun q hq=>⟨.inl (i1 q (.inr hq)),i2 q (.inr hq)⟩⟩
 ·
  refine List.pairwise_cons.2 ⟨fun x hx q hq hq2=>?_,List.pairwise_singleton _ _⟩
  rw [zob] at hx
  subst hx
  exact (g3 q hq2).2 hq
end
end Go.GL
namespace Go.Proofs.YtaenledoagbddaaGreatDoor
open Go.GL
theorem zgp {l:List Int} {x:Int} {i:Nat} (hx:l[i]?=some x):(((l.take i)++List.replicate (l.length - i) 0).map zd).set i (.int .i64 x)=((l.take (i+1))++List.replicate (l.length - (i+1)) 0).map zd:=by
 have hl:=(zo7.1 hx).1
 have hti:(l.take i).length=i:=by rw [zon];omega
 rw [show (Value.int .i64 x)=zd x from rfl,<- List.map_set,List.set_append_right _ _ (by omega),hti,Nat.sub_self,zg hx,List.append_assoc]
 obtain⟨m,hm⟩:∃ m,l.length - i=m+1:=⟨l.length - i - 1,by omega⟩
 rw [hm,List.replicate_succ,List.set_cons_zero,show l.length - (i+1)=m by omega]
 rfl
theorem zjp {α:Type} {g:α->List Value}:∀ {l:List α} {i:Nat} {x:α},(∀ x ∈ l,(g x).length=2)->l[i]?=some x->((l.flatMap g).drop (i*2)).take 2=g x
 | [],i,x,_,h=>by simp at h
 | a::l,0,x,hg,h=>by
  simp only [List.getElem?_cons_zero,Option.some.injEq] at h
  subst h
  have:=hg a (znX ..)
  rw [Nat.zero_mul,List.drop_zero,List.flatMap_cons,List.take_append_of_le_length (by omega),List.take_of_length_le (by omega)]
 | a::l,i+1,x,hg,h=>by
  rw [List.getElem?_cons_succ] at h
  have ih:=zjp (fun x hx=>hg x (znW _ hx)) h
  have ha:=hg a (znX ..)
  rw [List.flatMap_cons,Nat.succ_mul,List.drop_append,show (g a).drop (i*2+2)=[] from List.drop_eq_nil_of_le (by omega),List.nil_append,ha,Nat.add_sub_cancel]
  exact ih
theorem zeP {w:World} {e:TypeId} {b m c k:Nat} {xs cs:List Value} (h:w.ownsRow 0 e 2 (.slice (some ⟨b,0,none⟩) m c) m xs) (hd:(xs.drop (k*2)).take 2=cs):Cells w b (0+(k:Int).toNat*2) cs:=by
 have hc:=(xN h).2.2
 intro j v hj
 rw [<- hd,zop] at hj
 split at hj
 ·
  rw [List.getElem?_drop] at hj
  have:=hc _ v hj
  simpa [Nat.add_assoc] using this
 . cases hj
theorem zjq (al:List Ob):(zcU al.length).map (atO al)=al:=by
 apply List.ext_getElem?
 intro i
 unfold zcU
 rw [List.map_map,zoa]
 by_cases hi:i<al.length
 ·
  rw [List.getElem?_range hi,znT hi]
  simp only [Option.map_some,Function.comp]
  rw [zg8 (znT hi)]
 ·
  rw [zoh (by simp;omega),zoh (by omega)]
  rfl
theorem zjr {n i:Nat} (h:i<n):(zcU n)[i]?=some (i:Int):=by unfold zcU;rw [zoa,List.getElem?_range h];rfl
theorem ziK {f:Fl} {pub:List Int} {t:Bool} {al:List Ob} (hn:al.Nodup) (h:∀ o,o ∈ al ↔ o ∈ (List.range (spN f)).flatMap (zjM f pub t)):(ziS f pub t).length=al.length:=by
 refine ((List.perm_ext_iff_of_nodup (zfE (zaP _)) hn).2 fun o=>?_).length_eq
 rw [zaO,h]
def zdA (xs:List Value) (k:Int):List Value:=(xs.drop (k.toNat*2)).take 2
theorem ziL {al obs:List Ob} {l:List Int} {xs:List Value} {F D:Nat->Prop} {w:World} (hxl:xs.length=al.length*2) (hs:l.map (atO al)=obs) (hb:∀ z ∈ l,0<=z/\z<(al.length:Int)) (h:∀ (i:Nat) x,al[i]?=some x->ROb F w x ((xs.drop (i*2)).take 2)) (hF:∀ q,F q->D q) {i:Nat} {x:Ob} (hi:obs[i]?=some x):ROb D w x (((l.flatMap (zdA xs)).drop (i*2)).take 2):=by
 rw [<- hs,zoa] at hi
 obtain⟨k,hk,rfl⟩:=Option.map_eq_some_iff.1 hi
 have hkb:=hb k (znU hk)
 rw [zjp (fun z hz=>by have:=hb z hz;unfold zdA;rw [zon,List.length_drop];omega) hk]
 obtain⟨o,ho⟩:∃ o,al[k.toNat]?=some o:=⟨_,znT (by omega)⟩
 have h1:=h k.toNat o ho
 have h2:atO al k=o:=by unfold atO;rw [ho];rfl
 rw [h2]
 exact (StC.s:zW ROb) F D w w hF (fun _ _ _=>rfl) o _ h1
theorem ziM (f:Fl) (hsz:zm f.body+zC f.hatches<=1024) (hbk:zt f.body<=1000000) (pub:List Int) (t:Bool) (v1 v2 v3 pv:Value) (D D':Nat->Prop) (W:World) (hf:RFl D W f v1 v2 v3) (hp:SlR 1 zB D' W pv pub) (ht:Tab W) :
  Calls Tryz.prog 15 #[.agg #[v1,v2,v3],.agg #[pv,.bool t]] W (Ret fun r w'=>(∃ u lu,r=.tuple #[.agg #[u],lu,.int .i64 (xA f pub t)]/\(xA f pub t ≠ 0->u=.slice none 0 0/\lu=.slice none 0 0)/\(xA f pub t=0->SlR 1 (RSl 1 zB) (fun b=>W.heap.size<=b) w' u (mxO f pub t)/\SlR 2 ROb (fun b=>W.heap.size<=b) w' lu (ziS f pub t)))/\Ext W w'):=by
 obtain⟨ap,cp,rfl⟩:=hp.form
 obtain⟨a1,n1,rfl⟩:=hf.vars.form
 obtain⟨a2,n2,rfl⟩:=hf.hatches.form
 obtain⟨a3,n3,rfl⟩:=hf.body.form
 refine zmb Tryz.func15 O Tryz.ntmps15 O (zmm ?_)
 refine Vs 2 O ?_
 refine V.box 2 O O (fun b2=>?_)
 refine V.box 3 O O (fun b3=>?_)
 refine V.alloc 4 tz36 O O (fun b4=>?_)
 refine Vs 8 O ?_
 refine zmB Tryz.call60 O (fun w hI=>kG f _ _ _ D w (Tr1 hI.k0 hf) hsz hbk) ?_
 refine Vs 9 O ?_
 refine zk7 O (fun c0=>?_) (fun c0=>?_)
 ·
  have hc:xA f pub t=ym f:=zo4 c0
  refine Vs 2 O ?_
  refine zmR [Value.slice none 0 0] [(0,1)] [] O O (fun _=>by kernel_rfl) ?_
  refine Vs 8 O ?_
  refine znJ tr15 tg36 ts36 O O O (fun w hI=>⟨_,rfl,⟨_,_,by rw [hc],fun _=>⟨rfl,rfl⟩,fun h=>absurd (hc ▸ h) c0⟩,hI.k0⟩)
 ·
  have c0:=zo2.1 c0
  have vd:Valid f:=⟨c0,hsz,hbk⟩
  have hl:=vd.lens
  refine Vs 9 O ?_
  refine zmB Tryz.call61 O (fun w hI=>zeD f.vars 2 pub _ _ D D' w (by decide) vd.good (by omega) (Tr1 hI.k0 hf.vars) (Tr1 hI.k0 hp)) ?_
  refine Vs 13 O ?_
  refine zk7 O (fun c1=>?_) (fun c1=>?_)
  ·
   refine Vs 7 O ?_
   refine zk7 O (fun c2=>?_) (fun c2=>?_)
   ·
    have hc:xA f pub t=1:=by unfold xA;rw [zo3 (zog c0),zo4 c1,zo4 c2]
    refine Vs 6 O ?_
    refine zmR [Value.slice none 0 0] [(0,1)] [] O O (fun _=>by kernel_rfl) ?_
    refine Vs 8 O ?_
    refine znJ tr15 tg36 ts36 O O O (fun w hI=>⟨_,rfl,⟨_,_,by rw [hc],fun _=>⟨rfl,rfl⟩,fun h=>by rw [hc] at h;cases h⟩,hI.k0⟩)
   ·
    have hc:xA f pub t=(qH 2 f.vars pub).2:=by unfold xA;rw [zo3 (zog c0),zo4 c1,zo3 c2]
    refine Vs 4 O ?_
    refine zmR [Value.slice none 0 0] [(0,1)] [] O O (fun _=>by kernel_rfl) ?_
    refine Vs 8 O ?_
    refine znJ tr15 tg36 ts36 O O O (fun w hI=>⟨_,rfl,⟨_,_,by rw [hc],fun _=>⟨rfl,rfl⟩,fun h=>absurd (hc ▸ h) c1⟩,hI.k0⟩)
  ·
   have c1:=zo2.1 c1
   obtain⟨hs1,hs2,hs3⟩:=zg2 vd
   obtain⟨hr1,hr2,hr3⟩:=zg3 vd
   refine Vs 6 O ?_
   refine zmB Tryz.call62 O (fun w hI=>jf f.vars 1 _ D w (by decide) vd.good (Tr1 hI.k0 hf.vars) (by omega)) ?_
   refine zmo 59 (v:=.tuple #[.int .i64 (spN f:Int),.int .i64 (if (zk 1 f.vars).isSome then 0 else 4)]) O (by rw [hs1]) ?_
   refine Vs 11 O ?_
   refine zmB Tryz.call62 O (fun w hI=>jf f.vars 3 _ D w (by decide) vd.good (Tr1 hI.k0 hf.vars) (by omega)) ?_
   refine zmo 65 (v:=.tuple #[.int .i64 (rnN f:Int),.int .i64 (if (zk 3 f.vars).isSome then 0 else 4)]) O (by rw [hr1]) ?_
   refine Vs 14 O ?_
   refine zk7 O (fun s0=>?_) (fun s0=>?_)
   ·
    have hc:xA f pub t=4:=by unfold xA;rw [zo3 (zog c0),zo3 (zog c1),zo4 (by omega)]
    refine Vs 2 O ?_
    refine zmR [Value.slice none 0 0] [(0,1)] [] O O (fun _=>by kernel_rfl) ?_
    refine Vs 7 O ?_
    refine znJ tr15 tg36 ts36 O O O (fun w hI=>⟨_,rfl,⟨_,_,by rw [hc],fun _=>⟨rfl,rfl⟩,fun h=>by rw [hc] at h;cases h⟩,hI.k0⟩)
   ·
    refine Vs 4 O ?_
    refine V.alloc 14 Tryz.zeroValue37 O O (fun b14=>?_)
    refine Vs 4 O ?_
    refine zn7 900 (E:=fun b=>MapP Value.string b []) (u:=fun b=>.map (some b)) O (fun _=>⟨MapP.loc,fun _ h=>h⟩) (fun w hI=>znx) (fun m900=>?_)
    refine Vs 5 O ?_
    refine zn7 901 (E:=fun b=>MapBP zaR b []) (u:=fun b=>.map (some b)) O (fun _=>⟨MapBP.loc,fun _ h=>h⟩) (fun w hI=>znB) (fun m901=>?_)
    refine Vs 10 O ?_
    refine zmu 902 55 2 O ?_
    refine zmU 902 (e':=OwP 55 2 ROb (fun _=>False) (.slice none 0 0) []) O (fun w hI=>OwH.nil) OwP.loc (fun _ h=>h) (fun q hq=>hq.elim id False.elim) ?_
    refine Vs 1 O ?_
    refine zmL (σ:=Nat × List Ob × Option Addr × Nat × (Nat->Prop) × List (ByteArray × Value) × List (zhM × Value) × (Nat->Nat->Nat)) [2,3,4,10,12,14,15,16,73] [2,3,4] [2,3,4,14] O (fun e ⟨s,al,aj,cj,F,L,K,cnt⟩=>(74,.int .i64 s)::e) (fun e ⟨s,al,aj,cj,F,L,K,cnt⟩=>(14,.own b14 [.slice aj al.length cj] 37)::(900,MapP Value.string m900 L)::(901,MapBP zaR m901 K)::(902,OwP 55 2 ROb F (.slice aj al.length cj) al)::e) (fun⟨s,al,aj,cj,F,L,K,cnt⟩=>s<=spN f/\OfIn (obX f pub t) (rnN f) s 0 al cnt/\IxIn L (al.map spO)/\CntIn K cnt) (fun⟨s,al,aj,cj,F,L,K,cnt⟩=>spN f - s) ((0,[],none,0,fun _=>False,[],[],fun _ _=>0)) (zlO O) (zlP O) (fun _=>rfl) (fun _=>rfl) (fun _=>rfl) (⟨zo8 _,zll _ _,zlm,zln⟩) ?_
    rintro⟨s,al,aj,cj,F,L,K,cnt⟩ ⟨hs,hO,hL,hK⟩
    show V _ _ _ _ _ ((74,.int .i64 s)::_) _ ((14,.own b14 [.slice aj al.length cj] 37)::(900,MapP Value.string m900 L)::(901,MapBP zaR m901 K)::(902,OwP 55 2 ROb F (.slice aj al.length cj) al)::_) _
    refine Vs 6 O ?_
    refine zk7 O (fun hlt=>?_) (fun hlt=>?_)
    ·
     refine Vs 17 O ?_
     refine zmL (σ:=Nat × List Ob × Option Addr × Nat × (Nat->Prop) × List (ByteArray × Value) × List (zhM × Value) × (Nat->Nat->Nat)) [2,3,4,10,12,14,15,16,17,73,74,77] [2,3,4] [2,3,4,14] O (fun e ⟨r,al,aj,cj,F,L,K,cnt⟩=>(78,.int .i64 r)::e) (fun e ⟨r,al,aj,cj,F,L,K,cnt⟩=>(14,.own b14 [.slice aj al.length cj] 37)::(900,MapP Value.string m900 L)::(901,MapBP zaR m901 K)::(902,OwP 55 2 ROb F (.slice aj al.length cj) al)::e) (fun⟨r,al,aj,cj,F,L,K,cnt⟩=>r<=rnN f/\OfIn (obX f pub t) (rnN f) s r al cnt/\IxIn L (al.map spO)/\CntIn K cnt) (fun⟨r,al,aj,cj,F,L,K,cnt⟩=>rnN f - r) ((0,al,aj,cj,F,L,K,cnt)) (zlO O) (zlP O) (fun _=>rfl) (fun _=>rfl) (fun _=>rfl) (⟨zo8 _,hO,hL,hK⟩) ?_
     rintro⟨r,al,aj,cj,F,L,K,cnt⟩ ⟨hr,hO,hL,hK⟩
     show V _ _ _ _ _ ((78,.int .i64 r)::_) _ ((14,.own b14 [.slice aj al.length cj] 37)::(900,MapP Value.string m900 L)::(901,MapBP zaR m901 K)::(902,OwP 55 2 ROb F (.slice aj al.length cj) al)::_) _
     refine Vs 6 O ?_
     refine zk7 O (fun hlt2=>?_) (fun hlt2=>?_)
     ·
      obtain⟨hi1,hi2,hi3⟩:=ziv vd (s:=s) (r:=r) (by omega) (by omega)
      have hi0:zgv f.vars (s:Int) 0 (r:Int)=0:=by unfold zgv;rw [zo3 (zog hi1),zo3 (zog hi2),hi3]
      have hal:=hO.len
      have hsr:s*rnN f<=256*4096:=Nat.mul_le_mul (by omega) hr3
      refine Vs 16 O ?_
      refine zmD Tryz.call63 O (fun w hI=>zcR f.vars s 0 r _ D w vd.good (by omega) (Tr1 hI.k0 hf.vars)) ?_
      rintro r1 w1 w2 hI1 hk12 ⟨a,b,c,rfl,hu0,hu1⟩ hlow
      obtain⟨ha,hb,hc⟩:=hu1 hi0
      have hsec:SlR 1 zB (fun b=>w1.heap.size<=b) w2 a (zig f s):=by unfold zig;rw [zo4 hi1];exact ha
      have hrnd:SlR 1 zB (fun b=>w1.heap.size<=b) w2 c (zik f r):=by unfold zik;rw [zo4 hi3];exact hc
      obtain⟨au,cu,rfl⟩:=hsec.form
      obtain⟨ax,cx,rfl⟩:=hb.form
      obtain⟨ac,cc,rfl⟩:=hrnd.form
      refine Vs 3 O ?_
      refine V.alloc 19 Tryz.zeroValue61 O O (fun b19=>?_)
      refine Vs 13 O ?_
      refine V.dat 910 0 O O O (hsec) (fun q hq _ hs=>by have:=hlow q hs;omega) ?_
      refine V.dat 911 0 O O O (hrnd) (fun q hq _ hs=>by have:=hlow q hs;omega) ?_
      refine Vs 3 O ?_
      refine zmD Tryz.call64 O (fun w hI=>zeB f (zje f pub s r) _ _ _ _ _ _ (fun b=>D b\/D' b\/(w1.heap.size<=b/\b<w2.heap.size)) w (RFl.wide (Tr1 hI.k1 hf) (fun q hq=>.inl hq)) ((hI.at 910 O).1.wide zc (fun q hq=>.inr (.inr hq))) ((hp.ext zc hI.k1).wide zc (fun q hq=>.inr (.inl hq))) ((hI.at 911 O).1.wide zc (fun q hq=>.inr (.inr hq))) vd.size vd.bulk) ?_
      rintro r2 w3 w4 hI3 hk34 ⟨ov,tt,rfl,h1,h2⟩ hlow2
      obtain⟨rfl,hov⟩:=zhf h1 h2
      obtain⟨ao,co,rfl⟩:=hov.form
      obtain⟨ob1,ob2,ob3,ob4⟩:=zjf vd pub t s r
      have hrl:=(ze6 vd (zje f pub s r)).1
      refine Vs 3 O ?_
      refine V.alloc 21 tz55 O O (fun b21=>?_)
      refine Vs 9 O ?_
      refine zn1 [] (Hn:=fun y:Option Addr × Nat × (Nat->Prop)=>[(905,obE (obX f pub t s r) y)]) [(2,some (2,0)),(3,some (3,0)),(4,some (4,0)),(14,some (14,0)),(19,some (19,0)),(21,some (21,0)),(82,some (2,0)),(89,some (3,0)),(91,some (19,1)),(99,some (3,1))] Tryz.call65 O (fun _ _=>rfl) (fun _=>rfl) (fun w hI=>zjJ 905 (zdu (zdt f (zje f pub s r)) t (by omega) _ _ w (hov.keep zc hI.k0 (fun b hb _ hs=>by have:=hlow2 b hs;omega)))) ?_
      rintro _ ⟨az,cz,G⟩ rfl
      generalize hob:obX f pub t s r=ob at *
      refine Vs 7 O ?_
      refine zmO 104 [(0,_)] tR27 ts3 tz3 (by decide) O O (by kernel_rfl) (fun b104=>?_)
      refine Vs 2 O ?_
      refine znQ 104 1 1 O O O (by decide) ?_
      refine zmQ 104 (fun x=>[zd x]) (fun _=>rfl) (by simp [Value.oneCell']) zbO tu27 Tryz.el3 O (by decide) O (fun w hI=>⟨_,zjK (hI.at 905 O)⟩) (by omega) (by omega) (fun u104=>?_)
      refine zmK 104 O (e':=.row 3 1 u104 (spO ob).length ((spO ob).map zd)) (by unfold spO;rw [zom,Nat.add_comm,List.map_cons,kQ];rfl) ?_
      refine zmB Tryz.call66 O (fun w hI=>zbp (spO ob) (by unfold spO;rw [zom];omega) (fun x hx=>by unfold spO at hx;rcases zo9.1 hx with rfl | hx;(· omega);(· have:=ob2 x hx;omega)) _ (fun _=>True) w (zlh zd (fun _ _=>rfl) (hI.at 104 O) (fun _ _=>trivial)) (Tr1 hI.k2 ht)) ?_
      refine Vs 7 O ?_
      refine zm2 O (fun w hI=>znz (KeyOk.str tu9) (hI.at 900 O) tu105 tz3 O O) ?_
      refine zmo 112 (v:=.tuple #[.int .i64 (if ob ∈ al then ((al.map spO).idxOf (spO ob):Nat) else 0),.bool (decide (ob ∈ al))]) O (by by_cases h:ob ∈ al;(· rw [hL,zo4 (spO_mem.2 h)];simp [h]);(· rw [hL,zo3 (fun g=>h (spO_mem.1 g))];simp [h])) ?_
      refine Vs 11 O ?_
      refine zm2 O (fun w hI=>zly O (by first | exact za | rfl)) ?_
      refine Vs 2 O ?_
      refine zmM (σ:=Nat × List Ob × Option Addr × Nat × (Nat->Prop) × List (ByteArray × Value)) [2,3,4,10,12,14,15,16,17,73,74,77,78] [2,3,4,901,910,911] [2,3,4,14] O (fun e ⟨k,al',aj',cj',F',L'⟩=>(24,.int .i64 k)::e) (fun e ⟨k,al',aj',cj',F',L'⟩=>(14,.own b14 [.slice aj' al'.length cj'] 37)::(900,MapP Value.string m900 L')::(902,OwP 55 2 ROb F' (.slice aj' al'.length cj') al')::(905,.res (fun _=>False) (fun _=>True))::e) (fun⟨k,al',aj',cj',F',L'⟩=>al'=(if ob ∈ al then al else al++[ob])/\al'[k]?=some ob/\IxIn L' (al'.map spO)) (fun _=>rfl) (fun _=>rfl) ?_ ?_
      ·
       refine zk7 O (fun hm=>?_) (fun hm=>?_)
       ·
        have hn:spO ob ∉ al.map spO:=fun g=>hm (spO_mem.1 g)
        refine Vs 12 O ?_
        refine zn8 900 (e':=MapP Value.string m900 (yR L (spC (spO ob)) (.int .i64 (al.length:Int)))) O (MapP.loc) (fun _ h=>h) (fun w hI=>znA (KeyOk.str tu9) (hI.at 900 O) tu105 O O O) ?_
        refine Vs 5 O ?_
        refine zmO 124 [(0,_)] tR37 ts55 tz55 (by decide) O O (by kernel_rfl) (fun b124=>?_)
        refine znb [902,905] (Hn:=fun u=>[(902,OwP 55 2 ROb (fun q=>F q\/G q) u (al++[ob]))]) (u:=fun u=>u) [(2,some (2,0)),(3,some (3,0)),(4,some (4,0)),(14,some (14,0)),(19,some (19,0)),(21,some (21,0)),(82,some (2,0)),(89,some (3,0)),(91,some (19,1)),(99,some (3,1)),(102,some (21,1)),(105,some (21,0))] O (fun _=>rfl) (fun _=>rfl) (fun w hI=>znc 902 905 124 hI O O O O tu37 Tryz.el55 O (by decide) O O O (fun D x cs h=>zja D x cs h) (by omega) (by omega)) (fun u902=>?_)
        refine zmn (p:=∃ ao c,u902=.slice ao (al++[ob]).length c) (fun w hI=>zej (hI.at 902 O)) (fun hu=>?_)
        obtain⟨an,cn,rfl⟩:=hu
        refine Vs 2 O ?_
        refine znR 905 (p:=fun _=>True) O (fun _=>trivial) ?_
        refine zkn (⟨al.length,al++[ob],an,cn,fun q=>F q\/G q,yR L (spC (spO ob)) (.int .i64 (al.length:Int))⟩) (zlO O) (zlP O) (⟨by rw [zo3 hm],by rw [zok (zoi _),Nat.sub_self];rfl,by rw [List.map_append,show (al.length:Int)=((al.map spO).length:Int) by rw [zod]];exact hL.add hn⟩) 0 O O
       ·
        have hm:=zo2.1 hm
        obtain⟨hx1,hx2⟩:=zix hm
        refine zmU 905 (e':=.res (fun _=>False) (fun _=>True)) O (fun w hI=>trivial) (fun _ _ _ _ _ _=>trivial) (fun _ h=>h) (fun q h=>h.elim) ?_
        refine Vs 1 O ?_
        refine zmo 24 (v:=.int .i64 (((al.map spO).idxOf (spO ob):Nat):Int)) O (by rw [zo4 hm]) ?_
        refine zkn (⟨(al.map spO).idxOf (spO ob),al,aj,cj,F,L⟩) (zlO O) (zlP O) (⟨by rw [zo4 hm],hx2,hL⟩) 0 O O
      rintro⟨k,al',aj',cj',F',L'⟩ ⟨hal',hk',hL'⟩
      show V _ _ _ _ _ ((24,.int .i64 k)::_) _ ((14,.own b14 [.slice aj' al'.length cj'] 37)::(900,MapP Value.string m900 L')::(902,OwP 55 2 ROb F' (.slice aj' al'.length cj') al')::(905,.res (fun _=>False) (fun _=>True))::_) _
      have hkl:=(zo7.1 hk').1
      have hO':=hO.next (al':=al') (k:=k) (cnt':=fun s' k'=>cnt s' k'+if s'=s/\k'=k then 1 else 0) (by rw [hob];by_cases h:ob ∈ al;(· rw [zo4 h];rw [zo4 h] at hal';exact hal');(· rw [zo3 h];rw [zo3 h] at hal';exact hal')) (by rw [hob];exact hk') (fun _ _=>rfl)
      have hal2:=hO'.len
      have hs9:s<1000000000:=by omega
      have hk9:k<1000000000:=by omega
      have hcs:=hK s k hs9 hk9
      have hcb:cnt s k<=1000000:=by
       have h1:=hO'.ct s k ob hk'
       have h2:=zij (obX f pub t s) (xU (rnN f) s (r+1) s) ob
       have h3:xU (rnN f) s (r+1) s=r+1:=by unfold xU;rw [zo3 (by omega),zo4 rfl]
       rw [zo4 ⟨rfl,rfl⟩] at h1
       omega
      refine Vs 1 O ?_
      refine Vw [2,3,4,14] [] O ?_
      refine Vd [0,1,2] 0 (by kernel_rfl) O O O ?_
      refine zmS 3 [Value.int IntKind.i64 0,Value.int IntKind.i64 0] [(0,1),(1,1)] [(0,_),(1,_)] O (by kernel_rfl) O O (fun _=>by kernel_rfl) ?_
      refine znG 4 6 901 0 (E':=fun st=>MapBEP zaR m901 (yR K (zcV s k hs9 hk9) (.int .i64 ((cnt s k:Nat):Int))) (zcV s k hs9 hk9) st) (r:=fun st=>.tuple #[.int .i64 ((cnt s k:Nat):Int),.int .i64 (st:Nat)]) O (by kernel_rfl) O O (fun _=>⟨MapBEP.loc,fun _ h=>h⟩) (fun w hI=>znE zaS (MapB.g (show MapB zaR w m901 K from hI.at 901 O)) hcs tu106 tz3 O O) (fun w hI=>znD zaS (show MapB zaR w m901 K from hI.at 901 O) hcs tu106 tz3 O O) ?_ (fun x=>?_)
      ·
       refine Vb [5] 0 (by kernel_rfl) O O O (by omega) ?_
       refine znH 6 901 0 (E':=fun st=>MapBEP zaR m901 (yR K (zcV s k hs9 hk9) (.int .i64 ((cnt s k:Nat):Int))) (zcV s k hs9 hk9) st) (r:=fun st=>.tuple #[.int .i64 ((cnt s k:Nat):Int),.int .i64 (st:Nat)]) O (by kernel_rfl) O O (fun _=>⟨MapBEP.loc,fun _ h=>h⟩) (fun w hI=>znD zaS (show MapB zaR w m901 K from hI.at 901 O) hcs tu106 tz3 O O) (fun st=>?_)
       refine Vd [7] 0 (by kernel_rfl) O O O ?_
       refine zna 8 901 0 (e':=MapBP zaR m901 (yR (yR K (zcV s k hs9 hk9) (.int .i64 ((cnt s k:Nat):Int))) (zcV s k hs9 hk9) (.int .i64 ((cnt s k:Nat)+1:Int)))) O (by kernel_rfl) O O (MapBP.loc) (fun _ h=>h) (fun w hI=>znF (hI.at 901 O) O O O) ?_
       refine zlb (by kernel_rfl) ?_
       refine Va 6 O (by omega) ?_
       refine zmK 901 O (e':=MapBP zaR m901 (yR K (zcV s k hs9 hk9) (.int .i64 ((cnt s k:Nat)+1:Int)))) (by rw [zcN]) ?_
       refine zki (⟨r+1,al',aj',cj',F',L',yR K (zcV s k hs9 hk9) (.int .i64 ((cnt s k:Nat)+1:Int)),fun s' k'=>cnt s' k'+if s'=s/\k'=k then 1 else 0⟩) (zlO O) (zlP O) (⟨by omega,hO',hL',hK.add hs9 hk9⟩) (by first | omega | (dsimp only;omega)) 2 O O
      ·
       refine Vd [7] 0 (by kernel_rfl) O O O ?_
       refine zm3 4 0 O (by kernel_rfl) O O (fun w hI=>znE zaS (MapBE.g (show MapBE zaR w m901 (yR K (zcV s k hs9 hk9) (.int .i64 ((cnt s k:Nat):Int))) (zcV s k hs9 hk9) x from hI.at 901 O)) (by rw [jO,zo4 rfl] <;> rfl) tu106 tz3 O O) ?_
       refine Vb [5] 0 (by kernel_rfl) O O O (by omega) ?_
       refine zna 8 901 0 (e':=MapBP zaR m901 (yR (yR K (zcV s k hs9 hk9) (.int .i64 ((cnt s k:Nat):Int))) (zcV s k hs9 hk9) (.int .i64 ((cnt s k:Nat)+1:Int)))) O (by kernel_rfl) O O (MapBP.loc) (fun _ h=>h) (fun w hI=>znF (hI.at 901 O) O O O) ?_
       refine zlb (by kernel_rfl) ?_
       refine Va 6 O (by omega) ?_
       refine zmK 901 O (e':=MapBP zaR m901 (yR K (zcV s k hs9 hk9) (.int .i64 ((cnt s k:Nat)+1:Int)))) (by rw [zcN]) ?_
       refine zki (⟨r+1,al',aj',cj',F',L',yR K (zcV s k hs9 hk9) (.int .i64 ((cnt s k:Nat)+1:Int)),fun s' k'=>cnt s' k'+if s'=s/\k'=k then 1 else 0⟩) (zlO O) (zlP O) (⟨by omega,hO',hL',hK.add hs9 hk9⟩) (by first | omega | (dsimp only;omega)) 2 O O
     ·
      obtain rfl:r=rnN f:=by omega
      refine Va 10 O (by omega) ?_
      refine zki (⟨s+1,al,aj,cj,F,L,K,cnt⟩) (zlO O) (zlP O) (⟨by omega,hO.row,hL,hK⟩) (by first | omega | (dsimp only;omega)) 0 O O
    ·
     obtain rfl:s=spN f:=by omega
     obtain⟨hmem,hcnt⟩:=ziw hO
     have hnd:=hO.nd
     have hlen:=ziK hnd hmem
     refine Vs 13 O ?_
     refine zk7 O (fun l0=>?_) (fun l0=>?_)
     ·
      have hc:xA f pub t=4:=by unfold xA;rw [zo3 (zog c0),zo3 (zog c1),zo3 (by omega),zo4 (by omega)]
      refine Vs 2 O ?_
      refine zmR [Value.slice none 0 0] [(0,1)] [] O O (fun _=>by kernel_rfl) ?_
      refine Vs 7 O ?_
      refine znJ tr15 tg36 ts36 O O O (fun w hI=>⟨_,rfl,⟨_,_,by rw [hc],fun _=>⟨rfl,rfl⟩,fun h=>by rw [hc] at h;cases h⟩,hI.k0⟩)
     ·
      have hc:xA f pub t=0:=by unfold xA;rw [zo3 (zog c0),zo3 (zog c1),zo3 (by omega),zo3 (by omega)]
      have hul:=zc1 al.length
      refine Vs 6 O ?_
      refine zl1 142 tu27 Tryz.el3 O (by omega) (by omega) (zs:=List.replicate al.length (.int .i64 0)) (zeT _ _ O) (by simp) (fun b142=>?_)
      refine zmK 142 O (e':=.row 3 1 (.slice (some ⟨b142,0,none⟩) al.length al.length) al.length (((zcU al.length).take 0++List.replicate ((zcU al.length).length - 0) 0).map zd)) (by simp [zd,zc1]) ?_
      refine Vs 12 O ?_
      refine zmL (σ:=Nat) [4,10,14,16,26,144] [4,14,900,901,902] [4,14] O (fun e i=>(145,.int .i64 i)::e) (fun e i=>(142,.row 3 1 (.slice (some ⟨b142,0,none⟩) al.length al.length) al.length (((zcU al.length).take i++List.replicate ((zcU al.length).length - i) 0).map zd))::e) (fun i=>i<=al.length) (fun i=>al.length - i) (0) (zlO O) (zlP O) (fun _=>rfl) (fun _=>rfl) (fun _=>rfl) (zo8 _) ?_
      rintro i hi
      refine Vs 6 O ?_
      refine zk7 O (fun q=>?_) (fun q=>?_)
      ·
       refine Va 15 O (by omega) ?_
       refine V.rs 142 (i) ts3 O (by omega) (by simp [zc1];omega) ?_
       refine zmK 142 O (e':=.row 3 1 (.slice (some ⟨b142,0,none⟩) al.length al.length) al.length (((zcU al.length).take (i+1)++List.replicate ((zcU al.length).length - (i+1)) 0).map zd)) (by rw [<- zgp (zjr (by omega))]) ?_
       refine Va 7 O (by omega) ?_
       refine zki (i+1) (zlO O) (zlP O) (by omega) (by first | omega | (dsimp only;omega)) 0 O O
      ·
       obtain rfl:i=al.length:=by omega
       refine zmK 142 O (e':=.row 3 1 (.slice (some ⟨b142,0,none⟩) al.length al.length) (zcU al.length).length ((zcU al.length).map zd)) (by rw [List.take_of_length_le (by omega),hul,Nat.sub_self,List.replicate_zero,List.append_nil]) ?_
       refine zmU 142 (e':=OwP 3 1 (ziU al.length) (fun _=>False) (.slice (some ⟨b142,0,none⟩) al.length al.length) (zcU al.length)) O (fun w hI=>ziy (hI.at 142 O) (fun x hx=>mem_upTo.1 hx)) (OwP.loc) (fun _ h=>h) (fun q hq=>hq.elim id False.elim) ?_
       refine Vs 9 O ?_
       refine zmE 142 (E:=fun l'=>OwP 3 1 (ziU al.length) (fun _=>False) (.slice (some ⟨b142,0,none⟩) al.length al.length) l') Tryz.call67 O (fun _=>⟨OwP.loc,fun _ h=>h⟩) (fun w hI=>zg7 (k:=142) (cf:=fun x y=>yF (atO al x) (atO al y)) zjk (fun D w x cs h=>⟨_,h.1,rfl⟩) Tryz.call68 (zjN al) hI O (by omega) (fun x y u u' W' hk hx hy=>by obtain⟨h1,h2,h3⟩:=hx;obtain⟨h4,h5,h6⟩:=hy;cases h1;cases h4;obtain⟨x,rfl⟩:∃ z:Nat,x=(z:Int):=⟨x.toNat,by omega⟩;obtain⟨y,rfl⟩:∃ z:Nat,y=(z:Int):=⟨y.toNat,by omega⟩;exact zjj al x y (by omega) (by omega) _ (fun _=>True) b14 W' (hk.cells (Blk.cells (hI.at 14 O)) (fun h=>hI.sep (k:=142) (k2:=14) O O (by decide) (.inl h) O)) (((show OwH _ _ _ _ _ _ _ from hI.at 902 O).1.keep StC.s hk (fun q hq _ h=>hI.sep (k:=142) (k2:=902) O O (by decide) (.inl h) (.inr hq)) (fun q hq h=>hI.sep (k:=142) (k2:=902) O O (by decide) (.inl h) (.inl hq))).sl (by omega) StC.s (fun _ _=>trivial) (fun _ _=>trivial)))) ?_
       rintro _ l' ⟨rfl,hperm,hpw⟩
       refine zmn (p:=∀ x ∈ l',0<=x/\x<(al.length:Int)) (fun w hI=>(zg9 (hI.at 142 O)).2) (fun hix=>?_)
       have hl'l:l'.length=al.length:=by rw [hperm.length_eq,hul]
       have hsn:l'.map (atO al)=ziS f pub t:=zcJ (by have:=hperm.map (atO al);rwa [zjq] at this) hnd (by rw [List.pairwise_map];exact hpw) hmem
       refine zmK 142 O (e':=OwP 3 1 (ziU al.length) (fun _=>False) (.slice (some ⟨b142,0,none⟩) al.length al.length) l') (rfl) ?_
       refine zmU 142 (e':=.row 3 1 (.slice (some ⟨b142,0,none⟩) al.length al.length) al.length (l'.map zd)) O (fun w hI=>(by rw [<- hl'l];exact (hl'l ▸ (zg9 (hI.at 142 O)).1))) (trivial) (fun _ h=>h) (fun q hq=>.inl hq) ?_
       refine znS 902 911 [(4,some (4,0)),(14,some (14,0))] O (fun _=>rfl) (fun _=>rfl) (fun xs=>?_)
       refine zmn (p:=xs.length=al.length*2) (fun w hI=>(show w.ownsRow 0 55 2 (.slice aj al.length cj) al.length xs from hI.at 902 O).1) (fun hxl2=>?_)
       refine Vs 4 O ?_
       refine V.alloc 28 tz36 O O (fun b28=>?_)
       refine Vs 3 O ?_
       refine zmu 912 55 2 O ?_
       refine Vs 13 O ?_
       refine zmL (σ:=Nat × Value) [4,10,14,16,26,28,156,157] [4,14,28,142,900,901,911] [4,14,28] O (fun e ⟨j,us⟩=>(158,.int .i64 j)::(29,us)::e) (fun e ⟨j,us⟩=>(912,.row 55 2 us j ((l'.take j).flatMap (zdA xs)))::(902,.row 55 2 (.slice aj al.length cj) al.length xs)::e) (fun⟨j,us⟩=>j<=al.length) (fun⟨j,us⟩=>al.length - j) ((0,.slice none 0 0)) (zlO O) (zlP O) (fun _=>rfl) (fun _=>rfl) (fun _=>rfl) (zo8 _) ?_
       rintro⟨j,us⟩ hj
       show V _ _ _ _ _ ((158,.int .i64 j)::(29,us)::_) _ ((912,.row 55 2 us j ((l'.take j).flatMap (zdA xs)))::(902,.row 55 2 (.slice aj al.length cj) al.length xs)::_) _
       refine Vs 6 O ?_
       refine zk7 O (fun q2=>?_) (fun q2=>?_)
       ·
        obtain⟨x,hx⟩:∃ x,l'[j]?=some x:=⟨_,znT (by omega)⟩
        have hxb:=hix x (znU hx)
        obtain⟨k,rfl⟩:∃ k:Nat,x=(k:Int):=⟨x.toNat,by omega⟩
        obtain⟨ox,hox⟩:∃ o,al[k]?=some o:=⟨_,znT (by omega)⟩
        refine zmn (p:=∃ a c,(xs.drop (k*2)).take 2=[.slice a ox.1.length c,.int .i64 ox.2]) (fun w hI=>(by obtain⟨v,h1,h2⟩:=(show ∀ (i:Nat) x,al[i]?=some x->ROb F w x ((xs.drop (i*2)).take 2) from hI.at 911 O) k ox hox;obtain⟨a,c,rfl⟩:=h2.form;exact⟨a,c,h1⟩)) (fun hcl=>?_)
        obtain⟨ax,cx,hcl⟩:=hcl
        refine zmn (p:=∃ b,aj=some ⟨b,0,none⟩) (fun w hI=>(by obtain⟨ao,c,h1,h2⟩:=zd0 (show w.ownsRow 0 55 2 (.slice aj al.length cj) al.length xs from hI.at 902 O);cases h1;exact h2 (by omega))) (fun hb=>?_)
        obtain⟨bj,rfl⟩:=hb
        refine Va 7 O (by omega) ?_
        refine zmz 142 (j) tg3 O (by omega) (show (l'.map zd)[j]?=some (.int .i64 (k:Int)) by rw [zoa,hx];rfl) ?_
        refine Vs 7 O ?_
        refine zm2 O (fun w hI=>zkP tR37 ts55 O O O (by omega)) ?_
        refine zm2 O (fun w hI=>zkR tg55 ts55 O (cs:=[.slice ax ox.1.length cx,.int .i64 ox.2]) O (zeP (hI.at 902 O) hcl)) ?_
        refine zmO 167 [(0,_)] tR37 ts55 tz55 (by decide) O O (by kernel_rfl) (fun b167=>?_)
        refine zmv 912 167 tu37 Tryz.el55 O (by decide) O O (by omega) (by omega) (fun u912=>?_)
        refine Va 8 O (by omega) ?_
        refine zmK 912 O (e':=.row 55 2 u912 (j+1) ((l'.take (j+1)).flatMap (zdA xs))) (by rw [zg hx,List.flatMap_append,List.flatMap_singleton];unfold zdA;rw [zof,hcl]) ?_
        refine zki (⟨j+1,u912⟩) (zlO O) (zlP O) (by omega) (by first | omega | (dsimp only;omega)) 0 O O
       ·
        obtain rfl:j=al.length:=by omega
        have hml:(mxO f pub t).length=spN f:=by simp [mxO]
        have hmr:∀ s,s<spN f->(mxO f pub t)[s]?=some (l'.map fun k=>((cnt s k.toNat:Nat):Int)):=fun s hs=>by
         unfold mxO
         rw [zoa,List.getElem?_range hs,Option.map_some,<- hsn,List.map_map]
         refine congrArg some (List.map_congr_left fun k hk=>?_)
         have hkb:=hix k hk
         obtain⟨o,ho⟩:∃ o,al[k.toNat]?=some o:=⟨_,znT (by omega)⟩
         have h1:=hcnt s hs k.toNat o ho
         simp only [Function.comp]
         rw [h1]
         unfold atO
         rw [ho]
         rfl
        refine Vs 12 O ?_
        refine zmu 913 27 1 O ?_
        refine zmU 913 (e':=OwP 27 1 (RSl 1 zB) (fun _=>False) (.slice none 0 0) []) O (fun w hI=>OwH.nil) OwP.loc (fun _ h=>h) (fun q hq=>hq.elim id False.elim) ?_
        refine Vs 1 O ?_
        refine zmL (σ:=Nat × Option Addr × Nat × (Nat->Prop)) [4,16,26,28,29,170] [4,142,900,901,911,912] [4,28] O (fun e ⟨x,ar,cr,Fr⟩=>(171,.int .i64 x)::e) (fun e ⟨x,ar,cr,Fr⟩=>(28,.own b28 [.slice ar ((mxO f pub t).take x).length cr] 36)::(913,OwP 27 1 (RSl 1 zB) Fr (.slice ar ((mxO f pub t).take x).length cr) ((mxO f pub t).take x))::e) (fun⟨x,ar,cr,Fr⟩=>x<=spN f) (fun⟨x,ar,cr,Fr⟩=>spN f - x) ((0,none,0,fun _=>False)) (zlO O) (zlP O) (fun _=>rfl) (fun _=>rfl) (fun _=>rfl) (zo8 _) ?_
        rintro⟨x,ar,cr,Fr⟩ hx
        show V _ _ _ _ _ ((171,.int .i64 x)::_) _ ((28,.own b28 [.slice ar ((mxO f pub t).take x).length cr] 36)::(913,OwP 27 1 (RSl 1 zB) Fr (.slice ar ((mxO f pub t).take x).length cr) ((mxO f pub t).take x))::_) _
        have hxl:((mxO f pub t).take x).length=x:=by rw [zon,hml];omega
        refine Vs 6 O ?_
        refine zk7 O (fun q3=>?_) (fun q3=>?_)
        ·
         have hmx:=hmr x (by omega)
         obtain⟨RL,hRL⟩:∃ RL:List Int,RL=l'.map fun k=>((cnt x k.toNat:Nat):Int):=⟨_,rfl⟩
         have hRl:RL.length=al.length:=by rw [hRL,zod,hl'l]
         rw [<- hRL] at hmx
         have htk:(mxO f pub t).take (x+1)=(mxO f pub t).take x++[RL]:=zg hmx
         refine Vs 14 O ?_
         refine zl1 176 tu27 Tryz.el3 O (by omega) (by omega) (zs:=List.replicate al.length (.int .i64 0)) (zeT _ _ O) (by simp) (fun b176=>?_)
         refine zmK 176 O (e':=.row 3 1 (.slice (some ⟨b176,0,none⟩) al.length al.length) al.length ((RL.take 0++List.replicate (RL.length - 0) 0).map zd)) (by simp [zd,hRl]) ?_
         refine Vs 12 O ?_
         refine zmL (σ:=Nat) [4,16,26,28,29,32,33,170,171,177,178] [4,28,142,900,901,911,912,913] [4,28] O (fun e y=>(179,.int .i64 y)::e) (fun e y=>(176,.row 3 1 (.slice (some ⟨b176,0,none⟩) al.length al.length) al.length ((RL.take y++List.replicate (RL.length - y) 0).map zd))::e) (fun y=>y<=al.length) (fun y=>al.length - y) (0) (zlO O) (zlP O) (fun _=>rfl) (fun _=>rfl) (fun _=>rfl) (zo8 _) ?_
         rintro y hy
         refine Vs 6 O ?_
         refine zk7 O (fun q4=>?_) (fun q4=>?_)
         ·
          obtain⟨z,hz⟩:∃ z,l'[y]?=some z:=⟨_,znT (by omega)⟩
          have hzb:=hix z (znU hz)
          obtain⟨k,rfl⟩:∃ k:Nat,z=(k:Int):=⟨z.toNat,by omega⟩
          have hRy:RL[y]?=some ((cnt x k:Nat):Int):=by rw [hRL,zoa,hz];rfl
          have hx9:x<1000000000:=by omega
          have hk9:k<1000000000:=by omega
          refine Va 8 O (by omega) ?_
          refine zmz 142 (y) tg3 O (by omega) (show (l'.map zd)[y]?=some (.int .i64 (k:Int)) by rw [zoa,hz];rfl) ?_
          refine Vs 10 O ?_
          refine zmR [Value.int IntKind.i64 0,Value.int IntKind.i64 0] [(0,1),(1,1)] [(0,_),(1,_)] O O (fun _=>by kernel_rfl) ?_
          refine zm2 O (fun w hI=>znE zaS (MapB.g (show MapB zaR w m901 K from hI.at 901 O)) (hK x k hx9 hk9) tu106 tz3 O O) ?_
          refine Va 1 O (by omega) ?_
          refine V.rs 176 (y) ts3 O (by omega) (by simp;omega) ?_
          refine zmK 176 O (e':=.row 3 1 (.slice (some ⟨b176,0,none⟩) al.length al.length) al.length ((RL.take (y+1)++List.replicate (RL.length - (y+1)) 0).map zd)) (by rw [<- zgp hRy]) ?_
          refine Va 7 O (by omega) ?_
          refine zki (y+1) (zlO O) (zlP O) (by omega) (by first | omega | (dsimp only;omega)) 0 O O
         ·
          obtain rfl:y=al.length:=by omega
          refine zmK 176 O (e':=.row 3 1 (.slice (some ⟨b176,0,none⟩) al.length al.length) RL.length (RL.map zd)) (by rw [List.take_of_length_le (by omega),hRl,Nat.sub_self,List.replicate_zero,List.append_nil]) ?_
          refine zmU 176 (e':=DaP (RSl 1 zB) (fun q=>q=b176) RL [.slice (some ⟨b176,0,none⟩) al.length al.length]) O (fun w hI=>⟨_,rfl,zlh zd (fun _ _=>rfl) (hRl ▸ (hI.at 176 O)) (fun g hg=>(Option.some.inj hg).symm)⟩) DaP.loc (fun _ h=>h) (fun q hq=>congrArg some (show b176=q from Eq.symm hq)) ?_
          refine Vs 9 O ?_
          refine zmO 196 [(0,_)] tR34 ts27 tz27 (by decide) O O (by kernel_rfl) (fun b196=>?_)
          refine znb [913,176] (Hn:=fun u=>[(913,OwP 27 1 (RSl 1 zB) (fun q=>Fr q\/q=b176) u ((mxO f pub t).take x++[RL]))]) (u:=fun u=>u) [(4,some (4,0)),(28,some (28,0)),(193,some (28,0))] O (fun _=>rfl) (fun _=>rfl) (fun w hI=>znc 913 176 196 hI O O O O tu34 Tryz.el27 O (by decide) O O O (fun D x cs h=>zhE D x cs h) (by omega) (by omega)) (fun u913=>?_)
          refine zmn (p:=∃ ao c,u913=.slice ao ((mxO f pub t).take x++[RL]).length c) (fun w hI=>zej (hI.at 913 O)) (fun hu=>?_)
          obtain⟨an,cn,rfl⟩:=hu
          refine Va 9 O (by omega) ?_
          rw [<- htk] at *
          refine zki (⟨x+1,an,cn,fun q=>Fr q\/q=b176⟩) (zlO O) (zlP O) (by omega) (by first | omega | (dsimp only;omega)) 0 O O
        ·
         obtain rfl:x=spN f:=by omega
         have htx:(mxO f pub t).take (spN f)=mxO f pub t:=by rw [<- hml,znY]
         rw [htx] at *
         refine Vs 15 O ?_
         refine znJ tr15 tg36 ts36 O O O (fun w hI=>⟨_,rfl,⟨_,_,by rw [hc],fun h=>absurd hc h,fun _=>⟨(show OwH _ _ _ _ _ _ _ from hI.at 913 O).sl (by omega) (fun q hq=>hI.own 913 0 O O q hq),OwnR.sl (e:=55) (R:=ROb) (D:=fun q=>W.heap.size<=q) ⟨l'.flatMap (zdA xs),by rw [<- hsn,zod,hl'l];exact (List.take_of_length_le (l:=l') (i:=al.length) (by omega)) ▸ (hI.at 912 O),fun i x hi=>ziL hxl2 hsn (fun z hz=>hix z hz) (show ∀ (i:Nat) x,al[i]?=some x->ROb F w x ((xs.drop (i*2)).take 2) from hI.at 911 O) (fun q hq=>hI.own 911 0 O O q hq) hi⟩ (by omega) StC.s (fun _ h=>h) (fun q hq=>hI.own 912 0 O O q hq)⟩⟩,hI.k0⟩)
end Go.Proofs.YtaenledoagbddaaGreatDoor
namespace Go.GL
section
variable {P:Program} {n:Nat} {Q:Exit->Act->World->Prop} {ks:List Fr} {env:Env} {A:Tgs} {H Hs:Hp} {Bs B0:zP} {ops:Array Oper} {L:List Nat} {fuel:Nat} {listed:Array Bool} {d:Nat} {ty:TypeId} {ps:String} {aft:Array Edge} {g:Option (Nat × Bool)} {v:Value}
theorem zmZ (i j:Nat) {f:FuncId} {x:Operand} {fs cs:List Value} {xs:Array Operand} {ts:Array TypeId} {vs:List Value} (hf:∀ args w,(callFunc f args).run P w=.ok (.enter f args) w) (hi:ops[i]?=some ⟨some d,.call ⟨.value x,xs,ts⟩,ty,ps,aft,g⟩) (hr:Region.ready .any ops listed=[i]) (hn:(Nat.blt d n,gd ops env g,qu env xs.toList,ev env x,qo (Hs.map (·.1)))=(true,some true,some vs,some (.func (.func f) fs.toArray cs.toArray),true)) (hB:Bs.drop j=B0)
  (hc:∀ w,VI Bs H w->Calls P f (fs++vs++cs).toArray w (Ret fun r w'=>r=v/\Ext w w')) (h:VD P n Q ks ops Hs B0 L fuel (listed.setIfInBounds i true) ((d,v)::env) ((d,none)::A) H Bs):VD P n Q ks ops Hs B0 L (fuel+1) listed env A H Bs:=by
 simp only [Prod.mk.injEq] at hn
 subst hB
 refine fun hH hA w hI=>zmF i hi hr hn.1 hn.2.1 (.inr ⟨f,_,zkU hf hn.2.2.2.1 (yH hn.2.2.1),hc w hI⟩) ?_
 rintro _ w' ⟨rfl,hk⟩
 exact⟨((hI.ext hk).drop j).pick hH hn.2.2.2.2,h hH hA.none w' (hI.ext hk)⟩
end
abbrev BlkP (g:Nat) (cs:List Value) (e:TypeId):HE:=.res (fun q=>q=g) (fun w=>Blk w g cs e)
theorem BlkP.loc {g:Nat} {cs:List Value} {e:TypeId}:(BlkP g cs e).loc:=fun _ _ _ h hk hT=>hk.blk h (hT g (show Blk _ g cs e from h).lt rfl)
end Go.GL
namespace Go.Proofs.YtaenledoagbddaaGreatDoor
open Go.GL
abbrev zjP (p:Ob × Value):List Value:=[p.2,.int .i64 p.1.2]
def PairD (es:List (Ob × Value)) (F:Nat->Prop) (w:World):Prop:=∀ p ∈ es,SlR 1 zB F w p.2 p.1.1
theorem PairD.loc {es:List (Ob × Value)} {F:Nat->Prop}:(HE.res F (PairD es F)).loc:=fun _ _ _ h hk hT p hp=>(h p hp).keep zc hk fun b hb hlt=>hT b hlt hb
theorem PairD.wide {es:List (Ob × Value)} {F G:Nat->Prop} {w:World} (h:PairD es F w) (hF:∀ q,F q->G q):PairD es G w:=fun p hp=>(h p hp).wide zc hF
def RPr:Rel (Ob × Value):=fun _ _ x cs=>cs=zjP x
theorem jS:zW RPr:=fun _ _ _ _ _ _ _ _ h=>h
instance:StC RPr:=⟨jS⟩
def RowsD (rows:List (List (Ob × Value))) (hs:List Value) (G:Nat->Prop) (w:World):Prop:=∀ (i:Nat) rc,rows[i]?=some rc->∃ v,hs[i]?=some v/\SlR 2 RPr G w v rc
theorem RowsD.loc {rows:List (List (Ob × Value))} {hs:List Value} {G:Nat->Prop}:(HE.res G (RowsD rows hs G)).loc:=fun _ _ _ h hk hT i rc hi=>by
 obtain⟨v,h1,h2⟩:=h i rc hi
 exact⟨v,h1,h2.keep jS hk fun b hb hlt=>hT b hlt hb⟩
theorem RowsD.add {rows:List (List (Ob × Value))} {hs:List Value} {G G':Nat->Prop} {w:World} {rc:List (Ob × Value)} {v:Value} (h:RowsD rows hs G w) (hl:rows.length=hs.length) (hv:SlR 2 RPr G' w v rc):RowsD (rows++[rc]) (hs++[v]) (fun q=>G q\/G' q) w:=fun i r hi=>by
 by_cases hlt:i<rows.length
 ·
  rw [zoj hlt] at hi
  obtain⟨u,h1,h2⟩:=h i r hi
  exact⟨u,by rw [zoj (by omega)];exact h1,h2.wide jS fun _ h=>.inl h⟩
 ·
  have hil:=(zo7.1 hi).1
  rw [zo1,zoe] at hil
  obtain rfl:i=rows.length:=by omega
  rw [zok (zoi _),Nat.sub_self] at hi
  obtain rfl:rc=r:=by simpa using hi
  exact⟨v,by rw [hl,zok (zoi _),Nat.sub_self];rfl,hv.wide jS fun _ h=>.inr h⟩
theorem PairD.one {es:List (Ob × Value)} {F:Nat->Prop} {w:World} (h:PairD es F w):∀ p ∈ es,p.2.oneCell'=true:=fun p hp=>by
 obtain⟨a,c,e⟩:=(h p hp).form
 rw [e];rfl
theorem zek (xs ys:List Int) (u v:Value) (D D':Nat->Prop) (w:World) (hx:SlR 1 zB D w u xs) (hy:SlR 1 zB D' w v ys):Calls Tryz.prog 27 #[u,v] w (Ret fun r w'=>r=.bool (decide (xs=ys))/\Ext w w'):=by
 obtain⟨ao,cx,rfl,hxc,hxm,hxe⟩:=hx
 obtain⟨bo,cy,rfl,hyc,hym,hye⟩:=hy
 refine zmb Tryz.func27 O Tryz.ntmps27 O (Gs 15 O (zm0 O (fun hne=>?_) (fun heq=>?_)))
 ·
  refine Gs 7 O ?_
  have:¬ xs=ys:=fun h=>hne (by rw [h])
  refine zkq Tryz.results27 O ⟨_,rfl,by rw [zo6 this],Keep.refl _ _⟩
 ·
  have hl:xs.length=ys.length:=by omega
  refine Gs 11 O (G.loop (σ:=Nat) (fun k=>[(0,.slice ao xs.length cx),(1,.slice bo ys.length cy),(11,.slice ao xs.length cx),(12,.int .i64 xs.length),(13,.int .i64 k)]) (fun k=>fun w'=>k<=xs.length/\xs.take k=ys.take k/\Ext w w') (fun k=>xs.length - k) (0) (zlO O) (⟨zo8 _,rfl,Keep.refl _ _⟩) ?_)
  rintro k w1 ⟨hkl,htk,hk1⟩
  refine Gs 6 O (zm0 O (fun hlt=>?_) (fun hge=>?_))
  ·
   obtain⟨x,hx⟩:∃ x,xs[k]?=some x:=⟨_,znT (by omega)⟩
   obtain⟨y,hy⟩:∃ y,ys[k]?=some y:=⟨_,znT (by omega)⟩
   obtain⟨b1,o1,c1,hao,_,hcl1,hcs1,rfl⟩:=hxe k x hx
   obtain⟨b2,o2,c2,hbo,_,hcl2,hcs2,rfl⟩:=hye k y hy
   have hcs1':=hk1.cells hcs1 (fun h=>h)
   have hcs2':=hk1.cells hcs2 (fun h=>h)
   refine Gs 11 O (Qt (by kernel_rfl) (Gs 2 O (zm4 O O (fun w1 hw1=>zkP tR27 ts3 O O hao (by omega)) (zm6 O tg3 (fun w1 hw1=>(hw1.cell (hcs1' 0 _ O) (fun h=>h))) (Gs 2 O (zm4 O O (fun w1 hw1=>zkP tR27 ts3 O O hbo (by omega)) (zm6 O tg3 (fun w1 hw1=>(hw1.cell (hcs2' 0 _ O) (fun h=>h))) (Gs 1 O (zm8 (fun w2 hk2=>?_))))))))))
   refine Gs 1 O (zm0 O (fun hd=>?_) (fun he=>?_))
   ·
    have:¬ xs=ys:=by
     rintro rfl
     rw [hx] at hy
     exact hd (Option.some.inj hy)
    refine Gs 11 O (zkq Tryz.results27 O ⟨_,rfl,by rw [zo6 this],hk1.ext hk2⟩)
   ·
    have hxy:x=y:=zo2.1 he
    refine Ga 7 O (by omega) (zkh (k+1) (zlO O) (⟨by omega,?_,hk1.ext hk2⟩) (by first | omega | (dsimp only;omega)))
    obtain⟨h1,h2⟩:=zo7.1 hx
    obtain⟨h3,h4⟩:=zo7.1 hy
    rw [List.take_succ_eq_append_getElem h1,List.take_succ_eq_append_getElem h3,htk,h2,h4,hxy]
  ·
   have hkk:k=xs.length:=by omega
   have:xs=ys:=by
    rw [hkk,znY] at htk
    rw [hl,znY] at htk
    exact htk
   refine Gs 11 O (zkq Tryz.results27 O ⟨_,rfl,by rw [zo5 this],hk1⟩)
theorem ziN (xs ys:Mx) (u v:Value) (D D':Nat->Prop) (W:World) (hx:SlR 1 (RSl 1 zB) D W u xs) (hy:SlR 1 (RSl 1 zB) D' W v ys) :
  Calls Tryz.prog 76 #[u,v,.func (.func 27) #[] #[]] W (Ret fun r w'=>r=.bool (decide (xs=ys))/\Ext W w'):=by
 obtain⟨ax,cx,rfl⟩:=hx.form
 obtain⟨ay,cy,rfl⟩:=hy.form
 have hmx:=hx.max
 have hmy:=hy.max
 refine zmc Tryz.func76 O Tryz.ntmps76 O (zmm ?_)
 refine Vs 15 O ?_
 refine zk7 O (fun h=>?_) (fun h=>?_)
 ·
  refine Vs 7 O ?_
  refine zkr Tryz.results76 O (fun w hI=>⟨_,rfl,by rw [zo6 (fun e=>by rw [e] at h;exact h O)],hI.k0⟩)
 ·
  have hl:xs.length=ys.length:=by omega
  refine Vs 11 O ?_
  refine zmL (σ:=Nat) [1,2,15,16] [] [] O (fun e i=>(17,.int .i64 i)::e) (fun e i=>e) (fun i=>i<=xs.length/\∀ j,j<i->xs[j]?=ys[j]?) (fun i=>xs.length - i) (0) (zlO O) (zlP O) (fun _=>rfl) (fun _=>rfl) (fun _=>rfl) (⟨zo8 _,fun j h=>absurd h (Nat.not_lt_zero _)⟩) ?_
  rintro i ⟨hi,he⟩
  refine Vs 6 O ?_
  refine zk7 O (fun hlt=>?_) (fun hlt=>?_)
  ·
   refine Vs 7 O ?_
   obtain⟨x,he_x,hm_x⟩:=gE_ xs (i) (by omega)
   obtain⟨b_x,o_x,c_x,ha_x,_,hc_x,hR_x⟩:=hx.at he_x
   obtain⟨v1_x,rfl,hs_x⟩:=hR_x
   obtain⟨a1_x,n1_x,rfl⟩:=hs_x.form
   refine zmI 1000 0 O O hc_x ?_
   refine V.ix 1000 tR34 ts27 O ha_x (by omega) (_) (rfl) O ?_
   refine Vs 9 O ?_
   obtain⟨y,he_y,hm_y⟩:=gE_ ys (i) (by omega)
   obtain⟨b_y,o_y,c_y,ha_y,_,hc_y,hR_y⟩:=hy.at he_y
   obtain⟨v1_y,rfl,hs_y⟩:=hR_y
   obtain⟨a1_y,n1_y,rfl⟩:=hs_y.form
   refine zmI 2000 0 O O hc_y ?_
   refine V.ix 2000 tR34 ts27 O ha_y (by omega) (_) (rfl) O ?_
   refine Vs 9 O ?_
   refine zmY Tryz.call27 O (fun w hI=>zek x y _ _ D D' w (Tr1 hI.k0 hs_x) (Tr1 hI.k0 hs_y)) ?_
   refine zm2 O (fun w hI=>zly O (by first | exact za | rfl)) ?_
   refine Vs 2 O ?_
   refine zk7 O (fun n0=>?_) (fun n0=>?_)
   ·
    refine Vs 11 O ?_
    refine zkr Tryz.results76 O (fun w hI=>⟨_,rfl,by rw [zo6 (fun e=>n0 (by rw [e,he_y] at he_x;exact (Option.some.inj he_x).symm))],hI.k0⟩)
   ·
    refine Va 7 O (by omega) ?_
    refine zki (i+1) (zlO O) (zlP O) (⟨by omega,fun j hj=>by by_cases e:j=i;(· rw [e,he_x,he_y,zo2.1 n0]);(· exact he j (by omega))⟩) (by first | omega | (dsimp only;omega)) 0 O O
  ·
   refine Vs 11 O ?_
   refine zkr Tryz.results76 O (fun w hI=>⟨_,rfl,by rw [zo5 (List.ext_getElem? fun j=>by by_cases hj:j<xs.length;(· exact he j (by omega));(· rw [zoh (by omega),zoh (by omega)]))],hI.k0⟩)
theorem kr (xs ys:Mx) (u v:Value) (D D':Nat->Prop) (W:World) (hx:SlR 1 (RSl 1 zB) D W u xs) (hy:SlR 1 (RSl 1 zB) D' W v ys) :
  Calls Tryz.prog 18 #[.agg #[u],.agg #[v]] W (Ret fun r w'=>r=.bool (decide (xs=ys))/\Ext W w'):=by
 obtain⟨ax,cx,rfl⟩:=hx.form
 obtain⟨ay,cy,rfl⟩:=hy.form
 refine zmb Tryz.func18 O Tryz.ntmps18 O (zmm ?_)
 refine Vs 2 O ?_
 refine V.box 2 O O (fun b2=>?_)
 refine V.box 3 O O (fun b3=>?_)
 refine Vs 9 O ?_
 refine zmB Tryz.call76 O (fun w hI=>ziN xs ys _ _ D D' w (Tr1 hI.k0 hx) (Tr1 hI.k0 hy)) ?_
 refine Vs 4 O ?_
 refine zkr Tryz.results18 O (fun w hI=>⟨_,rfl,rfl,hI.k0⟩)
def SumOwn (C:Mx) (hs:List Value) (O F:Nat->Prop) (w:World):Prop:=∀ (i:Nat) x,O i->C[i]?=some x->∃ v,hs[i]?=some v/\SlR 1 zB F w v x
def SumOld (C:Mx) (hs:List Value) (O B:Nat->Prop) (w:World):Prop:=∀ (i:Nat) x,¬ O i->C[i]?=some x->∃ v,hs[i]?=some v/\SlR 1 zB B w v x
theorem SumOwn.loc {C:Mx} {hs:List Value} {O F:Nat->Prop}:(HE.res F (SumOwn C hs O F)).loc:=fun w w' T hx hk hT i x hi hD=>by
 obtain⟨v,h1,h2⟩:=hx i x hi hD
 exact⟨v,h1,h2.keep zc hk fun b hb hlt=>hT b hlt hb⟩
theorem SumOwn.put {C:Mx} {hs:List Value} {O F G:Nat->Prop} {w:World} {k:Nat} {x:List Int} {v:Value} (h:SumOwn C hs O F w) (hk:k<hs.length) (hG:SlR 1 zB G w v x):SumOwn (C.set k x) (hs.set k v) (fun i=>O i\/i=k) (fun q=>F q\/G q) w:=fun i z hi hz=>by
 by_cases e:k=i
 ·
  subst e
  rw [List.getElem?_set] at hz
  simp only [zo4] at hz
  split at hz
  ·
   cases hz
   exact⟨v,List.getElem?_set_self hk,hG.wide zc fun q hq=>.inr hq⟩
  . cases hz
 ·
  rw [List.getElem?_set_ne e] at hz
  obtain⟨u,h1,h2⟩:=h i z (hi.elim id fun h=>absurd h.symm e) hz
  exact⟨u,by rw [List.getElem?_set_ne e];exact h1,h2.wide zc fun q hq=>.inl hq⟩
theorem SumOld.put {C:Mx} {hs:List Value} {O B:Nat->Prop} {w:World} {k:Nat} {x:List Int} {v:Value} (h:SumOld C hs O B w):SumOld (C.set k x) (hs.set k v) (fun i=>O i\/i=k) B w:=fun i z hi hz=>by
 have e:¬ k=i:=fun e=>hi (.inr e.symm)
 rw [List.getElem?_set_ne e] at hz
 obtain⟨u,h1,h2⟩:=h i z (fun h=>hi (.inl h)) hz
 exact⟨u,by rw [List.getElem?_set_ne e];exact h1,h2⟩
theorem SumOwn.add {C:Mx} {hs:List Value} {O F:Nat->Prop} {w:World} {x:List Int} {v:Value} (h:SumOwn C hs O F w) (hl:C.length=hs.length) (hO:∀ i,O i->i<hs.length):SumOwn (C++[x]) (hs++[v]) O F w:=fun i z hi hz=>by
 have hlt:=hO i hi
 rw [zoj (by omega)] at hz
 obtain⟨u,h1,h2⟩:=h i z hi hz
 exact⟨u,by rw [zoj hlt];exact h1,h2⟩
theorem SumOld.add {C:Mx} {hs:List Value} {O B:Nat->Prop} {w:World} {x:List Int} {v:Value} (h:SumOld C hs O B w) (hl:C.length=hs.length) (hx:SlR 1 zB B w v x):SumOld (C++[x]) (hs++[v]) O B w:=fun i z hi hz=>by
 by_cases hlt:i<C.length
 ·
  rw [zoj hlt] at hz
  obtain⟨u,h1,h2⟩:=h i z hi hz
  exact⟨u,by rw [zoj (by omega)];exact h1,h2⟩
 ·
  have hil:=(zo7.1 hz).1
  rw [zo1,zoe] at hil
  obtain rfl:i=C.length:=by omega
  rw [zok (zoi _),Nat.sub_self] at hz
  obtain rfl:x=z:=by simpa using hz
  exact⟨v,by rw [hl,zok (zoi _),Nat.sub_self];rfl,hx⟩
def kTa:Tm:=.mk 24 0 []
def kTb:Tm:=.mk 24 1 []
def kTs:Tm:=.mk 8 0 [kTa,kTb]
def kT2:Tm:=.mk 0 2 []
def kTm:Tm:=.mk 12 0 [kTs,kT2]
def kSt:St:=.mk 1 0 0 0 kTm [] [] []
def kF38:Fl:=⟨[⟨⟨#[115]⟩,1,0,3,0⟩,⟨⟨#[114]⟩,3,0,1,0⟩],[],[kSt]⟩
theorem zhS:xA kF38 [] false=0:=by decide +kernel
theorem zjs:mxO kF38 [] false=[[1,1],[1,1],[1,1],[1,1]]:=by decide +kernel
theorem zjt:(ziS kF38 [] false).length=2:=by decide +kernel
theorem zgq {T out:Mx} (h1:out.Perm (xV (zG (yB T)))) (h2:out.Pairwise (fun a b=>xL b a<=0)):zeS T=out:=(zdz T).unique ⟨h1,h2⟩
theorem zju:zhB [[1,1],[1,1],[1,1],[1,1]]=[[1],[1],[1],[1]]:=by
 rw [kZ (by decide +kernel),zgq (out:=[[1,1,1,1]]) (by decide +kernel) (by decide +kernel)]
 decide +kernel
theorem zjv:zhB [[2,1,0],[0,0,3]]=[[1,0],[0,1]]:=by
 rw [kZ (by decide +kernel),zgq (out:=[[1,0],[0,1]]) (by decide +kernel) (by decide +kernel)]
 decide +kernel
theorem zjw:VMx [[0,2],[2,0],[0,2]]:=by decide +kernel
theorem zjx:zgy [[0,2],[2,0],[0,2]]:=by decide +kernel
theorem zjQ:yM (zc2 [[0,2],[2,0],[0,2]])=[0,1,0]:=by decide +kernel
theorem qW {D:Nat->Prop} {w:World} {b:Nat} {e:TypeId} {l:List Int} (h:Blk w b (l.map zd) e) (hD:D b) (hl:l.length<=9223372036854775807):SlR 1 zB D w (.slice (some ⟨b,0,none⟩) l.length l.length) l :=
 zlg zd (fun _ _=>rfl) h hD (by rw [List.take_of_length_le (by simp)]) rfl (zoi _) hl
theorem zgr {D:Nat->Prop} {w:World} {b:Nat} {e:TypeId} {rows:List (Value × List Int)} (h:Blk w b (rows.map (·.1)) e) (hD:D b) (hr:∀ r ∈ rows,SlR 1 zB D w r.1 r.2) (hl:rows.length<=9223372036854775807):SlR 1 (RSl 1 zB) D w (.slice (some ⟨b,0,none⟩) rows.length rows.length) (rows.map (·.2)) :=
 zlf h hD (by rw [zod]) (by rw [zod];exact zoi _) hl (fun i x hx=>by
  rw [zoa] at hx
  obtain⟨r,hr1,rfl⟩:=Option.map_eq_some_iff.1 hx
  refine⟨[r.1],rfl,fun j u hu=>?_,_,rfl,hr r (znU hr1)⟩
  cases j with
  | zero=>rw [Nat.mul_one,Nat.add_zero,zoa,hr1];exact hu
  | succ j=>simp at hu)
theorem kOne {D:Nat->Prop} {w:World} {s:St} {b:Nat} {cs:List Value} {t:TypeId} (hB:Blk w b cs t) (hD:D b) (hl:cs.length=10) (h:RSt D w s cs):SlR 10 RSt D w (.slice (some ⟨b,0,none⟩) 1 1) [s] :=
 zlf hB hD rfl (zoi _) (by decide) (fun i x hx=>by
  cases i with
  | zero=>simp at hx;subst hx;exact⟨cs,hl,fun j u hu=>by simpa using hu,h⟩
  | succ i=>simp at hx)
theorem zhT {D:Nat->Prop} {w:World} {b:Nat} {e:TypeId} {s t:Tm} {u v:Value} {o1 n1 o2 n2:Int} (h:Blk w b [.int .i64 o1,.int .i64 n1,u,.int .i64 o2,.int .i64 n2,v] e) (hD:D b) (hs:RTm D w s [.int .i64 o1,.int .i64 n1,u]) (ht:RTm D w t [.int .i64 o2,.int .i64 n2,v]):SlR 3 RTm D w (.slice (some ⟨b,0,none⟩) 2 2) [s,t] :=
 zlf h hD rfl (zoi _) (by decide) fun i x hx=>by
  match i,hx with
  | 0,hx=>cases hx;exact⟨[.int .i64 o1,.int .i64 n1,u],rfl,fun j u hu=>by
    match j,hu with
    | 0,hu=>exact hu
    | 1,hu=>exact hu
    | 2,hu=>exact hu
    | j+3,hu=>simp at hu,hs⟩
  | 1,hx=>cases hx;exact⟨[.int .i64 o2,.int .i64 n2,v],rfl,fun j u hu=>by
    match j,hu with
    | 0,hu=>exact hu
    | 1,hu=>exact hu
    | 2,hu=>exact hu
    | j+3,hu=>simp at hu,ht⟩
  | i+2,hx=>simp at hx
theorem zjy {D:Nat->Prop} {w:World} {b14 b18 b21 b24:Nat} {t14 t18 t21 t24:TypeId} (d14:D b14) (d18:D b18) (d21:D b21) (d24:D b24) (h14:Blk w b14 [.int .i64 24,.int .i64 0,.slice none 0 0,.int .i64 24,.int .i64 1,.slice none 0 0] t14) (h18:Blk w b18 [.string ⟨#[115]⟩,.int .i64 1,.int .i64 0,.int .i64 3,.int .i64 0,.string ⟨#[114]⟩,.int .i64 3,.int .i64 0,.int .i64 1,.int .i64 0] t18)
  (h21:Blk w b21 [.int .i64 8,.int .i64 0,.slice (some ⟨b14,0,none⟩) 2 2,.int .i64 0,.int .i64 2,.slice none 0 0] t21) (h24:Blk w b24 [.int .i64 1,.int .i64 0,.int .i64 0,.int .i64 0,.int .i64 12,.int .i64 0,.slice (some ⟨b21,0,none⟩) 2 2,.slice none 0 0,.slice none 0 0,.slice none 0 0] t24):RFl D w kF38 (.slice (some ⟨b18,0,none⟩) 2 2) (.slice none 0 0) (.slice (some ⟨b24,0,none⟩) 1 1):=by
 have k14:SlR 3 RTm D w (.slice (some ⟨b14,0,none⟩) 2 2) [kTa,kTb]:=zhT h14 d14 (RTm.put (t:=kTa) SlR.nil) (RTm.put (t:=kTb) SlR.nil)
 have k21:SlR 3 RTm D w (.slice (some ⟨b21,0,none⟩) 2 2) [kTs,kT2]:=zhT h21 d21 (RTm.put (t:=kTs) k14) (RTm.put (t:=kT2) SlR.nil)
 have k24:=kOne h24 d24 rfl (RSt.put (s:=kSt) (v1:=.slice (some ⟨b21,0,none⟩) 2 2) k21 SlR.nil SlR.nil SlR.nil)
 have k18:SlR 5 RVr D w (.slice (some ⟨b18,0,none⟩) 2 2) kF38.vars:=zlf h18 d18 rfl (zoi _) (by decide) (fun i x hx=>by
  match i,hx with
  | 0,hx=>cases hx;exact⟨[.string ⟨#[115]⟩,.int .i64 1,.int .i64 0,.int .i64 3,.int .i64 0],rfl,fun j u hu=>by
    match j,hu with
    | 0,hu=>exact hu
    | 1,hu=>exact hu
    | 2,hu=>exact hu
    | 3,hu=>exact hu
    | 4,hu=>exact hu
    | j+5,hu=>simp at hu,rfl⟩
  | 1,hx=>cases hx;exact⟨[.string ⟨#[114]⟩,.int .i64 3,.int .i64 0,.int .i64 1,.int .i64 0],rfl,fun j u hu=>by
    match j,hu with
    | 0,hu=>exact hu
    | 1,hu=>exact hu
    | 2,hu=>exact hu
    | 3,hu=>exact hu
    | 4,hu=>exact hu
    | j+5,hu=>simp at hu,rfl⟩
  | i+2,hx=>simp [kF38] at hx)
 exact⟨k18,SlR.nil,k24⟩
theorem zgs (n:Int) (W:World):Calls Tryz.prog 50 #[.int .i64 n] W (Ret fun r w'=>r=.agg #[.int .i64 24,.int .i64 n,.slice none 0 0]/\Ext W w'):=by
 refine zma Tryz.func50 O Tryz.ntmps50 O (zmm ?_)
 refine Vs 2 O ?_
 refine V.alloc 2 tz86 O O (fun b2=>?_)
 refine Vs 5 O ?_
 refine zmR [Value.int IntKind.i64 0,Value.int IntKind.i64 0,Value.slice none 0 0] [(0,1),(1,1),(2,1)] [(0,_),(1,_)] O O (fun _=>by kernel_rfl) ?_
 refine Vs 4 O ?_
 refine zkz Tryz.results50 tg86 ts86 O O O (fun w hI=>⟨_,rfl,rfl,hI.k0⟩)
theorem zeQ (W:World) (ht:Tab W):Calls Tryz.prog 12 #[] W (Ret fun r w'=>r=.bool true/\Ext W w'):=by
 refine G.in0 Tryz.func12 O Tryz.ntmps12 (zmm ?_)
 refine Vs 13 O ?_
 refine zmY Tryz.call50 O (fun w hI=>zgs 0 w) ?_
 refine Vs 1 O ?_
 refine zmY Tryz.call50 O (fun w hI=>zgs 1 w) ?_
 refine zmO 14 [(0,_),(1,_)] tR84 ts86 tz86 (by decide) O O (by kernel_rfl) (fun b14=>?_)
 refine zmR [Value.int IntKind.i64 0,Value.int IntKind.i64 0,Value.slice none 0 0] [(0,1),(1,1),(2,1)] [(0,_),(2,_)] O O (fun _=>by kernel_rfl) ?_
 refine V.alloc 2 tz86 O O (fun b2=>?_)
 refine Vs 5 O ?_
 refine zmR [Value.string { data:=#[] },Value.int IntKind.i64 0,Value.int IntKind.i64 0,Value.int IntKind.i64 0,Value.int IntKind.i64 0] [(0,1),(1,1),(2,1),(3,1),(4,1)] [(0,_),(1,_),(3,_)] O O (fun _=>by kernel_rfl) ?_
 refine zmR [Value.string { data:=#[] },Value.int IntKind.i64 0,Value.int IntKind.i64 0,Value.int IntKind.i64 0,Value.int IntKind.i64 0] [(0,1),(1,1),(2,1),(3,1),(4,1)] [(0,_),(1,_),(3,_)] O O (fun _=>by kernel_rfl) ?_
 refine zmO 18 [(0,_),(1,_)] tR22 ts89 tz89 (by decide) O O (by kernel_rfl) (fun b18=>?_)
 refine Vs 1 O ?_
 refine zmR [Value.int IntKind.i64 0,Value.int IntKind.i64 0,Value.slice none 0 0] [(0,1),(1,1),(2,1)] [(1,_)] O O (fun _=>by kernel_rfl) ?_
 refine zmO 21 [(0,_),(1,_)] tR84 ts86 tz86 (by decide) O O (by kernel_rfl) (fun b21=>?_)
 refine zmR [Value.int IntKind.i64 0,Value.int IntKind.i64 0,Value.slice none 0 0] [(0,1),(1,1),(2,1)] [(0,_),(2,_)] O O (fun _=>by kernel_rfl) ?_
 refine zmR [Value.int IntKind.i64 0,Value.int IntKind.i64 0,Value.int IntKind.i64 0,Value.int IntKind.i64 0,Value.int IntKind.i64 0,Value.int IntKind.i64 0,Value.slice none 0 0,Value.slice none 0 0,Value.slice none 0 0,Value.slice none 0 0] [(0,1),(1,1),(2,1),(3,1),(4,3),(7,1),(8,1),(9,1)] [(0,_),(4,_)] O O (fun _=>by kernel_rfl) ?_
 refine zmO 24 [(0,_)] tR24 ts92 tz92 (by decide) O O (by kernel_rfl) (fun b24=>?_)
 refine zmR [Value.slice none 0 0,Value.slice none 0 0,Value.slice none 0 0] [(0,1),(1,1),(2,1)] [(0,_),(2,_)] O O (fun _=>by kernel_rfl) ?_
 refine V.alloc 3 Tryz.zeroValue26 O O (fun b3=>?_)
 refine Vs 6 O ?_
 refine zmR [Value.slice none 0 0,Value.bool false] [(0,1),(1,1)] [] O O (fun _=>by kernel_rfl) ?_
 refine zmD Tryz.call15 O (fun w hI=>ziM kF38 (by decide +kernel) (by decide +kernel) [] false _ _ _ _ (fun _=>True) (fun _=>True) w (zjy trivial trivial trivial trivial (hI.at 14 O) (hI.at 18 O) (hI.at 21 O) (hI.at 24 O)) SlR.nil (Tr1 hI.k0 ht)) ?_
 rintro r1 w1 w2 hI1 hk12 ⟨u,lu,rfl,hu0,hu1⟩ hlow
 obtain⟨hm,ho⟩:=hu1 zhS
 rw [zjs] at hm
 obtain⟨au,cu,rfl⟩:=hm.form
 obtain⟨al,cl,hlu⟩:=ho.form
 rw [zjt] at hlu
 subst hlu
 refine Vs 4 O ?_
 refine V.alloc 4 tz36 O O (fun b4=>?_)
 refine Vs 7 O ?_
 refine zmO 33 [(0,_),(1,_),(2,_)] tR27 ts3 tz3 (by decide) O O (by kernel_rfl) (fun b33=>?_)
 refine zmO 34 [(0,_),(1,_),(2,_)] tR27 ts3 tz3 (by decide) O O (by kernel_rfl) (fun b34=>?_)
 refine zmO 35 [(0,_),(1,_)] tR34 ts27 tz27 (by decide) O O (by kernel_rfl) (fun b35=>?_)
 refine zmR [Value.slice none 0 0] [(0,1)] [(0,_)] O O (fun _=>by kernel_rfl) ?_
 refine zmD Tryz.call17 O (fun w hI=>zei [[2,1,0],[0,0,3]] _ (fun _=>True) w (zgr (rows:=[(.slice (some ⟨b33,0,none⟩) 3 3,[2,1,0]),(.slice (some ⟨b34,0,none⟩) 3 3,[0,0,3])]) (hI.at 35 O) trivial (fun r hr=>by simp only [zo9,List.not_mem_nil,or_false] at hr;rcases hr with rfl | rfl;(· exact qW (l:=[2,1,0]) (hI.at 33 O) trivial (by decide));(· exact qW (l:=[0,0,3]) (hI.at 34 O) trivial (by decide))) (by simp)) (Tr1 hI.k1 ht)) ?_
 rintro r2 w3 w4 hI3 hk34 ⟨u2,rfl,h2⟩ hlow2
 rw [zjv] at h2
 obtain⟨a2,c2,rfl⟩:=h2.form
 refine V.alloc 7 tz36 O O (fun b7=>?_)
 refine Vs 5 O ?_
 refine zmO 39 [(0,_),(1,_)] tR27 ts3 tz3 (by decide) O O (by kernel_rfl) (fun b39=>?_)
 refine zmO 40 [(0,_),(1,_)] tR27 ts3 tz3 (by decide) O O (by kernel_rfl) (fun b40=>?_)
 refine zmO 41 [(0,_),(1,_)] tR27 ts3 tz3 (by decide) O O (by kernel_rfl) (fun b41=>?_)
 refine zmO 42 [(0,_),(1,_),(2,_)] tR34 ts27 tz27 (by decide) O O (by kernel_rfl) (fun b42=>?_)
 refine zmR [Value.slice none 0 0] [(0,1)] [(0,_)] O O (fun _=>by kernel_rfl) ?_
 refine zmD Tryz.call29 O (fun w hI=>zgk [[0,2],[2,0],[0,2]] _ (fun _=>True) w (zgr (rows:=[(.slice (some ⟨b39,0,none⟩) 2 2,[0,2]),(.slice (some ⟨b40,0,none⟩) 2 2,[2,0]),(.slice (some ⟨b41,0,none⟩) 2 2,[0,2])]) (hI.at 42 O) trivial (fun r hr=>by simp only [zo9,List.not_mem_nil,or_false] at hr;rcases hr with rfl | rfl | rfl;(· exact qW (l:=[0,2]) (hI.at 39 O) trivial (by decide));(· exact qW (l:=[2,0]) (hI.at 40 O) trivial (by decide));(· exact qW (l:=[0,2]) (hI.at 41 O) trivial (by decide))) (by simp))) ?_
 rintro r3 w5 w6 hI5 hk56 ⟨u3,rfl,h3,_⟩ hlow3
 have h3:=h3 ⟨zjw,zjx⟩
 rw [zjQ] at h3
 obtain⟨a3,c3,rfl⟩:=h3.form
 rw [zo3 (zog zjw),zo3 (zog zjx)]
 refine Vs 12 O ?_
 refine V.sp 49 O (fun k0=>?_) (fun k0=>?_)
 ·
  refine Vs 5 O ?_
  refine V.sp 54 O (fun k1=>?_) (fun k1=>?_)
  ·
   refine Vs 1 O ?_
   refine zmO 56 [(0,_),(1,_)] tR27 ts3 tz3 (by decide) O O (by kernel_rfl) (fun b56=>?_)
   refine zmO 57 [(0,_),(1,_)] tR27 ts3 tz3 (by decide) O O (by kernel_rfl) (fun b57=>?_)
   refine zmO 58 [(0,_),(1,_)] tR27 ts3 tz3 (by decide) O O (by kernel_rfl) (fun b58=>?_)
   refine zmO 59 [(0,_),(1,_)] tR27 ts3 tz3 (by decide) O O (by kernel_rfl) (fun b59=>?_)
   refine zmO 60 [(0,_),(1,_),(2,_),(3,_)] tR34 ts27 tz27 (by decide) O O (by kernel_rfl) (fun b60=>?_)
   refine zmR [Value.slice none 0 0] [(0,1)] [(0,_)] O O (fun _=>by kernel_rfl) ?_
   refine zmB Tryz.call18 O (fun w hI=>kr [[1,1],[1,1],[1,1],[1,1]] [[1,1],[1,1],[1,1],[1,1]] _ _ _ (fun _=>True) w (hm.keep (yV zc) hI.k2 (fun b hb _ hs=>by have:=hlow b hs;omega)) (zgr (rows:=[(.slice (some ⟨b56,0,none⟩) 2 2,[1,1]),(.slice (some ⟨b57,0,none⟩) 2 2,[1,1]),(.slice (some ⟨b58,0,none⟩) 2 2,[1,1]),(.slice (some ⟨b59,0,none⟩) 2 2,[1,1])]) (hI.at 60 O) trivial (fun r hr=>by simp only [zo9,List.not_mem_nil,or_false] at hr;rcases hr with rfl | rfl | rfl | rfl;(· exact qW (l:=[1,1]) (hI.at 56 O) trivial (by decide));(· exact qW (l:=[1,1]) (hI.at 57 O) trivial (by decide));(· exact qW (l:=[1,1]) (hI.at 58 O) trivial (by decide));(· exact qW (l:=[1,1]) (hI.at 59 O) trivial (by decide))) (by simp))) ?_
   refine Vs 2 O ?_
   refine V.sp 64 O (fun k2=>?_) (fun k2=>?_)
   ·
    refine Vs 1 O ?_
    refine zmD Tryz.call17 O (fun w hI=>zei [[1,1],[1,1],[1,1],[1,1]] _ _ w (hm.keep (yV zc) hI.k2 (fun b hb _ hs=>by have:=hlow b hs;omega)) (Tr1 hI.k3 ht)) ?_
    rintro r4 w7 w8 hI7 hk78 ⟨u4,rfl,h4⟩ hlow4
    rw [zju] at h4
    obtain⟨a4,c4,rfl⟩:=h4.form
    refine zmO 67 [(0,_)] tR27 ts3 tz3 (by decide) O O (by kernel_rfl) (fun b67=>?_)
    refine zmO 68 [(0,_)] tR27 ts3 tz3 (by decide) O O (by kernel_rfl) (fun b68=>?_)
    refine zmO 69 [(0,_)] tR27 ts3 tz3 (by decide) O O (by kernel_rfl) (fun b69=>?_)
    refine zmO 70 [(0,_)] tR27 ts3 tz3 (by decide) O O (by kernel_rfl) (fun b70=>?_)
    refine zmO 71 [(0,_),(1,_),(2,_),(3,_)] tR34 ts27 tz27 (by decide) O O (by kernel_rfl) (fun b71=>?_)
    refine zmR [Value.slice none 0 0] [(0,1)] [(0,_)] O O (fun _=>by kernel_rfl) ?_
    refine zmB Tryz.call18 O (fun w hI=>kr [[1],[1],[1],[1]] [[1],[1],[1],[1]] _ _ _ (fun _=>True) w (h4.keep (yV zc) hI.k0 (fun b hb _ hs=>by have:=hlow4 b hs;omega)) (zgr (rows:=[(.slice (some ⟨b67,0,none⟩) 1 1,[1]),(.slice (some ⟨b68,0,none⟩) 1 1,[1]),(.slice (some ⟨b69,0,none⟩) 1 1,[1]),(.slice (some ⟨b70,0,none⟩) 1 1,[1])]) (hI.at 71 O) trivial (fun r hr=>by simp only [zo9,List.not_mem_nil,or_false] at hr;rcases hr with rfl | rfl | rfl | rfl;(· exact qW (l:=[1]) (hI.at 67 O) trivial (by decide));(· exact qW (l:=[1]) (hI.at 68 O) trivial (by decide));(· exact qW (l:=[1]) (hI.at 69 O) trivial (by decide));(· exact qW (l:=[1]) (hI.at 70 O) trivial (by decide))) (by simp))) ?_
    refine Vs 2 O ?_
    refine V.sp 75 O (fun k3=>?_) (fun k3=>?_)
    ·
     refine Vs 1 O ?_
     refine zmO 77 [(0,_),(1,_)] tR27 ts3 tz3 (by decide) O O (by kernel_rfl) (fun b77=>?_)
     refine zmO 78 [(0,_),(1,_)] tR27 ts3 tz3 (by decide) O O (by kernel_rfl) (fun b78=>?_)
     refine zmO 79 [(0,_),(1,_)] tR34 ts27 tz27 (by decide) O O (by kernel_rfl) (fun b79=>?_)
     refine zmR [Value.slice none 0 0] [(0,1)] [(0,_)] O O (fun _=>by kernel_rfl) ?_
     refine zmB Tryz.call18 O (fun w hI=>kr [[1,0],[0,1]] [[1,0],[0,1]] _ _ _ (fun _=>True) w (h2.keep (yV zc) hI.k2 (fun b hb _ hs=>by have:=hlow2 b hs;omega)) (zgr (rows:=[(.slice (some ⟨b77,0,none⟩) 2 2,[1,0]),(.slice (some ⟨b78,0,none⟩) 2 2,[0,1])]) (hI.at 79 O) trivial (fun r hr=>by simp only [zo9,List.not_mem_nil,or_false] at hr;rcases hr with rfl | rfl;(· exact qW (l:=[1,0]) (hI.at 77 O) trivial (by decide));(· exact qW (l:=[0,1]) (hI.at 78 O) trivial (by decide))) (by simp))) ?_
     refine Vs 2 O ?_
     refine V.sp 83 O (fun k4=>?_) (fun k4=>?_)
     ·
      refine Vs 4 O ?_
      refine V.sp 87 O (fun k5=>?_) (fun k5=>?_)
      ·
       refine Vs 1 O ?_
       refine zmO 89 [(0,_),(1,_),(2,_)] tR27 ts3 tz3 (by decide) O O (by kernel_rfl) (fun b89=>?_)
       refine zmB Tryz.call27 O (fun w hI=>zek [0,1,0] [0,1,0] _ _ _ (fun _=>True) w (h3.keep zc hI.k1 (fun b hb _ hs=>by have:=hlow3 b hs;omega)) (qW (l:=[0,1,0]) (hI.at 89 O) trivial (by decide))) ?_
       refine Vs 5 O ?_
       refine zkr Tryz.results12 O (fun w hI=>⟨_,rfl,rfl,hI.k4⟩)
      . exact absurd O k5
     . exact absurd O k4
    . exact absurd O k3
   . exact absurd O k2
  . exact absurd O k1
 . exact absurd zhS k0
structure FitC (f:Fl) (a b c:Int):Prop where
 vd:Valid f
 vars:f.vars.length<=10
 hatches:f.hatches.length<=10
 small:zt f.body+zC f.hatches<=80
 sp:(spN f:Int)<=a
 pb:(zk 2 f.vars).getD 0<=b
 rn:(rnN f:Int)<=c
theorem ziO (f:Fl) (a b c:Int) (v1 v2 v3:Value) (D:Nat->Prop) (W:World) (hf:RFl D W f v1 v2 v3) :
  Calls Tryz.prog 25 #[.agg #[v1,v2,v3],.int .i64 a,.int .i64 b,.int .i64 c] W (Ret fun r w'=>(∃ q:Bool,r=.bool q/\(q=true->FitC f a b c))/\Ext W w'):=by
 obtain⟨a1,n1,rfl⟩:=hf.vars.form
 obtain⟨a2,n2,rfl⟩:=hf.hatches.form
 obtain⟨a3,n3,rfl⟩:=hf.body.form
 refine zmd Tryz.func25 O Tryz.ntmps25 O (zmm ?_)
 refine Vs 2 O ?_
 refine V.box 4 O O (fun b4=>?_)
 refine Vs 7 O ?_
 refine zmB Tryz.call13 O (fun w hI=>zdM f 10 80 _ _ _ D w (Tr1 hI.k0 hf) (by decide) (by decide)) ?_
 refine zko (p:=(f.vars.length:Int)<=10/\(f.hatches.length:Int)<=10/\((zt f.body+zC f.hatches:Nat):Int)<=80) (fun hfew=>?_) (fun hfew=>?_)
 ·
  have h1:=zco f.body
  have hsz:zm f.body+zC f.hatches<=1024:=by omega
  have hbk:zt f.body<=1000000:=by omega
  refine zm2 O (fun w hI=>zly O (by first | exact za | rfl)) ?_
  refine Vs 1 O ?_
  refine V.sp 21 O (fun q1=>?_) (fun q1=>?_)
  . exact absurd hfew q1
  ·
   refine Vs 1 O ?_
   refine zmB Tryz.call14 O (fun w hI=>zaD f _ _ _ D w (Tr1 hI.k0 hf) hsz hbk) ?_
   refine Vs 4 O ?_
   refine zk7 O (fun c0=>?_) (fun c0=>?_)
   ·
    refine Vs 7 O ?_
    refine zkr tr25 O (fun w hI=>⟨_,rfl,⟨_,rfl,fun h=>by cases h⟩,hI.k0⟩)
   ·
    have c0':ym f=0:=by omega
    have vd:Valid f:=⟨c0',hsz,hbk⟩
    have hst:=(ye c0').2.2.2.1
    obtain⟨s1,s2,s3⟩:=qj vd
    refine Vs 6 O ?_
    refine zmB Tryz.call36 O (fun w hI=>jp f.vars 1 _ D w (by decide) vd.good (by omega) (Tr1 hI.k0 hf.vars)) ?_
    refine Vs 11 O ?_
    refine zmB Tryz.call36 O (fun w hI=>jp f.vars 2 _ D w (by decide) vd.good (by omega) (Tr1 hI.k0 hf.vars)) ?_
    refine Vs 11 O ?_
    refine zmB Tryz.call36 O (fun w hI=>jp f.vars 3 _ D w (by decide) vd.good (by omega) (Tr1 hI.k0 hf.vars)) ?_
    refine Vs 11 O ?_
    refine zmB Tryz.call59 O (fun w hI=>kF f.vars f.hatches.length f.body _ D w true hst (Tr1 hI.k0 hf.body) hbk) ?_
    have e1:=(zg2 vd).1
    have e3:=(zg3 vd).1
    refine Vs 15 O ?_
    refine V.sp 54 O (fun g1=>?_) (fun g1=>?_)
    ·
     refine Vs 5 O ?_
     refine V.sp 59 O (fun g2=>?_) (fun g2=>?_)
     ·
      refine Vs 5 O ?_
      refine V.sp 64 O (fun g3=>?_) (fun g3=>?_)
      ·
       refine Vs 7 O ?_
       refine zkr tr25 O (fun w hI=>⟨_,rfl,⟨_,rfl,fun _=>⟨vd,by omega,by omega,by omega,by omega,by omega,by omega⟩⟩,hI.k0⟩)
      ·
       refine Vs 7 O ?_
       refine zkr tr25 O (fun w hI=>⟨_,rfl,⟨_,rfl,fun h=>by cases h⟩,hI.k0⟩)
     ·
      refine Vs 12 O ?_
      refine zkr tr25 O (fun w hI=>⟨_,rfl,⟨_,rfl,fun h=>by cases h⟩,hI.k0⟩)
    ·
     refine Vs 17 O ?_
     refine zkr tr25 O (fun w hI=>⟨_,rfl,⟨_,rfl,fun h=>by cases h⟩,hI.k0⟩)
 ·
  refine zm2 O (fun w hI=>zly O (by first | exact za | rfl)) ?_
  refine Vs 1 O ?_
  refine V.sp 21 O (fun q1=>?_) (fun q1=>?_)
  ·
   refine Vs 14 O ?_
   refine zkr tr25 O (fun w hI=>⟨_,rfl,⟨_,rfl,fun h=>by cases h⟩,hI.k0⟩)
  . exact absurd (zo2.1 q1) hfew
end Go.Proofs.YtaenledoagbddaaGreatDoor
