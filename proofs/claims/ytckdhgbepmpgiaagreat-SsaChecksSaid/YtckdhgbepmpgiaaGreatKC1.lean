/-
  Contracts and the mathematics that the proof needs. Nothing here is a claim.
-/
import Derived.Test.YtckdhgbepmpgiaaGreatKV6
import Derived.WalkKit
import Derived.Deep.Quiet
import Derived.Deep.LoopGhost
import Derived.Below
import Derived.OrdersHeld
import Derived.KernelRfl
import Derived.WalkSpells
import Derived.ChangeKeysEq
import Derived.Lib.SliceRun
import Derived.Test.YtckdhgbepmpgiaaGreatRows
import Derived.ProofKit
import Derived.OpenShut
import Derived.ReadAgain
import Derived.ChangeBears
import Derived.Laws.Strings
import Derived.Test.YtckdhgbepmpgiaaGreatProg
import Derived.Maps.RangeRun
import Derived.MapKept
import Derived.Shelf.Sort.Plain
import Derived.Ground.Names2Prog
import Derived.Shelf.Slices.In.SortNone
import Derived.Lib.AppendStr
import Derived.Lib.SmallJoins
import Derived.SizedLaws
import Derived.WideKeyMaps
import Derived.Laws.CopyRow
import Derived.Laws.IdiomCopy
import Derived.Lib.ItoaNum
import Derived.Lib.ItoaMem
namespace Go.GL
abbrev G.sb:=@zmi
end Go.GL
namespace Go.Proofs.YtckdhgbepmpgiaaGreat
abbrev RunV.start:=@znx
abbrev InvV.start:=@zny
abbrev PhTo.start:=@znz
abbrev PassV.start:=@znA
abbrev TlOk.start:=@znB
abbrev WkN.start:=@znC
abbrev FdOk.start:=@znD
end Go.Proofs.YtckdhgbepmpgiaaGreat
namespace Go.GL
section
variable {P:Program} {f:FuncId} {fn:Func} {c:Code} {w:World} {R:Ending->World->Prop} {n:Nat} {env:Env}
theorem G.in5 {a1 a2 a3 a4 a5:Value} (hf:P.funcs[f]?=some fn) (hb:fn.body=some c) (hn:fn.ntmps=n) (hl:Nat.ble 5 n=true) (h:G P n (bodyPost P fn R) [] (.c c) [(0,a1),(1,a2),(2,a3),(3,a4),(4,a5)] w):Calls P f #[a1,a2,a3,a4,a5] w R:=zms (vs:=[a1,a2,a3,a4,a5]) hf hb hn hl h
end
end Go.GL
namespace Go.Proofs.YtckdhgbepmpgiaaGreat
open Go.GL
section
variable {f:Fl} {g:List Nd} {s:Sf} {rd:Nat->List Int}
theorem zp4 {l:List Phn} (h:l.Pairwise fun p q=>p.var<q.var) {p:Phn} (hp:p ∈ l):zh1 l p.var=some p.ver:=by
 unfold zh1
 induction l with
 | nil=>cases hp
 | cons q l ih =>
  rw [List.pairwise_cons] at h
  rcases zoz.1 hp with rfl | hp
  . rw [List.find?_cons_of_pos (by simp)];rfl
  ·
   have:=h.1 p hp
   rw [List.find?_cons_of_neg (by simp;omega)]
   exact ih h.2 hp
end
end Go.Proofs.YtckdhgbepmpgiaaGreat
namespace Go.GL
theorem VI.k4 {Bs:zG} {H:Hp} {w:World} {p0 p1 p2 p3 p4:World × (Nat->Prop)} (h:VI (p0::p1::p2::p3::p4::Bs) H w):Keep p4.2 p4.1 w:=(h.base p4 (by simp)).1
end Go.GL
namespace Go.Proofs.YtckdhgbepmpgiaaGreat
open Go.GL
theorem zp5 (t:Tm):∀ (kv uo:Value) (acc:List Int) (D:Nat->Prop) (W:World),SlR 3 RTm D W kv t.kids->(qq uo acc).holds W->(∀ q,D q->q<W.heap.size/\uo.ownBlock ≠ some q)->acc.length+(xm t).length<=1000000 ->
  Calls Tryz.prog 115 #[.agg #[.int .i64 t.op,.int .i64 t.n,kv],uo] W (Ret fun r w'=>∃ x:Value,r=x/\(qq x (acc++xm t)).holds w'/\Keep (qq uo acc).S W w'/\∀ q,(qq x (acc++xm t)).S q->((qq uo acc).S q\/W.heap.size<=q)/\q<w'.heap.size):=by
 induction t using zm2 with
 | h t ih =>
 intro kv uo acc D W hk hown hap hlen
 obtain⟨ak,ck,rfl⟩:=hk.form
 have hmx:=hk.max
 have haS:∀ q,(qq uo acc).S q->¬ D q:=fun q h hd=>(hap q hd).2 h
 rw [zgc,zor] at hlen
 refine zmv Tryz.func115 O Tryz.ntmps115 O (znG 900 (.row 3 1 uo acc.length (acc.map zc)) (hown) trivial (fun _ h=>h) (fun q hq=>qt hown hq) ?_)
 refine Vs 2 O ?_
 refine V.box 2 O O (fun b2=>?_)
 refine Vs 4 O ?_
 refine zne (σ:=Value) [2] [2] [2] O (fun e u=>(1,u)::e) (fun e u=>(900,.row 3 1 u (acc++xH t).length ((acc++xH t).map zc))::e) (fun u=>True) (fun _=>rfl) (fun _=>rfl) ?_ ?_
 ·
  refine Vs 7 O ?_
  refine zkG O (fun e=>?_) (fun e=>?_)
  ·
   refine Vs 4 O ?_
   refine V.bs 13 [(0,_)] tR27 ts3 tz3 (by decide) O O (by kernel_rfl) (fun b13=>?_)
   refine zmS 900 13 tu27 Tryz.el3 O (by decide) O O (by omega) (by omega) (fun u900=>?_)
   refine Vs 2 O ?_
   refine znc 900 O (e':=.row 3 1 u900 (acc++xH t).length ((acc++xH t).map zc)) (by unfold xH;rw [zou e,zor,List.map_append];rfl) ?_
   refine zkT (u900) (Sub.of O) (Has.of O) (True.intro) 0 O O
  ·
   refine znc 900 O (e':=.row 3 1 uo (acc++xH t).length ((acc++xH t).map zc)) (by unfold xH;rw [zot e,List.append_nil]) ?_
   refine Vs 1 O ?_
   refine zkT (uo) (Sub.of O) (Has.of O) (True.intro) 0 O O
 rintro u -
 refine Vs 10 O ?_
 refine znc 900 O (e':=.row 3 1 u (acc++xH t++mentL (t.kids.take 0)).length ((acc++xH t++mentL (t.kids.take 0)).map zc)) (by rw [show acc++xH t++mentL (t.kids.take 0)=acc++xH t from List.append_nil _]) ?_
 refine Vs 1 O ?_
 refine znd (σ:=Nat × Value) [16,17] [] [] O (fun e ⟨i,u⟩=>(18,.int .i64 i)::(1,u)::e) (fun e ⟨i,u⟩=>(900,.row 3 1 u (acc++xH t++mentL (t.kids.take i)).length ((acc++xH t++mentL (t.kids.take i)).map zc))::e) (fun⟨i,u⟩=>i<=t.kids.length) (fun⟨i,u⟩=>t.kids.length - i) ((0,u)) (Sub.of O) (Has.of O) (fun _=>rfl) (fun _=>rfl) (fun _=>rfl) (zoy _) ?_
 rintro⟨i,u⟩ hi
 show V _ _ _ _ _ ((18,.int .i64 i)::(1,u)::_) _ ((900,.row 3 1 u (acc++xH t++mentL (t.kids.take i)).length ((acc++xH t++mentL (t.kids.take i)).map zc))::_) _
 refine Vs 6 O ?_
 refine zkG O (fun lt=>?_) (fun lt=>?_)
 ·
  refine Vs 6 O ?_
  obtain⟨k,he_k,hm_k⟩:=gE_ t.kids (i) (by omega)
  obtain⟨b_k,o_k,c_k,ha_k,hd_k,hc_k,hR_k⟩:=hk.atD he_k
  obtain⟨v1_k,rfl,hk_k⟩:=hR_k.get
  obtain⟨a1_k,n1_k,rfl⟩:=hk_k.form
  refine znb 1000 0 O O (fun h_=>by have h1_:=haS _ h_;have h2_:=hd_k;first | omega | exact h1_ h2_) hc_k ?_
  refine zmN 1000 tR68 ts70 O ha_k (by omega) (_) (rfl) O ?_
  have htk:=zeS he_k
  have hle:=zhJ t.kids (i+1)
  rw [htk,zor] at hle
  refine Vs 1 O ?_
  refine V.alloc 6 tz70 O O (fun b6=>?_)
  refine Vs 6 O ?_
  refine zn4 900 (E:=fun x=>.row 3 1 x (acc++xH t++mentL (t.kids.take i)++xm k).length ((acc++xH t++mentL (t.kids.take i)++xm k).map zc)) Tryz.call115 O (fun _=>⟨trivial,fun _ h=>h⟩) (fun w hI=>ih k hm_k _ _ (acc++xH t++mentL (t.kids.take i)) D w (hk_k.keep zo hI.k0 (fun q hq _ hs=>haS q hs hq)) (hI.at 900 O) (fun q hq=>⟨Nat.lt_of_lt_of_le (hap q hq).1 hI.k0.size,show ¬ (qq u (acc++xH t++mentL (t.kids.take i))).S q from hI.offD 0 900 O O (hap q hq).1 (fun h=>haS q h hq)⟩) (by simp only [zor] at *;omega)) ?_
  rintro u2 _ rfl
  refine Va 8 O (by omega) ?_
  refine znc 900 O (e':=.row 3 1 u2 (acc++xH t++mentL (t.kids.take (i+1))).length ((acc++xH t++mentL (t.kids.take (i+1))).map zc)) (by rw [htk,<- List.append_assoc]) ?_
  refine V.back (⟨i+1,u2⟩) (Sub.of O) (Has.of O) (by omega) (by first | omega | (dsimp only;omega)) 0 O O
 ·
  obtain rfl:i=t.kids.length:=by omega
  refine znc 900 O (e':=qq u (acc++xm t)) (by rw [zoo,zgc,<- List.append_assoc]) ?_
  refine Vs 12 O ?_
  refine zkW Tryz.results115 O (fun w hI=>⟨_,rfl,⟨u,rfl,hI.at 900 rfl,hI.k0,fun q hq=>hI.inS 0 900 O O hq⟩⟩)
theorem zoU (l:List St) (v:Value) (D:Nat->Prop) (W:World) (k:Int) (_:SlR 10 RSt D W v l) (hk:k<0) :
  Calls Tryz.prog 25 #[v,.int .i64 k] W (Ret fun r w'=>r=.tuple #[.agg #[.int .i64 0,.int .i64 0,.int .i64 0,.int .i64 0,.int .i64 0,.int .i64 0,.slice none 0 0,.slice none 0 0,.slice none 0 0,.slice none 0 0],.bool false]/\Ext W w'):=by
 refine zmv Tryz.func25 O Tryz.ntmps25 O (zmE ?_)
 refine Vs 2 O ?_
 refine V.alloc 4 tz72 O O (fun b4=>?_)
 refine Vs 10 O ?_
 refine zkG O (fun h=>?_) (fun h=>?_)
 ·
  refine Vs 2 O ?_
  refine znh [Value.int IntKind.i64 0,Value.int IntKind.i64 0,Value.int IntKind.i64 0,Value.int IntKind.i64 0,Value.int IntKind.i64 0,Value.int IntKind.i64 0,Value.slice none 0 0,Value.slice none 0 0,Value.slice none 0 0,Value.slice none 0 0] [(0,1),(1,1),(2,1),(3,1),(4,3),(7,1),(8,1),(9,1)] [] O O (fun _=>by kernel_rfl) ?_
  refine Vs 6 O ?_
  refine zl7 Tryz.results25 tg72 ts72 O O O O (fun w hI=>⟨_,rfl,rfl,hI.k0⟩)
 . omega
theorem zp1 (f:Fl) (g:List Nd) (hk:GOk f g) (hz:ssize f.body<=10000) (i:Nat) (hi:i<g.length) (v1 v2 v3 gv:Value) (D D':Nat->Prop) (W:World) (hf:RFl D W f v1 v2 v3) (hg:SlR 4 RNd D' W gv g) :
  Calls Tryz.prog 71 #[.agg #[v1,v2,v3],.agg #[gv],.int .i64 i] W (Ret fun r w'=>SlR 1 yj (fun q=>W.heap.size<=q) w' r (rdV f g i)/\Ext W w'):=by
 obtain⟨ag,cg,rfl⟩:=hg.form
 have hgm:=hg.max
 refine zmw Tryz.func71 O Tryz.ntmps71 O (zmE ?_)
 refine Vs 2 O ?_
 refine V.box 3 O O (fun b3=>?_)
 refine V.box 4 O O (fun b4=>?_)
 refine Vs 8 O ?_
 obtain⟨x,he_x,hm_x⟩:=gE_ g (i) (by omega)
 obtain⟨b_x,o_x,c_x,ha_x,_,hc_x,hR_x⟩:=hg.at he_x
 obtain rfl:=hR_x
 refine zna 1000 0 O O hc_x ?_
 refine zmN 1000 tR34 ts65 O ha_x (by omega) (_) (rfl) O ?_
 have hx:=xd he_x
 obtain⟨hk1,hk2⟩:=hk i x he_x
 have hrd:rdV f g i=rdN f x:=by unfold rdV;rw [hx]
 have hno:rdB f x=false->SlR 1 yj (fun q=>W.heap.size<=q) W (.slice none 0 0) (rdV f g i):=fun h=>by rw [hrd];unfold rdN;rw [h];exact SlR.nil
 refine Vs 1 O ?_
 refine V.alloc 7 tz65 O O (fun b7=>?_)
 refine Vs 4 O ?_
 refine zmF (p:=x.at_<0) (fun hat=>?_) (fun hat=>?_)
 ·
  have hkd:=hk1 hat
  refine Vs 5 O ?_
  refine zmZ Tryz.call25 O (fun w hI=>zoU f.body v3 D w x.at_ (Tr1 hI.k0 hf.body) hat) ?_
  have hrb:rdB f x=false:=zow (by omega)
  refine Vs 3 O ?_
  refine V.alloc 8 tz72 O O (fun b8=>?_)
  refine Vs 11 O ?_
  refine V.sp 27 O (fun p1=>?_) (fun p1=>?_)
  ·
   refine Vs 5 O ?_
   refine V.sp 32 O (fun p2=>?_) (fun p2=>?_)
   ·
    refine Vs 4 O ?_
    refine V.sp 36 O (fun p3=>?_) (fun p3=>?_)
    ·
     refine Vs 20 O ?_
     refine zkW Tryz.results71 O (fun w hI=>⟨_,rfl,Tr1 hI.k0 (hno hrb),hI.k0⟩)
    . omega
   . omega
  . omega
 ·
  obtain⟨h1,h2⟩:=hk2 (by omega)
  have hst:=jW (show 0<=x.at_ by omega) h1
  generalize hse:zU f x.at_=s at *
  refine Vs 5 O ?_
  refine zn1 Tryz.call25 O (fun w hI=>zhL f.body v3 (fun b=>D b/\b<W.heap.size) w x.at_ s ((SlR.narrow (by omega) jz hf.body).ext zb hI.k0) (by omega) hst hz) ?_
  rintro rr w1 w2 hI1 hk12 ⟨a1,c1,a2,c2,a3,c3,a4,c4,rfl,hR,hkids⟩ hlow
  refine Vs 3 O ?_
  refine V.alloc 1008 tz72 O O (fun b1008=>?_)
  refine Vs 5 O ?_
  refine zne (σ:=Unit) [8] [1008] [8] O (fun e u=>e) (fun e u=>e) (fun u=>rdB f x=true) (fun _=>rfl) (fun _=>rfl) ?_ ?_
  ·
   refine Vs 6 O ?_
   refine V.sp 27 O (fun k1_=>?_) (fun k1_=>?_)
   ·
    refine Vs 5 O ?_
    refine V.sp 32 O (fun k2_=>?_) (fun k2_=>?_)
    ·
     refine Vs 4 O ?_
     refine V.sp 36 O (fun k3_=>?_) (fun k3_=>?_)
     ·
      refine Vs 21 O ?_
      refine zkW Tryz.results71 O (fun w hI=>⟨_,rfl,Tr1 hI.k1 (hno (by unfold rdB;rw [hse];exact zow (by omega))),hI.k1⟩)
     ·
      refine Vs 4 O ?_
      refine V.sp 40 O (fun k4_=>?_) (fun k4_=>?_)
      ·
       refine Vs 8 O ?_
       refine zkG O (fun k5_=>?_) (fun k5_=>?_)
       ·
        refine Vs 8 O ?_
        refine zkW Tryz.results71 O (fun w hI=>⟨_,rfl,Tr1 hI.k1 (hno (by unfold rdB;rw [hse];exact zow (by omega))),hI.k1⟩)
       ·
        refine Vs 1 O ?_
        refine zkT (()) (Sub.of O) (Has.of O) (by unfold rdB;rw [hse];exact zov (by omega)) 0 O O
      ·
       refine Vs 10 O ?_
       refine zkT (()) (Sub.of O) (Has.of O) (by unfold rdB;rw [hse];exact zov (by omega)) 0 O O
    ·
     refine Vs 18 O ?_
     refine zkT (()) (Sub.of O) (Has.of O) (by unfold rdB;rw [hse];exact zov (by omega)) 0 O O
   ·
    refine Vs 23 O ?_
    refine zkT (()) (Sub.of O) (Has.of O) (by unfold rdB;rw [hse];exact zov (by omega)) 0 O O
  rintro u hrb
  have hrd2:rdV f g i=Gr.compactL (kE (xm s.term)):=by rw [hrd];unfold rdN;rw [zou hrb,hse]
  refine Vs 2 O ?_
  refine zmR 901 3 1 O ?_
  refine Vs 3 O ?_
  refine zn4 901 (E:=fun x=>qq x ([]++xm s.term)) Tryz.call115 O (fun _=>⟨trivial,fun _ h=>h⟩) (fun w hI=>zp5 s.term _ _ [] (fun q=>D q/\q<W.heap.size) w ((hkids.wide zo (fun q h=>(⟨h.1,h.2⟩:D q/\q<W.heap.size))).keep zo hI.k0 (fun b hb _ hs=>by have:=hI1.hsE 0 O hs;have:=hb.2;omega)) (hI.at 901 O) (fun q hq=>⟨Nat.lt_of_lt_of_le hq.2 (hI.k1).size,fun h=>by cases h⟩) (by simp;omega)) ?_
  rintro u2 _ rfl
  rw [List.nil_append]
  refine Vs 6 O ?_
  refine zn4 901 (E:=fun _:Unit=>qq u2 (kE (xm s.term))) Tryz.call116 O (fun _=>⟨trivial,fun _ h=>h⟩) (fun w hI=>zj9 u2 (xm s.term) (hI.at 901 O) (by omega)) ?_
  rintro _ _ rfl
  refine Vs 5 O ?_
  refine zn4 901 (E:=fun x=>qq x (Gr.compactL (kE (xm s.term)))) Tryz.call117 O (fun _=>⟨trivial,fun _ h=>h⟩) (fun w hI=>zeT u2 (kE (xm s.term)) (hI.at 901 O) (by rw [qI];omega)) ?_
  rintro u3 _ rfl
  refine Vs 4 O ?_
  refine zkW Tryz.results71 O (fun w hI=>⟨_,rfl,by rw [hrd2];exact zlM zc (fun _ _=>rfl) (hI.at 901 O) (fun g hg=>hI.own 901 1 O O g hg),hI.k1⟩)
theorem zkA (f:Fl) (s:Sf) (k v:Int) (fr:Bool) (v1 v2 v3 ofv nv:Value) (D D':Nat->Prop) (W:World) (hf:RFl D' W f v1 v2 v3) (hof:SlR 1 yj D W ofv s.of_) :
  Calls Tryz.prog 68 #[.agg #[v1,v2,v3],.agg #[ofv,nv],.int .i64 k,.int .i64 v,.bool fr] W (Ret fun r w'=>r=.bool (decide (zaa f s k v fr))/\Ext W w'):=by
 obtain⟨a1,c1,rfl⟩:=hf.vars.form
 obtain⟨ao,co,rfl⟩:=hof.form
 have hmx:=hof.max
 refine G.in5 Tryz.func68 O Tryz.ntmps68 O (zmE ?_)
 refine Vs 2 O ?_
 refine V.box 5 O O (fun b5=>?_)
 refine V.box 6 O O (fun b6=>?_)
 refine Vs 8 O ?_
 refine V.sp 13 O (fun g0=>?_) (fun g0=>?_)
 ·
  obtain⟨n,rfl⟩:=Int.eq_ofNat_of_zero_le g0
  refine Vs 7 O ?_
  refine V.sp 20 O (fun g1=>?_) (fun g1=>?_)
  ·
   refine Vs 3 O ?_
   obtain⟨x,he_x,hm_x⟩:=gE_ s.of_ (n) (by omega)
   obtain⟨b_x,o_x,c_x,ha_x,_,hc_x,hR_x⟩:=hof.at he_x
   obtain rfl:=hR_x
   refine zna 1000 0 O O hc_x ?_
   refine zmN 1000 tR27 ts3 O ha_x (by omega) (_) (rfl) O ?_
   refine Vs 5 O ?_
   refine V.sp 29 O (fun g2=>?_) (fun g2=>?_)
   ·
    refine Vs 1 O ?_
    refine zml O (fun w hI=>zlV O (by first | exact za | rfl)) ?_
    refine Vs 1 O ?_
    refine V.sb 32 O (fun g3=>?_) (fun g3=>?_)
    ·
     have hfr:fr=false:=by simpa using g3
     refine Vs 11 O ?_
     refine zkW Tryz.results68 O (fun w hI=>⟨_,rfl,by rw [hfr,zov (verB_nat.2 ⟨by rw [he_x,g2],fun h=>by cases h⟩)],hI.k0⟩)
    ·
     have hfr:fr=true:=by simpa using g3
     refine Vs 11 O ?_
     refine zkW Tryz.results68 O (fun w hI=>⟨_,rfl,by rw [hfr,zoL.2 (show zaa f s (n:Int) v true ↔ (n:Int) ≥ (f.vars.length:Int) by rw [verB_nat,he_x,g2];simp)],hI.k0⟩)
   ·
    refine Vs 14 O ?_
    refine zkW Tryz.results68 O (fun w hI=>⟨_,rfl,by rw [zow (fun h=>g2 (by have:=(verB_nat.1 h).1;rw [he_x] at this;exact Option.some.inj this))],hI.k0⟩)
  ·
   refine Vs 23 O ?_
   refine zkW Tryz.results68 O (fun w hI=>⟨_,rfl,by rw [zow (fun h=>g1 (by have:=(zox.1 (verB_nat.1 h).1).1;omega))],hI.k0⟩)
 ·
  refine Vs 30 O ?_
  refine zkW Tryz.results68 O (fun w hI=>⟨_,rfl,by rw [zow (zhM g0)],hI.k0⟩)
def zkB (g:List Nd) (n:Nat) (i:Nat):List Int:=((List.range i).filter fun y:Nat=>decide ((xF g y).next=(n:Int)\/(xF g y).other=(n:Int))).map fun i:Nat=>(i:Int)
theorem zoY (g:List Nd) (n i:Nat):zkB g n (i+1)=zkB g n i++if (xF g i).next=(n:Int)\/(xF g i).other=(n:Int) then [(i:Int)] else []:=by
 unfold zkB
 rw [List.range_succ,List.filter_append,List.map_append]
 congr 1
 by_cases e:(xF g i).next=(n:Int)\/(xF g i).other=(n:Int)
 . rw [zou e,List.filter_cons_of_pos (by simpa using e)];rfl
 . rw [zot e,List.filter_cons_of_neg (by simpa using e)];rfl
theorem zp6 (g:List Nd) (n i:Nat):(zkB g n i).length<=i:=by
 unfold zkB
 rw [zoD]
 exact zop (List.length_filter_le _ _) (Nat.le_of_eq List.length_range)
theorem zoQ (g:List Nd) (hgl:g.length<=1000000) (n:Nat) (gv:Value) (D:Nat->Prop) (W:World) (hg:SlR 4 RNd D W gv g) :
  Calls Tryz.prog 70 #[.agg #[gv],.int .i64 n] W (Ret fun r w'=>SlR 1 yj (fun q=>W.heap.size<=q) w' r (zca g n)/\Ext W w'):=by
 obtain⟨ag,cg,rfl⟩:=hg.form
 refine zmv Tryz.func70 O Tryz.ntmps70 O (zmE ?_)
 refine Vs 2 O ?_
 refine V.box 2 O O (fun b2=>?_)
 refine Vs 4 O ?_
 refine zmR 901 3 1 O ?_
 refine Vs 14 O ?_
 refine znd (σ:=Nat × Value) [1,9,10] [] [] O (fun e ⟨i,u⟩=>(11,.int .i64 i)::(5,u)::e) (fun e ⟨i,u⟩=>(901,.row 3 1 u (zkB g n i).length ((zkB g n i).map zc))::e) (fun⟨i,u⟩=>i<=g.length) (fun⟨i,u⟩=>g.length - i) ((0,_)) (Sub.of O) (Has.of O) (fun _=>rfl) (fun _=>rfl) (fun _=>rfl) (zoy _) ?_
 rintro⟨i,u⟩ hi
 show V _ _ _ _ _ ((11,.int .i64 i)::(5,u)::_) _ ((901,.row 3 1 u (zkB g n i).length ((zkB g n i).map zc))::_) _
 have hpl:=zp6 g n i
 have hnx:=zoY g n i
 refine Vs 6 O ?_
 refine zkG O (fun lt=>?_) (fun lt=>?_)
 ·
  refine Vs 7 O ?_
  obtain⟨x,he_x,hm_x⟩:=gE_ g (i) (by omega)
  obtain⟨b_x,o_x,c_x,ha_x,_,hc_x,hR_x⟩:=hg.at he_x
  obtain rfl:=hR_x
  refine zna 1000 0 O O hc_x ?_
  refine zmN 1000 tR34 ts65 O ha_x (by omega) (_) (rfl) O ?_
  have hx:=xd he_x
  rw [hx] at hnx
  refine Vs 1 O ?_
  refine V.alloc 7 tz65 O O (fun b7=>?_)
  refine Vs 4 O ?_
  refine zne (σ:=Value) [1,9,10,11] [] [] O (fun e u'=>(5,u')::e) (fun e u'=>(901,.row 3 1 u' (zkB g n (i+1)).length ((zkB g n (i+1)).map zc))::e) (fun u'=>True) (fun _=>rfl) (fun _=>rfl) ?_ ?_
  ·
   refine Vs 7 O ?_
   refine V.sp 20 O (fun g1=>?_) (fun g1=>?_)
   ·
    refine Vs 11 O ?_
    refine V.bs 28 [(0,_)] tR27 ts3 tz3 (by decide) O O (by kernel_rfl) (fun b28=>?_)
    refine zmS 901 28 tu27 Tryz.el3 O (by decide) O O (by omega) (by omega) (fun u901=>?_)
    refine Vs 2 O ?_
    refine znc 901 O (e':=.row 3 1 u901 (zkB g n (i+1)).length ((zkB g n (i+1)).map zc)) (by rw [hnx,zou (.inl g1),zor,List.map_append];rfl) ?_
    refine zkT (u901) (Sub.of O) (Has.of O) (True.intro) 0 O O
   ·
    refine Vs 7 O ?_
    refine zkG O (fun g2=>?_) (fun g2=>?_)
    ·
     refine Vs 3 O ?_
     refine V.bs 1028 [(0,_)] tR27 ts3 tz3 (by decide) O O (by kernel_rfl) (fun b1028=>?_)
     refine zmS 901 1028 tu27 Tryz.el3 O (by decide) O O (by omega) (by omega) (fun u901=>?_)
     refine Vs 2 O ?_
     refine znc 901 O (e':=.row 3 1 u901 (zkB g n (i+1)).length ((zkB g n (i+1)).map zc)) (by rw [hnx,zou (.inr g2),zor,List.map_append];rfl) ?_
     refine zkT (u901) (Sub.of O) (Has.of O) (True.intro) 0 O O
    ·
     refine znc 901 O (e':=.row 3 1 u (zkB g n (i+1)).length ((zkB g n (i+1)).map zc)) (by rw [hnx,zot (fun h=>h.elim g1 g2),List.append_nil]) ?_
     refine Vs 1 O ?_
     refine zkT (u) (Sub.of O) (Has.of O) (True.intro) 0 O O
  rintro u' -
  show V _ _ _ _ _ ((5,u')::_) _ ((901,.row 3 1 u' (zkB g n (i+1)).length ((zkB g n (i+1)).map zc))::_) _
  refine Va 6 O (by omega) ?_
  refine V.back (⟨i+1,u'⟩) (Sub.of O) (Has.of O) (by omega) (by first | omega | (dsimp only;omega)) 0 O O
 ·
  obtain rfl:i=g.length:=by omega
  refine Vs 12 O ?_
  refine zkW Tryz.results70 O (fun w hI=>⟨_,rfl,zlM zc (fun _ _=>rfl) (show w.ownsRow 0 3 1 u (zca g n).length ((zca g n).map zc) from hI.at 901 O) (fun g hg=>hI.own 901 0 O O g hg),hI.k0⟩)
theorem zoZ {L L':List Int} {m:Nat} (h:∀ a,L.count a=L'.count a):zcd L m=zcd L' m:=by
 unfold zcd
 exact List.map_congr_left fun k _=>by rw [h]
theorem zp8 {s:Sf} {j N:Nat} (hj:j<=N):(LP s j).length<=(LP s N).length:=by
 have:LP s N=LP s j++(List.range' j (N - j)).flatMap fun i=>dP (zk s i)++(zk s i).phis.map (·.ver):=by
  unfold LP
  rw [<- List.flatMap_append,List.range_eq_range',List.range_eq_range']
  congr 1
  rw [show N=j+(N - j) by omega,<- List.range'_append_1]
  simp
 rw [this,zor]
 omega
theorem zp0 (f:Fl) (g:List Nd) (s:Sf) (hk:GOk f g) (hz:ssize f.body<=10000) (hgl:g.length<=1000000) (hbig:s.of_.length<=1000000/\(LP s s.nodes.length).length<=1000000) (v1 v2 v3 gv ofv nodv:Value) (D:Nat->Prop) (W:World) (hf:RFl D W f v1 v2 v3) (hg:SlR 4 RNd D W gv g) (hS:RSf D W s ofv nodv) :
  Calls Tryz.prog 34 #[.agg #[v1,v2,v3],.agg #[gv],.agg #[ofv,nodv]] W (Ret fun r w'=>(∃ q:Bool,r=.bool q/\(q=true ↔ FormF f g s (rdV f g)))/\Ext W w'):=by
 have hf0:=hf
 have hg0:=hg
 have hS0:=hS
 have hfv:=hf.vars
 have hof:=hS.of_
 have hnd:=hS.nodes
 obtain⟨ag,cg,rfl⟩:=hg.form
 obtain⟨an,cn,rfl⟩:=hnd.form
 obtain⟨ao,co,rfl⟩:=hof.form
 obtain⟨a1,c1,rfl⟩:=hfv.form
 have hnm:=hnd.max
 have hgm:=hg.max
 have hom:=hof.max
 have hcb:∀ (L:List Int) (k:Int),L.count k<=L.length:=fun L k=>List.count_le_length
 have hno:¬ FormF f g s (rdV f g)->((false:Bool)=true ↔ FormF f g s (rdV f g)):=fun hb=>⟨fun h=>(by cases h),fun h=>absurd h hb⟩
 refine zmw Tryz.func34 O Tryz.ntmps34 O (zmE ?_)
 refine Vs 2 O ?_
 refine V.box 3 O O (fun b3=>?_)
 refine V.box 4 O O (fun b4=>?_)
 refine V.box 5 O O (fun b5=>?_)
 refine Vs 4 O ?_
 refine zne (σ:=Unit) [3,4,5] [3,4,5] [3,4,5] O (fun e u=>e) (fun e u=>e) (fun u=>f.vars.length<=s.of_.length/\s.nodes.length=g.length) (fun _=>rfl) (fun _=>rfl) ?_ ?_
 ·
  refine Vs 10 O ?_
  refine V.sp 28 O (fun l0=>?_) (fun l0=>?_)
  ·
   refine Vs 19 O ?_
   refine zkW Tryz.results34 O (fun w hI=>⟨_,rfl,⟨_,rfl,hno fun h=>by have:=h.of_.len;omega⟩,hI.k0⟩)
  ·
   refine Vs 10 O ?_
   refine zkG O (fun l1=>?_) (fun l1=>?_)
   ·
    refine Vs 8 O ?_
    refine zkW Tryz.results34 O (fun w hI=>⟨_,rfl,⟨_,rfl,hno fun h=>by have:=h.len;omega⟩,hI.k0⟩)
   ·
    refine Vs 1 O ?_
    refine zkT (()) (Sub.of O) (Has.of O) (⟨by omega,by omega⟩) 0 O O
 rintro u ⟨hvl,hlen⟩
 have hnoV:∀ (j:Nat) v,s.of_[j]?=some v->¬ VOk f j v->¬ FormF f g s (rdV f g):=fun j v hv hn h=>hn ((ofF_iff.1 h.of_).2 j v hv)
 refine Vs 11 O ?_
 refine znd (σ:=Nat) [3,4,5,38,39] [3,4,5] [3,4,5] O (fun e i=>(40,.int .i64 i)::e) (fun e i=>e) (fun i=>i<=s.of_.length/\∀ (j:Nat) v,j<i->s.of_[j]?=some v->VOk f j v) (fun i=>s.of_.length - i) (0) (Sub.of O) (Has.of O) (fun _=>rfl) (fun _=>rfl) (fun _=>rfl) (⟨zoy _,fun j v h=>absurd h (Nat.not_lt_zero _)⟩) ?_
 rintro i ⟨hi,hall⟩
 refine Vs 6 O ?_
 refine zkG O (fun lt=>?_) (fun lt=>?_)
 ·
  refine Vs 7 O ?_
  obtain⟨v,he_v,hm_v⟩:=gE_ s.of_ (i) (by omega)
  obtain⟨b_v,o_v,c_v,ha_v,_,hc_v,hR_v⟩:=hof.at he_v
  obtain rfl:=hR_v
  refine zna 1000 0 O O hc_v ?_
  refine zmN 1000 tR27 ts3 O ha_v (by omega) (_) (rfl) O ?_
  refine Vs 5 O ?_
  refine zne (σ:=Unit) [3,4,5,38,39,40] [3,4,5] [3,4,5] O (fun e u=>e) (fun e u=>e) (fun u=>VOk f i v) (fun _=>rfl) (fun _=>rfl) ?_ ?_
  ·
   refine Vs 8 O ?_
   refine V.sp 50 O (fun a1=>?_) (fun a1=>?_)
   ·
    refine Vs 5 O ?_
    refine V.sp 55 O (fun a2=>?_) (fun a2=>?_)
    ·
     refine Vs 41 O ?_
     refine zkW Tryz.results34 O (fun w hI=>⟨_,rfl,⟨_,rfl,hno (hnoV i v he_v fun h=>a2 (h.1 (by omega)))⟩,hI.k0⟩)
    ·
     refine Vs 6 O ?_
     refine V.sp 61 O (fun b1=>?_) (fun b1=>?_)
     . omega
     ·
      refine Vs 24 O ?_
      refine zkT (()) (Sub.of O) (Has.of O) (⟨fun _=>zos.1 a2,fun h=>by omega⟩) 0 O O
   ·
    refine Vs 11 O ?_
    refine V.sp 61 O (fun b1=>?_) (fun b1=>?_)
    ·
     refine Vs 3 O ?_
     refine V.sp 64 O (fun b2=>?_) (fun b2=>?_)
     ·
      refine Vs 32 O ?_
      refine zkW Tryz.results34 O (fun w hI=>⟨_,rfl,⟨_,rfl,hno (hnoV i v he_v fun h=>by have:=(h.2 (by omega)).1;omega)⟩,hI.k0⟩)
     ·
      obtain⟨m,rfl⟩:=Int.eq_ofNat_of_zero_le (show 0<=v by omega)
      refine Vs 7 O ?_
      refine V.sp 71 O (fun b3=>?_) (fun b3=>?_)
      ·
       refine Vs 25 O ?_
       have hb:¬ VOk f i (m:Int):=fun h=>by
        obtain⟨_,x,hx,_⟩:=h.2 (by omega)
        have:=(zox.1 hx).1
        omega
       refine zkW Tryz.results34 O (fun w hI=>⟨_,rfl,⟨_,rfl,hno (hnoV i m he_v hb)⟩,hI.k0⟩)
      ·
       refine Vs 3 O ?_
       obtain⟨vr,he_vr,hm_vr⟩:=gE_ f.vars (m) (by omega)
       obtain⟨b_vr,o_vr,c_vr,ha_vr,_,hc_vr,hR_vr⟩:=hfv.at he_vr
       obtain rfl:=hR_vr
       refine zna 2000 0 O O hc_vr ?_
       refine zmN 2000 tR22 ts142 O ha_vr (by omega) (_) (rfl) O ?_
       refine Vs 8 O ?_
       refine zkG O (fun b4=>?_) (fun b4=>?_)
       ·
        have hb:¬ VOk f i (m:Int):=fun h=>by
         obtain⟨_,x,hx,h0⟩:=h.2 (by omega)
         rw [zoF,he_vr] at hx
         cases hx
         exact b4 h0
        refine Vs 12 O ?_
        refine zkW Tryz.results34 O (fun w hI=>⟨_,rfl,⟨_,rfl,hno (hnoV i m he_v hb)⟩,hI.k0⟩)
       ·
        refine Vs 1 O ?_
        refine zkT (()) (Sub.of O) (Has.of O) (⟨fun h=>by omega,fun _=>⟨by omega,vr,he_vr,zos.1 b4⟩⟩) 0 O O
    . omega
  rintro u hvk
  have hnx:=xe hall he_v hvk
  refine Va 6 O (by omega) ?_
  refine V.back (i+1) (Sub.of O) (Has.of O) (⟨by omega,hnx⟩) (by first | omega | (dsimp only;omega)) 0 O O
 ·
  obtain rfl:i=s.of_.length:=by omega
  have hOf:OfF f s:=ofF_iff.2 ⟨hvl,jX hall⟩
  generalize hm:s.of_.length=m at *
  refine Vs 10 O ?_
  refine zlz 86 tu27 Tryz.el3 O (by omega) (by omega) (zs:=List.replicate m (.int .i64 0)) (qw _ _ O) (by simp) (fun b86=>?_)
  refine znc 86 O (e':=.row 3 1 (.slice (some ⟨b86,0,none⟩) m m) m ((zcd (LP s 0) m).map zc)) (by rw [show LP s 0=[] from rfl,zhO,List.map_replicate]) ?_
  refine Vs 13 O ?_
  refine znd (σ:=Nat) [3,4,5,9,88,89] [3,4,5] [3,4,5] O (fun e n=>(90,.int .i64 n)::e) (fun e n=>(86,.row 3 1 (.slice (some ⟨b86,0,none⟩) m m) m ((zcd (LP s n) m).map zc))::e) (fun n=>n<=s.nodes.length/\∀ (j:Nat) x,j<n->s.nodes[j]?=some x->NodF f g s (rdV f g) j x) (fun n=>s.nodes.length - n) (0) (Sub.of O) (Has.of O) (fun _=>rfl) (fun _=>rfl) (fun _=>rfl) (⟨zoy _,fun j x h=>absurd h (Nat.not_lt_zero _)⟩) ?_
  rintro n ⟨hn,hnod⟩
  refine Vs 6 O ?_
  refine zkG O (fun lt=>?_) (fun lt=>?_)
  ·
   refine Vs 7 O ?_
   obtain⟨x,he_x,hm_x⟩:=gE_ s.nodes (n) (by omega)
   obtain⟨b_x,o_x,c_x,ha_x,_,hc_x,hR_x⟩:=hnd.at he_x
   obtain⟨v1_x,v2_x,rfl,hp_x,hu_x⟩:=hR_x
   obtain⟨a1_x,n1_x,rfl⟩:=hp_x.form
   obtain⟨a2_x,n2_x,rfl⟩:=hu_x.form
   refine zna 3000 0 O O hc_x ?_
   refine zmN 3000 tR28 ts59 O ha_x (by omega) (_) (rfl) O ?_
   have hnoN:¬ NodF f g s (rdV f g) n x->¬ FormF f g s (rdV f g):=fun hb h=>hb (h.nod n x he_x)
   have hng:n<g.length:=by omega
   have hum:=hu_x.max
   have hpm:=hp_x.max
   have hlx:=zdK he_x
   have hl1:=zp8 (s:=s) (j:=n+1) (N:=s.nodes.length) (by omega)
   rw [hlx,zor,zor,zoD] at hl1
   refine Vs 1 O ?_
   refine V.alloc 11 tz59 O O (fun b11=>?_)
   refine Vs 5 O ?_
   refine zne (σ:=Unit) [3,4,5,9,10,11,88,89,90] [3,4,5,11,86] [3,4,5,11] O (fun e u=>e) (fun e u=>e) (fun u=>n=0->x.phis=[]) (fun _=>rfl) (fun _=>rfl) ?_ ?_
   ·
    refine Vs 5 O ?_
    refine V.sp 97 O (fun z1=>?_) (fun z1=>?_)
    ·
     refine Vs 7 O ?_
     refine zkG O (fun z2=>?_) (fun z2=>?_)
     ·
      have hb:=hnoN fun h=>absurd (h.phi.zero (by omega)) (fun e=>by rw [e] at z2;simp at z2)
      refine Vs 13 O ?_
      refine zkW Tryz.results34 O (fun w hI=>⟨_,rfl,⟨_,rfl,hno hb⟩,hI.k0⟩)
     ·
      refine Vs 1 O ?_
      refine zkT (()) (Sub.of O) (Has.of O) (fun _=>List.length_eq_zero_iff.1 (by omega)) 0 O O
    ·
     refine Vs 9 O ?_
     refine zkT (()) (Sub.of O) (Has.of O) (fun e=>absurd (by rw [e];rfl) z1) 0 O O
   rintro u h0
   refine Vs 10 O ?_
   refine znc 86 O (e':=.row 3 1 (.slice (some ⟨b86,0,none⟩) m m) m ((zcd (LP s n++(x.phis.take 0).map (·.ver)) m).map zc)) (by rw [List.take_zero,List.map_nil,List.append_nil]) ?_
   refine Vs 1 O ?_
   refine znd (σ:=Nat) [3,4,5,9,10,11,88,89,90,104,105] [3,4,5,11] [3,4,5,11] O (fun e i=>(106,.int .i64 i)::e) (fun e i=>(86,.row 3 1 (.slice (some ⟨b86,0,none⟩) m m) m ((zcd (LP s n++(x.phis.take i).map (·.ver)) m).map zc))::e) (fun i=>i<=x.phis.length/\PhTo f g s n x.phis i) (fun i=>x.phis.length - i) (0) (Sub.of O) (Has.of O) (fun _=>rfl) (fun _=>rfl) (fun _=>rfl) (⟨zoy _,znz⟩) ?_
   rintro i ⟨hi,hin⟩
   refine Vs 6 O ?_
   refine zkG O (fun lp=>?_) (fun lp=>?_)
   ·
    refine Vs 7 O ?_
    obtain⟨p,he_p,hm_p⟩:=gE_ x.phis (i) (by omega)
    obtain⟨b_p,o_p,c_p,ha_p,_,hc_p,hR_p⟩:=hp_x.at he_p
    obtain⟨v1_p,v2_p,rfl,hf_p,hg_p⟩:=hR_p
    obtain⟨a1_p,n1_p,rfl⟩:=hf_p.form
    obtain⟨a2_p,n2_p,rfl⟩:=hg_p.form
    refine zna 4000 0 O O hc_p ?_
    refine zmN 4000 tR56 ts88 O ha_p (by omega) (_) (rfl) O ?_
    have hgpm:=hg_p.max
    have hfpm:=hf_p.max
    have hnoP:¬ PhOne f g s n p->¬ FormF f g s (rdV f g):=fun hb=>hnoN fun h=>hb (h.phi.bad hm_p)
    refine Vs 1 O ?_
    refine V.alloc 13 tz88 O O (fun b13=>?_)
    refine Vs 5 O ?_
    refine zne (σ:=Unit) [3,4,5,9,10,11,13,88,89,90,104,105,106] [3,4,5,11,13,86] [3,4,5,11,13] O (fun e u=>e) (fun e u=>e) (fun u=>(0<i->∃ q,x.phis[i - 1]?=some q/\q.var<p.var)/\zaa f s p.ver p.var true/\p.frm=zca g n/\p.args.length=p.frm.length) (fun _=>rfl) (fun _=>rfl) ?_ ?_
    ·
     refine zmF (p:=0<i) (fun ci=>?_) (fun ci=>?_)
     ·
      obtain⟨q,he_q,hm_q⟩:=gE_ x.phis ((i-1)) (by omega)
      obtain⟨b_q,o_q,c_q,ha_q,_,hc_q,hR_q⟩:=hp_x.at he_q
      obtain⟨v1_q,v2_q,rfl,hf_q,hg_q⟩:=hR_q
      obtain⟨a1_q,n1_q,rfl⟩:=hf_q.form
      obtain⟨a2_q,n2_q,rfl⟩:=hg_q.form
      refine zna 5000 0 O O hc_q ?_
      refine Vs 1 O ?_
      refine Vw [3,4,5,11,4000,13,5000] [] O ?_
      refine Vd [0,1,2] 0 (by kernel_rfl) O O O ?_
      refine VD.sp 113 O (fun c1=>?_) (fun c1=>?_)
      ·
       refine Vb [3,4,5,6,10,11] 0 (by kernel_rfl) O O O (by omega) ?_
       refine zmO 7 5000 tR56 ts88 O (by kernel_rfl) O ha_q (by omega) (i - 1) (by omega) O ?_
       refine Vd [8,9,12,13,14] 0 (by kernel_rfl) O O O ?_
       refine VD.sp 125 O (fun c2=>?_) (fun c2=>?_)
       ·
        have hbad:=hnoN fun h=>by
         have:=List.pairwise_iff_getElem.1 h.phi.asc (i - 1) i (zox.1 he_q).1 (zox.1 he_p).1 (by omega)
         rw [(zox.1 he_q).2,(zox.1 he_p).2] at this
         omega
        refine Vd [15,16,17,18,19,20] 0 (by kernel_rfl) O O O ?_
        refine VD.skip 21 0 O (by kernel_rfl) O O ?_
        refine Vd [22,23,24,25,26,27,28] 0 (by kernel_rfl) O O O ?_
        refine VD.skip 29 0 O (by kernel_rfl) O O ?_
        refine VD.skip 30 0 O (by kernel_rfl) O O ?_
        refine Vd [31,32,33,34,35,36,37,38,39,40,41] 0 (by kernel_rfl) O O O ?_
        refine VD.done (by kernel_rfl) ?_
        refine Vs 20 O ?_
        refine zkW Tryz.results34 O (fun w hI=>⟨_,rfl,⟨_,rfl,hno (hbad)⟩,hI.k0⟩)
       ·
        have hlt:0<i->∃ q,x.phis[i - 1]?=some q/\q.var<p.var:=fun _=>⟨q,he_q,by omega⟩
        refine Vd [15,16,17,18,19,20] 0 (by kernel_rfl) O O O ?_
        refine zn0 21 0 Tryz.call68 O (by kernel_rfl) O O (fun w hI=>zkA f s p.ver p.var true _ _ _ _ _ D D w (Tr1 hI.k0 hf0) (Tr1 hI.k0 hS0.of_)) ?_
        refine zmm 22 0 O (by kernel_rfl) O O (fun w hI=>zlV O za) ?_
        refine Vd [23,24] 0 (by kernel_rfl) O O O ?_
        refine VD.sp 135 O (fun c3=>?_) (fun c3=>?_)
        ·
         have hb:=hnoP fun h=>c3 h.ver
         refine Vd [25,26,27,28] 0 (by kernel_rfl) O O O ?_
         refine VD.skip 29 0 O (by kernel_rfl) O O ?_
         refine VD.skip 30 0 O (by kernel_rfl) O O ?_
         refine Vd [31,32,33,34,35,36,37,38,39,40,41] 0 (by kernel_rfl) O O O ?_
         refine VD.done (by kernel_rfl) ?_
         refine Vs 20 O ?_
         refine zkW Tryz.results34 O (fun w hI=>⟨_,rfl,⟨_,rfl,hno (hb)⟩,hI.k0⟩)
        ·
         have c3:=zos.1 c3
         refine Vd [25,26,27,28] 0 (by kernel_rfl) O O O ?_
         refine zn2 29 0 Tryz.call70 O (by kernel_rfl) O O (fun w hI=>zoQ g hgl n _ D w (Tr1 hI.k0 hg0)) ?_
         rintro pr w1 w2 hI1 hk12 hpr hlow
         refine zn0 30 1 Tryz.call69 O (by kernel_rfl) O O (fun w hI=>zej p.frm (zca g n) _ _ _ _ w (Tr1 hI.k1 hf_p) (hpr.keep ze hI.k0 (fun b hb _ hs=>by have:=hlow b hs;omega))) ?_
         refine zmm 31 1 O (by kernel_rfl) O O (fun w hI=>zlV O za) ?_
         refine Vd [32,33] 1 (by kernel_rfl) O O O ?_
         refine VD.sp 144 O (fun c4=>?_) (fun c4=>?_)
         ·
          have hb:=hnoP fun h=>c4 h.frm
          refine Vd [34,35,36,37,38,39,40,41] 1 (by kernel_rfl) O O O ?_
          refine VD.done (by kernel_rfl) ?_
          refine Vs 20 O ?_
          refine zkW Tryz.results34 O (fun w hI=>⟨_,rfl,⟨_,rfl,hno (hb)⟩,hI.k1⟩)
         ·
          have c4:=zos.1 c4
          refine Vd [34,35,36,37,38,39,40,41] 1 (by kernel_rfl) O O O ?_
          refine VD.done (by kernel_rfl) ?_
          refine Vs 1 O ?_
          refine zkG O (fun c5=>?_) (fun c5=>?_)
          ·
           have hb:=hnoP fun h=>c5 (by have:=h.len;omega)
           refine Vs 18 O ?_
           refine zkW Tryz.results34 O (fun w hI=>⟨_,rfl,⟨_,rfl,hno (hb)⟩,hI.k1⟩)
          ·
           refine Vs 1 O ?_
           refine zkT (()) (Sub.of O) (Has.of O) (⟨hlt,c3,c4,by omega⟩) 1 O O
      . omega
     ·
      refine Vs 1 O ?_
      refine Vw [3,4,5,11,4000,13] [] O ?_
      refine Vd [0,1,2] 0 (by kernel_rfl) O O O ?_
      refine VD.sp 113 O (fun c1=>?_) (fun c1=>?_)
      . omega
      ·
       have hlt:0<i->∃ q,x.phis[i - 1]?=some q/\q.var<p.var:=fun h=>by omega
       refine Vd [3,4,5,6,7,8,9,10,11,12,13,14,15,16,17,18,19,20] 0 (by kernel_rfl) O O O ?_
       refine zn0 21 0 Tryz.call68 O (by kernel_rfl) O O (fun w hI=>zkA f s p.ver p.var true _ _ _ _ _ D D w (Tr1 hI.k0 hf0) (Tr1 hI.k0 hS0.of_)) ?_
       refine zmm 22 0 O (by kernel_rfl) O O (fun w hI=>zlV O za) ?_
       refine Vd [23,24] 0 (by kernel_rfl) O O O ?_
       refine VD.sp 135 O (fun c3=>?_) (fun c3=>?_)
       ·
        have hb:=hnoP fun h=>c3 h.ver
        refine Vd [25,26,27,28] 0 (by kernel_rfl) O O O ?_
        refine VD.skip 29 0 O (by kernel_rfl) O O ?_
        refine VD.skip 30 0 O (by kernel_rfl) O O ?_
        refine Vd [31,32,33,34,35,36,37,38,39,40,41] 0 (by kernel_rfl) O O O ?_
        refine VD.done (by kernel_rfl) ?_
        refine Vs 20 O ?_
        refine zkW Tryz.results34 O (fun w hI=>⟨_,rfl,⟨_,rfl,hno (hb)⟩,hI.k0⟩)
       ·
        have c3:=zos.1 c3
        refine Vd [25,26,27,28] 0 (by kernel_rfl) O O O ?_
        refine zn2 29 0 Tryz.call70 O (by kernel_rfl) O O (fun w hI=>zoQ g hgl n _ D w (Tr1 hI.k0 hg0)) ?_
        rintro pr w1 w2 hI1 hk12 hpr hlow
        refine zn0 30 1 Tryz.call69 O (by kernel_rfl) O O (fun w hI=>zej p.frm (zca g n) _ _ _ _ w (Tr1 hI.k1 hf_p) (hpr.keep ze hI.k0 (fun b hb _ hs=>by have:=hlow b hs;omega))) ?_
        refine zmm 31 1 O (by kernel_rfl) O O (fun w hI=>zlV O za) ?_
        refine Vd [32,33] 1 (by kernel_rfl) O O O ?_
        refine VD.sp 144 O (fun c4=>?_) (fun c4=>?_)
        ·
         have hb:=hnoP fun h=>c4 h.frm
         refine Vd [34,35,36,37,38,39,40,41] 1 (by kernel_rfl) O O O ?_
         refine VD.done (by kernel_rfl) ?_
         refine Vs 20 O ?_
         refine zkW Tryz.results34 O (fun w hI=>⟨_,rfl,⟨_,rfl,hno (hb)⟩,hI.k1⟩)
        ·
         have c4:=zos.1 c4
         refine Vd [34,35,36,37,38,39,40,41] 1 (by kernel_rfl) O O O ?_
         refine VD.done (by kernel_rfl) ?_
         refine Vs 1 O ?_
         refine zkG O (fun c5=>?_) (fun c5=>?_)
         ·
          have hb:=hnoP fun h=>c5 (by have:=h.len;omega)
          refine Vs 18 O ?_
          refine zkW Tryz.results34 O (fun w hI=>⟨_,rfl,⟨_,rfl,hno (hb)⟩,hI.k1⟩)
         ·
          refine Vs 1 O ?_
          refine zkT (()) (Sub.of O) (Has.of O) (⟨hlt,c3,c4,by omega⟩) 1 O O
    rintro u ⟨hlt,c3,c4,c5⟩
    obtain⟨k,hkv,hkm⟩:=qJ c3
    rw [hm] at hkm
    have hck:=hcb (LP s n++(x.phis.take i).map (·.ver)) (k:Int)
    simp only [zor,zoD,zoN] at hck
    refine Va 7 O (by omega) ?_
    refine zmW 86 (k) tg3 O (by omega) (show _=some (Value.int .i64 (((LP s n++(x.phis.take i).map (·.ver)).count (k:Int):Nat):Int)) by rw [zoA,jY hkm];rfl) ?_
    refine Va 2 O (by omega) ?_
    refine zmX 86 (k) ts3 O (by omega) (by simp [qr];omega) ?_
    refine znc 86 O (e':=.row 3 1 (.slice (some ⟨b86,0,none⟩) m m) m ((zcd (LP s n++(x.phis.take (i+1)).map (·.ver)) m).map zc)) (by rw [zd he_p,List.map_append,<- List.append_assoc,show [p].map (·.ver)=[(k:Int)] by rw [<- hkv];rfl,<- zd1 hkm,List.map_set]) ?_
    refine Vs 11 O ?_
    refine znd (σ:=Nat) [3,4,5,9,10,11,13,88,89,90,104,105,106,161,162] [3,4,5,11,13,86] [3,4,5,11,13] O (fun e j=>(163,.int .i64 j)::e) (fun e j=>e) (fun j=>j<=p.args.length/\∀ (q:Nat) a,q<j->p.args[q]?=some a->zaa f s a p.var false) (fun j=>p.args.length - j) (0) (Sub.of O) (Has.of O) (fun _=>rfl) (fun _=>rfl) (fun _=>rfl) (⟨zoy _,fun q a h=>absurd h (Nat.not_lt_zero _)⟩) ?_
    rintro j ⟨hj,hargs⟩
    refine Vs 6 O ?_
    refine zkG O (fun lj=>?_) (fun lj=>?_)
    ·
     refine Vs 6 O ?_
     obtain⟨a,he_a,hm_a⟩:=gE_ p.args (j) (by omega)
     obtain⟨b_a,o_a,c_a,ha_a,_,hc_a,hR_a⟩:=hg_p.at he_a
     obtain rfl:=hR_a
     refine zna 6000 0 O O hc_a ?_
     refine zmN 6000 tR27 ts3 O ha_a (by omega) (_) (rfl) O ?_
     refine Vs 11 O ?_
     refine zmZ Tryz.call68 O (fun w hI=>zkA f s a p.var false _ _ _ _ _ D D w (Tr1 hI.k0 hf0) (Tr1 hI.k0 hS0.of_)) ?_
     refine zml O (fun w hI=>zlV O (by first | exact za | rfl)) ?_
     refine Vs 2 O ?_
     refine zkG O (fun c6=>?_) (fun c6=>?_)
     ·
      have hb:=hnoP fun h=>c6 (h.args a hm_a)
      refine Vs 20 O ?_
      refine zkW Tryz.results34 O (fun w hI=>⟨_,rfl,⟨_,rfl,hno hb⟩,hI.k0⟩)
     ·
      have hnx:=xe hargs he_a (zos.1 c6)
      refine Va 7 O (by omega) ?_
      refine V.back (j+1) (Sub.of O) (Has.of O) (⟨by omega,hnx⟩) (by first | omega | (dsimp only;omega)) 0 O O
    ·
     obtain rfl:j=p.args.length:=by omega
     have h1:PhOne f g s n p:=⟨c3,c4,by omega,fun a ha=>by obtain⟨q,hq⟩:=List.mem_iff_getElem?.1 ha;exact jX hargs q a hq⟩
     have hnx:=hin.next he_p hlt h1
     refine Va 10 O (by omega) ?_
     refine V.back (i+1) (Sub.of O) (Has.of O) (⟨by omega,hnx⟩) (by first | omega | (dsimp only;omega)) 0 O O
   ·
    obtain rfl:i=x.phis.length:=by omega
    have hphi:=hin.done h0
    refine znc 86 O (e':=.row 3 1 (.slice (some ⟨b86,0,none⟩) m m) m ((zcd (LP s n++x.phis.map (·.ver)) m).map zc)) (by rw [zoo]) ?_
    refine Vs 10 O ?_
    refine zmZ Tryz.call23 O (fun w hI=>zjb f g hk hz n hng _ _ _ _ D D w (Tr1 hI.k0 hf0) (Tr1 hI.k0 hg0)) ?_
    refine Vs 4 O ?_
    refine zne (σ:=Unit) [3,4,5,9,10,11,16,88,89,90] [3,4,5,11,86] [3,4,5,11] O (fun e u=>e) (fun e u=>e) (fun u=>(jp f g n<0->x.dfn=-1)/\(0<=jp f g n->zaa f s x.dfn (jp f g n) true)) (fun _=>rfl) (fun _=>rfl) ?_ ?_
    ·
     refine Vs 5 O ?_
     refine V.sp 182 O (fun d1=>?_) (fun d1=>?_)
     ·
      refine Vs 5 O ?_
      refine V.sp 187 O (fun d2=>?_) (fun d2=>?_)
      ·
       have hb:=hnoN fun h=>d2 (h.no d1)
       refine Vs 28 O ?_
       refine zkW Tryz.results34 O (fun w hI=>⟨_,rfl,⟨_,rfl,hno hb⟩,hI.k0⟩)
      ·
       refine Vs 3 O ?_
       refine V.sp 190 O (fun d3=>?_) (fun d3=>?_)
       . omega
       ·
        refine Vs 13 O ?_
        refine zkT (()) (Sub.of O) (Has.of O) (⟨fun _=>zos.1 d2,fun h=>by omega⟩) 0 O O
     ·
      refine Vs 8 O ?_
      refine V.sp 190 O (fun d3=>?_) (fun d3=>?_)
      ·
       refine Vs 5 O ?_
       refine zmZ Tryz.call68 O (fun w hI=>zkA f s x.dfn (jp f g n) true _ _ _ _ _ D D w (Tr1 hI.k0 hf0) (Tr1 hI.k0 hS0.of_)) ?_
       refine zml O (fun w hI=>zlV O (by first | exact za | rfl)) ?_
       refine Vs 4 O ?_
       refine zkG O (fun d4=>?_) (fun d4=>?_)
       ·
        have hb:=hnoN fun h=>d4 (h.yes d3)
        refine Vs 13 O ?_
        refine zkW Tryz.results34 O (fun w hI=>⟨_,rfl,⟨_,rfl,hno hb⟩,hI.k0⟩)
       ·
        refine Vs 1 O ?_
        refine zkT (()) (Sub.of O) (Has.of O) (⟨fun h=>by omega,fun _=>zos.1 d4⟩) 0 O O
      . omega
    rintro u ⟨hd1,hd2⟩
    refine Vs 2 O ?_
    refine zne (σ:=Unit) [3,4,5,9,10,11,88,89,90] [3,4,5,11] [3,4,5,11] O (fun e u=>e) (fun e u=>(86,.row 3 1 (.slice (some ⟨b86,0,none⟩) m m) m ((zcd (LP s (n+1)) m).map zc))::e) (fun u=>True) (fun _=>rfl) (fun _=>rfl) ?_ ?_
    ·
     refine Vs 6 O ?_
     refine zkG O (fun d0=>?_) (fun d0=>?_)
     ·
      obtain⟨k,hkv,hkm⟩:=qJ (hd2 d0)
      rw [hm] at hkm
      have hdp:dP x=[(k:Int)]:=by unfold dP;rw [zou (by omega),hkv]
      rw [hdp] at hl1 hlx
      simp only [zoE] at hl1
      have hck:=hcb (LP s n++x.phis.map (·.ver)) (k:Int)
      simp only [zor,zoD] at hck
      refine Va 5 O (by omega) ?_
      refine zmW 86 (k) tg3 O (by omega) (show _=some (Value.int .i64 (((LP s n++x.phis.map (·.ver)).count (k:Int):Nat):Int)) by rw [zoA,jY hkm];rfl) ?_
      refine Va 2 O (by omega) ?_
      refine zmX 86 (k) ts3 O (by omega) (by simp [qr];omega) ?_
      refine znc 86 O (e':=.row 3 1 (.slice (some ⟨b86,0,none⟩) m m) m ((zcd (LP s (n+1)) m).map zc)) (by rw [hlx,zoZ (L:=LP s n++[(k:Int)]++x.phis.map (·.ver)) (L':=LP s n++x.phis.map (·.ver)++[(k:Int)]) (fun a=>by simp only [List.count_append];omega),<- zd1 hkm,List.map_set]) ?_
      refine Vs 1 O ?_
      refine zkT (()) (Sub.of O) (Has.of O) (True.intro) 0 O O
     ·
      have hdp:dP x=[]:=by have:=hd1 (by omega);unfold dP;rw [zot (by omega)]
      rw [hdp,List.append_nil] at hlx
      refine znc 86 O (e':=.row 3 1 (.slice (some ⟨b86,0,none⟩) m m) m ((zcd (LP s (n+1)) m).map zc)) (by rw [hlx]) ?_
      refine Vs 1 O ?_
      refine zkT (()) (Sub.of O) (Has.of O) (True.intro) 0 O O
    rintro u -
    refine Vs 6 O ?_
    refine zn1 Tryz.call71 O (fun w hI=>zp1 f g hk hz n hng _ _ _ _ D D w (Tr1 hI.k0 hf0) (Tr1 hI.k0 hg0)) ?_
    rintro r2 w3 w4 hI3 hk34 hrd hlow2
    obtain⟨ar,cr,rfl⟩:=hrd.form
    have hrm:=hrd.max
    refine Vs 14 O ?_
    refine zkG O (fun e0=>?_) (fun e0=>?_)
    ·
     have hb:=hnoN fun h=>e0 (by rw [<- h.use,zoD])
     refine Vs 12 O ?_
     refine zkW Tryz.results34 O (fun w hI=>⟨_,rfl,⟨_,rfl,hno hb⟩,hI.k1⟩)
    ·
     refine Vs 11 O ?_
     refine znd (σ:=Nat) [3,4,5,9,17,88,89,90,220,221] [3,4,5,86] [3,4,5] O (fun e k=>(222,.int .i64 k)::e) (fun e k=>e) (fun k=>k<=x.uses.length/\∀ (q:Nat) u,q<k->x.uses[q]?=some u->(rdV f g n)[q]?=some u.1/\zaa f s u.2 u.1 false) (fun k=>x.uses.length - k) (0) (Sub.of O) (Has.of O) (fun _=>rfl) (fun _=>rfl) (fun _=>rfl) (⟨zoy _,fun q u h=>absurd h (Nat.not_lt_zero _)⟩) ?_
     rintro k ⟨hk2,hall2⟩
     refine Vs 6 O ?_
     refine zkG O (fun lk=>?_) (fun lk=>?_)
     ·
      refine Vs 7 O ?_
      obtain⟨u,he_u,hm_u⟩:=gE_ x.uses (k) (by omega)
      obtain⟨b_u,o_u,c_u,ha_u,_,hc_u,hR_u⟩:=hu_x.at he_u
      obtain rfl:=hR_u
      refine zna 7000 1 O O hc_u ?_
      refine zmN 7000 tR57 ts85 O ha_u (by omega) (_) (rfl) O ?_
      obtain⟨rk,he_rk,hm_rk⟩:=gE_ (rdV f g n) (k) (by omega)
      obtain⟨b_rk,o_rk,c_rk,ha_rk,hd_rk,hc_rk,hR_rk⟩:=hrd.atD he_rk
      obtain rfl:=hR_rk
      refine znb 8000 0 O O (fun h_=>by have h1_:=hlow2 _ h_;have h2_:=hd_rk;first | omega | exact h1_ h2_) hc_rk ?_
      refine Vs 1 O ?_
      refine V.alloc 19 tz85 O O (fun b19=>?_)
      refine Vs 5 O ?_
      refine Vw [3,4,5,7000,8000,19] [] O ?_
      refine Vd [0,1,2,3] 0 (by kernel_rfl) O O O ?_
      refine zmO 4 8000 tR27 ts3 O (by kernel_rfl) O ha_rk (by omega) (k) (by omega) O ?_
      refine Vd [5,6,7] 0 (by kernel_rfl) O O O ?_
      refine VD.sp 234 O (fun e1=>?_) (fun e1=>?_)
      ·
       have hb:=hnoN fun h=>e1 (by
        have:=congrArg (fun l:List Int=>l[k]?) h.use
        rw [zoA,he_u,he_rk] at this
        exact Option.some.inj this)
       refine Vd [8,9,10,11,12,13] 0 (by kernel_rfl) O O O ?_
       refine VD.skip 14 0 O (by kernel_rfl) O O ?_
       refine Vd [15,16] 0 (by kernel_rfl) O O O ?_
       refine VD.done (by kernel_rfl) ?_
       refine Vs 17 O ?_
       refine zkW Tryz.results34 O (fun w hI=>⟨_,rfl,⟨_,rfl,hno hb⟩,hI.k1⟩)
      ·
       have e1:=zos.1 e1
       refine Vd [8,9,10,11,12,13] 0 (by kernel_rfl) O O O ?_
       refine zn0 14 0 Tryz.call68 O (by kernel_rfl) O O (fun w hI=>zkA f s u.2 u.1 false _ _ _ _ _ D D w (Tr1 hI.k1 hf0) (Tr1 hI.k1 hS0.of_)) ?_
       refine zmm 15 0 O (by kernel_rfl) O O (fun w hI=>zlV O za) ?_
       refine Vd [16] 0 (by kernel_rfl) O O O ?_
       refine VD.done (by kernel_rfl) ?_
       refine Vs 1 O ?_
       refine zkG O (fun e2=>?_) (fun e2=>?_)
       ·
        have hb:=hnoN fun h=>e2 (h.ver u hm_u)
        refine Vs 15 O ?_
        refine zkW Tryz.results34 O (fun w hI=>⟨_,rfl,⟨_,rfl,hno hb⟩,hI.k1⟩)
       ·
        have hnx:=xe hall2 he_u ⟨by rw [he_rk,e1],zos.1 e2⟩
        refine Va 7 O (by omega) ?_
        refine V.back (k+1) (Sub.of O) (Has.of O) (⟨by omega,hnx⟩) (by first | omega | (dsimp only;omega)) 0 O O
     ·
      obtain rfl:k=x.uses.length:=by omega
      have hall3:=jX hall2
      have huse:x.uses.map (·.1)=rdV f g n:=by
       apply List.ext_getElem?
       intro q
       rw [zoA]
       by_cases hql:q<x.uses.length
       . rw [(hall3 q _ (zoj hql)).1,zoj hql];rfl
       . rw [zoH (by omega),zoH (by omega)];rfl
      have hnode:NodF f g s (rdV f g) n x:=⟨hphi,hd1,hd2,huse,fun u hu=>by obtain⟨q,hq⟩:=List.mem_iff_getElem?.1 hu;exact (hall3 q u hq).2⟩
      have hnx:=xe hnod he_x hnode
      refine Va 10 O (by omega) ?_
      refine V.back (n+1) (Sub.of O) (Has.of O) (⟨by omega,hnx⟩) (by first | omega | (dsimp only;omega)) 1 O O
  ·
   obtain rfl:n=s.nodes.length:=by omega
   have hNod:=jX hnod
   have hcnt:∀ a,(LP s s.nodes.length).count a=(xG f g s).count a:=fun a=>by rw [hlen];exact zhP hlen hNod a
   refine Vs 15 O ?_
   refine znd (σ:=Nat) [9] [] [] O (fun e k=>(20,.int .i64 k)::e) (fun e k=>(86,.row 3 1 (.slice (some ⟨b86,0,none⟩) m m) m ((zcd (LP s s.nodes.length) m).map zc))::e) (fun k=>f.vars.length<=k/\∀ j:Nat,f.vars.length<=j->j<k->(xG f g s).count (j:Int)=1) (fun k=>m - k) (f.vars.length) (Sub.of O) (Has.of O) (fun _=>rfl) (fun _=>rfl) (fun _=>rfl) (⟨zoI _,fun j h1 h2=>by omega⟩) ?_
   rintro k ⟨hk1,hone⟩
   refine Vs 9 O ?_
   refine zkG O (fun lk=>?_) (fun lk=>?_)
   ·
    refine Va 9 O (by omega) ?_
    refine zmW 86 (k) tg3 O (by omega) (show _=some (Value.int .i64 (((LP s s.nodes.length).count (k:Int):Nat):Int)) by rw [zoA,jY (by omega)];rfl) ?_
    refine Vs 3 O ?_
    refine zkG O (fun e1=>?_) (fun e1=>?_)
    ·
     have hb:¬ FormF f g s (rdV f g):=fun h=>e1 (by rw [hcnt,h.one k hk1 (by omega)];rfl)
     refine Vs 11 O ?_
     refine zkW Tryz.results34 O (fun w hI=>⟨_,rfl,⟨_,rfl,hno hb⟩,hI.k0⟩)
    ·
     have hnx:∀ j:Nat,f.vars.length<=j->j<k+1->(xG f g s).count (j:Int)=1:=fun j h1 h2=>by
      by_cases e:j=k
      . subst e;rw [<- hcnt];omega
      . exact hone j h1 (by omega)
     refine Va 8 O (by omega) ?_
     refine V.back (k+1) (Sub.of O) (Has.of O) (⟨by omega,hnx⟩) (by first | omega | (dsimp only;omega)) 0 O O
   ·
    have hF:FormF f g s (rdV f g):=⟨hOf,hlen,hNod,fun j h1 h2=>hone j h1 (by omega)⟩
    refine Vs 11 O ?_
    refine zkW Tryz.results34 O (fun w hI=>⟨_,rfl,⟨_,rfl,⟨fun _=>hF,fun _=>rfl⟩⟩,hI.k0⟩)
theorem zoV {g:List Nd} {s:Sf} {O_q O':Nat->Int->Int} {v:Int} (h:∀ y,y<g.length->O_q y v=O' y v) {i:Nat}:eqV g s O_q i v=eqV g s O' i v:=by
 unfold eqV
 split
 . rfl
 ·
  split
  . rfl
  ·
   congr 1
   exact List.map_congr_left fun y hy=>h y (qp hy)
structure FlwV (f:Fl) (g:List Nd) (s:Sf) (nv:Nat) (I O_q:Nat->Int->Int):Prop where
 snd:∀ i,i<g.length->∀ v:Int,0<=v->v<(nv:Int)->SndV (RV f g s v i) (I i v)
 out:∀ i,i<g.length->∀ v:Int,0<=v->v<(nv:Int)->O_q i v=-1\/O_q i v=yP f g s I i v
 le:∀ i,i<g.length->∀ v:Int,0<=v->v<(nv:Int)->LeV (I i v) (eqV g s O_q i v)
section
variable {f:Fl} {g:List Nd} {s:Sf} {nv:Nat} {I O_q:Nat->Int->Int}
theorem FlwV.start (h:∀ i v,I i v=-1) (h':∀ i v,O_q i v=-1):FlwV f g s nv I O_q :=
 ⟨fun i _ v _ _=>.inl (h i v),fun i _ v _ _=>.inl (h' i v),fun i _ v _ _=>by rw [h];exact .inl rfl⟩
theorem FlwV.stay (h:FlwV f g s nv I O_q) {i:Nat} (hi:i<g.length) {v:Int} (hv:0<=v) (hn:v<(nv:Int)):(if I i v=-2 then -2 else eqV g s O_q i v)=eqV g s O_q i v:=by
 split
 ·
  rename_i e
  have:=h.le i hi v hv hn
  unfold LeV at this
  omega
 . rfl
theorem FlwV.next (hs:NnS f g s) (h:FlwV f g s nv I O_q) {i:Nat} (hi:i<g.length) {v:Int} (hv:0<=v) (hn:v<(nv:Int)) :
  FlwV f g s nv (zh2 I i v (eqV g s O_q i v)) (zh2 O_q i v (if jp f g i=v then (zk s i).dfn else eqV g s O_q i v))/\LeV (O_q i v) (if jp f g i=v then (zk s i).dfn else eqV g s O_q i v):=by
 have hle:=h.le i hi v hv hn
 have hup:LeV (O_q i v) (if jp f g i=v then (zk s i).dfn else eqV g s O_q i v):=by
  rcases h.out i hi v hv hn with e | e
  . exact .inl e
  ·
   rw [e]
   unfold yP
   split
   . exact LeV.refl _
   . exact hle
 have hO:∀ j,j<g.length->∀ u:Int,0<=u->u<(nv:Int)->LeV (O_q j u) (zh2 O_q i v (if jp f g i=v then (zk s i).dfn else eqV g s O_q i v) j u):=fun j hj u hu hun=>by
  unfold zh2
  split
  . rename_i e;obtain⟨rfl,rfl⟩:=e;exact hup
  . exact LeV.refl _
 refine⟨⟨fun j hj u hu hun=>?_,fun j hj u hu hun=>?_,fun j hj u hu hun=>?_⟩,hup⟩
 ·
  by_cases e:j=i/\u=v
  ·
   obtain⟨rfl,rfl⟩:=e
   rw [show zh2 I j u (eqV g s O_q j u) j u=eqV g s O_q j u from zou ⟨rfl,rfl⟩]
   unfold eqV
   split
   . rename_i h0;subst h0;exact .inr (.inl ⟨hu,.ini⟩)
   ·
    rename_i h0
    split
    . rename_i k hk;exact .inr (.inl ⟨hs.phi _ _ _ hk,.phi h0 hk⟩)
    ·
     rename_i hk
     refine zhv fun x hx=>?_
     obtain⟨y,hy,rfl⟩:=List.mem_map.1 hx
     rcases h.out y (qp hy) u hu hun with e | e
     . exact .inl e
     ·
      rw [e]
      unfold yP
      split
      . rename_i hd;exact .inr (.inl ⟨hs.dfn _ (qp hy) (by omega),.dfn h0 hk hy hd⟩)
      . rename_i hd;exact (h.snd y (qp hy) u hu hun).imp fun k hk2=>.pass h0 hk hy hd hk2
  ·
   rw [show zh2 I i v (eqV g s O_q i v) j u=I j u from zot e]
   exact h.snd j hj u hu hun
 ·
  by_cases e:j=i/\u=v
  ·
   obtain⟨rfl,rfl⟩:=e
   right
   unfold yP zh2
   simp
  ·
   rw [show zh2 O_q i v (if jp f g i=v then (zk s i).dfn else eqV g s O_q i v) j u=O_q j u from zot e]
   rcases h.out j hj u hu hun with e2 | e2
   . exact .inl e2
   ·
    right
    rw [e2]
    unfold yP
    rw [show zh2 I i v (eqV g s O_q i v) j u=I j u from zot e]
 ·
  have hm:LeV (eqV g s O_q j u) (eqV g s (zh2 O_q i v (if jp f g i=v then (zk s i).dfn else eqV g s O_q i v)) j u):=zj3 fun y hy=>hO y hy u hu hun
  by_cases e:j=i/\u=v
  ·
   obtain⟨rfl,rfl⟩:=e
   rw [show zh2 I j u (eqV g s O_q j u) j u=eqV g s O_q j u from zou ⟨rfl,rfl⟩]
   exact hm
  ·
   rw [show zh2 I i v (eqV g s O_q i v) j u=I j u from zot e]
   exact (h.le j hj u hu hun).trans hm
theorem FlwV.congr {I' O':Nat->Int->Int} (h:FlwV f g s nv I O_q) (he:∀ i,i<g.length->∀ v:Int,0<=v->v<(nv:Int)->I i v=I' i v) (he':∀ i,i<g.length->∀ v:Int,0<=v->v<(nv:Int)->O_q i v=O' i v):FlwV f g s nv I' O' :=
 ⟨fun i hi v hv hn=>he i hi v hv hn ▸ h.snd i hi v hv hn,fun i hi v hv hn=>by
  rw [<- he' i hi v hv hn]
  rcases h.out i hi v hv hn with e | e
  . exact .inl e
  . right;rw [e];unfold yP;rw [he i hi v hv hn],fun i hi v hv hn=>by
  rw [<- he i hi v hv hn,<- zoV fun y hy=>he' y hy v hv hn]
  exact h.le i hi v hv hn⟩
theorem FlwV.done (h:FlwV f g s nv I O_q) (hd:∀ i,i<g.length->∀ v:Int,0<=v->v<(nv:Int)->I i v=eqV g s O_q i v/\O_q i v=yP f g s I i v):SolV f g s nv I :=
 ⟨h.snd,fun i hi v hv hn=>by
  rw [(hd i hi v hv hn).1]
  exact zoV fun y hy=>(hd y hy v hv hn).2⟩
end
structure PasF (f:Fl) (g:List Nd) (s:Sf) (nv:Nat) (i0 o0 ins outs:List (List Int)) (ch:Bool) (dn:Nat->Nat->Prop):Prop where
 shi:Shp ins g.length nv
 sho:Shp outs g.length nv
 run:FlwV f g s nv (bfV ins) (bfV outs)
 no:ch=false->(ins=i0/\outs=o0)/\∀ i v,dn i v->bfV i0 i (v:Int)=eqV g s (bfV o0) i v/\bfV o0 i v=yP f g s (bfV i0) i v
 yes:ch=true->rkT i0+rkT o0<rkT ins+rkT outs
section
variable {f:Fl} {g:List Nd} {s:Sf} {nv:Nat} {i0 o0 ins outs:List (List Int)} {ch:Bool} {dn dn':Nat->Nat->Prop}
theorem PasF.start (h1:Shp ins g.length nv) (h2:Shp outs g.length nv) (h3:FlwV f g s nv (bfV ins) (bfV outs)) (hd:∀ i v,¬ dn i v):PasF f g s nv ins outs ins outs false dn:=⟨h1,h2,h3,fun _=>⟨⟨rfl,rfl⟩,fun i v h=>absurd h (hd i v)⟩,fun h=>by cases h⟩
theorem PasF.imp (h:PasF f g s nv i0 o0 ins outs ch dn) (hd:∀ i v,dn' i v->dn i v):PasF f g s nv i0 o0 ins outs ch dn':=⟨h.shi,h.sho,h.run,fun e=>⟨(h.no e).1,fun i v hv=>(h.no e).2 i v (hd i v hv)⟩,h.yes⟩
theorem PasF.skip (h:PasF f g s nv i0 o0 ins outs ch dn) {i v:Nat} (h1:bfV ins i (v:Int)=eqV g s (bfV outs) i v) (h2:bfV outs i v=if jp f g i=(v:Int) then (zk s i).dfn else eqV g s (bfV outs) i v) (hd:∀ j u,dn' j u->dn j u\/(j=i/\u=v)):PasF f g s nv i0 o0 ins outs ch dn' :=
 ⟨h.shi,h.sho,h.run,fun e=>by
  obtain⟨⟨e1,e2⟩,h4⟩:=h.no e
  refine⟨⟨e1,e2⟩,fun j u hju=>?_⟩
  rcases hd j u hju with h3 | ⟨rfl,rfl⟩
  . exact h4 j u h3
  ·
   rw [<- e1,<- e2]
   refine⟨h1,h2.trans ?_⟩
   unfold yP
   rw [h1],h.yes⟩
theorem PasF.set (hs:NnS f g s) (h:PasF f g s nv i0 o0 ins outs ch dn) {i v:Nat} (hi:i<g.length) (hv:v<nv)
  (hn:¬ (bfV ins i (v:Int)=eqV g s (bfV outs) i v/\bfV outs i v=if jp f g i=(v:Int) then (zk s i).dfn else eqV g s (bfV outs) i v)):PasF f g s nv i0 o0 (zem ins i v (eqV g s (bfV outs) i v)) (zem outs i v (if jp f g i=(v:Int) then (zk s i).dfn else eqV g s (bfV outs) i v)) true dn':=by
 obtain⟨r,hr,hl⟩:=h.shi.at hi
 obtain⟨q,hq,hql⟩:=h.sho.at hi
 have ho:=zoj (show v<r.length by omega)
 have hqo:=zoj (show v<q.length by omega)
 have hb:=zgk hr ho
 have hqb:=zgk hq hqo
 obtain⟨hnx,hup⟩:=h.run.next hs hi (v:=(v:Int)) (by omega) (by omega)
 have hle:=h.run.le i hi (v:Int) (by omega) (by omega)
 have h1:=zjQ (x:=eqV g s (bfV outs) i v) hr ho
 have h2:=zjQ (x:=if jp f g i=(v:Int) then (zk s i).dfn else eqV g s (bfV outs) i v) hq hqo
 rw [<- hb] at h1
 rw [<- hqb] at h2
 have mono:∀ {a b:Int},LeV a b->zb0 a<=zb0 b:=fun {a b} hab=>by
  by_cases e:b=a
  . rw [e];exact zoI _
  . exact Nat.le_of_lt (zj4 hab e)
 have hrk:zb0 (bfV ins i v)+zb0 (bfV outs i v)<zb0 (eqV g s (bfV outs) i v)+zb0 (if jp f g i=(v:Int) then (zk s i).dfn else eqV g s (bfV outs) i v):=by
  have m1:=mono hle
  have m2:=mono hup
  by_cases e1:eqV g s (bfV outs) i v=bfV ins i v
  ·
   by_cases e2:(if jp f g i=(v:Int) then (zk s i).dfn else eqV g s (bfV outs) i v)=bfV outs i v
   . exact absurd ⟨e1.symm,e2.symm⟩ hn
   . have:=zj4 hup e2;omega
  . have:=zj4 hle e1;omega
 refine⟨h.shi.set hi _,h.sho.set hi _,hnx.congr (fun j _ u hu _=>(ziE h.shi hi hv _ hu).symm) (fun j _ u hu _=>(ziE h.sho hi hv _ hu).symm),fun e=>(by cases e),fun _=>?_⟩
 cases ch with
 | false=>obtain⟨⟨e1,e2⟩,_⟩:=h.no rfl;rw [<- e1,<- e2];omega
 | true=>have:=h.yes rfl;omega
theorem PasF.done (h:PasF f g s nv i0 o0 ins outs false dn) (hd:∀ i v,i<g.length->v<nv->dn i v):SolV f g s nv (bfV ins)/\∀ i,i<g.length->∀ v:Int,0<=v->v<(nv:Int)->bfV outs i v=yP f g s (bfV ins) i v:=by
 obtain⟨⟨e1,e2⟩,h4⟩:=h.no rfl
 have h5:∀ i,i<g.length->∀ v:Int,0<=v->v<(nv:Int)->bfV ins i v=eqV g s (bfV outs) i v/\bfV outs i v=yP f g s (bfV ins) i v:=fun i hi v hv hn=>by
  have:=h4 i v.toNat (hd i v.toNat hi (by omega))
  rw [Int.toNat_of_nonneg hv,<- e1,<- e2] at this
  exact this
 exact⟨h.run.done h5,fun i hi v hv hn=>(h5 i hi v hv hn).2⟩
end
open Go.GL
theorem zp9 {nv k:Nat} (h:k<nv):(List.replicate k (-1:Int)++List.replicate (nv - k) 0).set k (-1)=List.replicate (k+1) (-1)++List.replicate (nv - (k+1)) 0:=by
 rw [List.set_append_right _ _ (by rw [List.length_replicate];exact zoI _),List.length_replicate,Nat.sub_self,show nv - k=(nv - (k+1))+1 by omega,List.replicate_succ,List.set_cons_zero,List.replicate_succ',List.append_assoc]
 rfl
def zkC (nv i:Nat):List (List Int):=List.replicate i (List.replicate nv (-1))
theorem zoS (nv i:Nat):zkC nv (i+1)=zkC nv i++[List.replicate nv (-1)]:=List.replicate_succ'
theorem zp2 (nv N:Nat):Shp (zkC nv N) N nv:=⟨by simp [zkC],fun r hr=>by rw [(List.mem_replicate.1 hr).2];simp⟩
theorem zoX {nv N i:Nat} {v:Int}:bfV (zkC nv N) i v=-1:=by
 unfold bfV zkC
 rw [List.getElem?_replicate]
 split
 ·
  rw [Option.getD_some,List.getElem?_replicate]
  split <;> rfl
 . rfl
def xPh (l:List Phn) (b v:Int):Int:=(zh1 l v).getD b
theorem zoW {l:List Phn} {p:Phn} {v:Int} (h:p.var ≠ v):zh1 (l++[p]) v=zh1 l v:=by
 unfold zh1
 rw [List.find?_append,List.find?_cons_of_neg (by simpa using h),List.find?_nil,Option.or_none]
theorem zpc {x:Sn} {k:Nat} {p:Phn} {b v:Int} (hp:x.phis[k]?=some p) (h:p.var ≠ v):xPh (x.phis.take (k+1)) b v=xPh (x.phis.take k) b v:=by
 unfold xPh
 rw [zd hp,zoW h]
theorem zpa {x:Sn} (ha:x.phis.Pairwise fun p q=>p.var<q.var) {k:Nat} {p:Phn} {b v:Int} (hp:x.phis[k]?=some p) (h:p.var=v):xPh (x.phis.take (k+1)) b v=p.ver:=by
 have hm:p ∈ x.phis.take (k+1):=by rw [zd hp];simp
 have ht:(x.phis.take (k+1)).Pairwise fun p q=>p.var<q.var:=ha.sublist (List.take_sublist _ _)
 unfold xPh
 rw [<- h,zp4 ht hm];rfl
theorem zpb {g:List Nd} {s:Sf} {O_q:Nat->Int->Int} {n:Nat} {x:Sn} {v:Int} (hx:zk s n=x) (h0:n=0->x.phis=[]):xPh x.phis (if n=0 then v else kW ((qa g n).map fun y:Nat=>O_q y v)) v=eqV g s O_q n v:=by
 unfold xPh eqV zfj
 rw [hx]
 by_cases e:n=0
 . rw [zou e,zou e,h0 e];rfl
 ·
  rw [zot e,zot e]
  cases zh1 x.phis v <;> rfl
theorem zp7 (f:Fl) (g:List Nd) (s:Sf) (hk:GOk f g) (hF:FormF f g s (rdV f g)) (hz:ssize f.body<=10000) (hg1:1<=g.length) (hgl:g.length<=100000) (hvl:f.vars.length<=1000) (v1 v2 v3 gv ofv nodv:Value) (D:Nat->Prop) (W:World) (hf:RFl D W f v1 v2 v3) (hg:SlR 4 RNd D W gv g) (hS:RSf D W s ofv nodv) :
  Calls Tryz.prog 35 #[.agg #[v1,v2,v3],.agg #[gv],.agg #[ofv,nodv]] W (Ret fun r w'=>(∃ u1 u2 ins outs,r=.tuple #[u1,u2]/\Shp ins g.length f.vars.length/\Shp outs g.length f.vars.length/\SolV f g s f.vars.length (bfV ins)/\(∀ i,i<g.length->∀ v:Int,0<=v->v<(f.vars.length:Int)->bfV outs i v=yP f g s (bfV ins) i v)/\SlR 1 (RSl 1 yj) (fun q=>W.heap.size<=q) w' u1 ins/\SlR 1 (RSl 1 yj) (fun q=>W.heap.size<=q) w' u2 outs)/\Ext W w'):=by
 have hf0:=hf
 have hg0:=hg
 have hS0:=hS
 have hfv:=hf.vars
 have hnd:=hS.nodes
 obtain⟨ag,cg,rfl⟩:=hg.form
 obtain⟨an,cn,rfl⟩:=hnd.form
 obtain⟨a1,c1,rfl⟩:=hfv.form
 have hnm:=hnd.max
 have hgm:=hg.max
 have hlen:=hF.len
 have hnn:=hF.nn
 have hbl:g.length*(f.vars.length*2)<=100000*(1000*2):=Nat.mul_le_mul hgl (by omega)
 generalize hnv:f.vars.length=nv at *
 generalize hN:g.length=N at *
 refine zmw Tryz.func35 O Tryz.ntmps35 O (zmE ?_)
 refine Vs 2 O ?_
 refine V.box 3 O O (fun b3=>?_)
 refine V.box 4 O O (fun b4=>?_)
 refine V.box 5 O O (fun b5=>?_)
 refine Vs 6 O ?_
 refine zmR 903 27 1 O ?_
 refine zmR 905 27 1 O ?_
 refine zmR 902 3 1 O ?_
 refine znH 902 (e':=RowsP zc 3 [] []) O (fun w hI=>RowsOk.nil) RowsP.loc (fun _ h=>h) (fun q hq=>by obtain⟨i,u,h,_⟩:=hq;simp at h) ?_
 refine zmR 904 3 1 O ?_
 refine znH 904 (e':=RowsP zc 3 [] []) O (fun w hI=>RowsOk.nil) RowsP.loc (fun _ h=>h) (fun q hq=>by obtain⟨i,u,h,_⟩:=hq;simp at h) ?_
 refine Vs 8 O ?_
 refine znd (σ:=Nat × Value × Value × List Value × List Value) [3,4,5,22] [3,4,5] [3,4,5] O (fun e ⟨i,ui,uo,hi,ho⟩=>(23,.int .i64 i)::(6,ui)::(7,uo)::e) (fun e ⟨i,ui,uo,hi,ho⟩=>(903,.row 27 1 ui i hi)::(902,RowsP zc 3 hi (zkC nv i))::(905,.row 27 1 uo i ho)::(904,RowsP zc 3 ho (zkC nv i))::e) (fun⟨i,ui,uo,hi,ho⟩=>i<=N/\hi.length=i/\ho.length=i) (fun⟨i,ui,uo,hi,ho⟩=>N - i) ((0,.slice none 0 0,.slice none 0 0,[],[])) (Sub.of O) (Has.of O) (fun _=>rfl) (fun _=>rfl) (fun _=>rfl) (⟨zoy _,rfl,rfl⟩) ?_
 rintro⟨i,ui,uo,hi,ho⟩ ⟨hiN,hhi,hho⟩
 show V _ _ _ _ _ ((23,.int .i64 i)::(6,ui)::(7,uo)::_) _ ((903,.row 27 1 ui i hi)::(902,RowsP zc 3 hi (zkC nv i))::(905,.row 27 1 uo i ho)::(904,RowsP zc 3 ho (zkC nv i))::_) _
 refine Vs 6 O ?_
 refine zkG O (fun lt=>?_) (fun lt=>?_)
 ·
  refine Vs 5 O ?_
  refine zne (σ:=Nat × Nat) [3,4,5,6,7,22,23] [3,4,5,902,903,904,905] [3,4,5] O (fun e ⟨b28,b32⟩=>(8,.slice (some ⟨b28,0,none⟩) nv nv)::(9,.slice (some ⟨b32,0,none⟩) nv nv)::e) (fun e ⟨b28,b32⟩=>(28,.row 3 1 (.slice (some ⟨b28,0,none⟩) nv nv) nv (List.replicate nv (Value.int .i64 0)))::(32,.row 3 1 (.slice (some ⟨b32,0,none⟩) nv nv) nv (List.replicate nv (Value.int .i64 0)))::e) (fun⟨b28,b32⟩=>True) (fun _=>rfl) (fun _=>rfl) ?_ ?_
  ·
   refine Vw [3,4,5] [] O ?_
   refine Vd [0,1,2,4,5,6] 0 (by kernel_rfl) O O O ?_
   refine znM 3 7 28 32 0 tu27 Tryz.el3 tu27 Tryz.el3 O (by kernel_rfl) O O O O (⟨by omega,by omega,by omega,by omega⟩) ((by exact qw _ _ O:madeCells _ _=(List.replicate nv (Value.int .i64 0)).toArray)) ((by exact qw _ _ O:madeCells _ _=(List.replicate nv (Value.int .i64 0)).toArray)) (by simp) (fun b28=>?_) (fun b32=>?_)
   ·
    refine Vd [8] 0 (by kernel_rfl) O O O ?_
    refine zlA 7 32 0 tu27 Tryz.el3 O (by kernel_rfl) O O (by omega) (by omega) ((by exact qw _ _ O:madeCells _ _=(List.replicate nv (Value.int .i64 0)).toArray)) (by simp) (fun b32=>?_)
    refine Vd [9] 0 (by kernel_rfl) O O O ?_
    refine VD.done (by kernel_rfl) ?_
    refine zkT (⟨b28,b32⟩) (Sub.of O) (Has.of O) (trivial) 0 O O
   ·
    refine zlA 3 28 0 tu27 Tryz.el3 O (by kernel_rfl) O O (by omega) (by omega) ((by exact qw _ _ O:madeCells _ _=(List.replicate nv (Value.int .i64 0)).toArray)) (by simp) (fun b28=>?_)
    refine Vd [8,9] 0 (by kernel_rfl) O O O ?_
    refine VD.done (by kernel_rfl) ?_
    refine zkT (⟨b28,b32⟩) (Sub.of O) (Has.of O) (trivial) 0 O O
  rintro⟨b28,b32⟩ _
  show V _ _ _ _ _ ((8,.slice (some ⟨b28,0,none⟩) nv nv)::(9,.slice (some ⟨b32,0,none⟩) nv nv)::_) _ ((28,.row 3 1 (.slice (some ⟨b28,0,none⟩) nv nv) nv (List.replicate nv (Value.int .i64 0)))::(32,.row 3 1 (.slice (some ⟨b32,0,none⟩) nv nv) nv (List.replicate nv (Value.int .i64 0)))::_) _
  refine Vs 9 O ?_
  refine znc 28 O (e':=.row 3 1 (.slice (some ⟨b28,0,none⟩) nv nv) nv ((List.replicate 0 (-1)++List.replicate (nv - 0) 0).map zc)) (by simp [zc]) ?_
  refine znc 32 O (e':=.row 3 1 (.slice (some ⟨b32,0,none⟩) nv nv) nv ((List.replicate 0 (-1)++List.replicate (nv - 0) 0).map zc)) (by simp [zc]) ?_
  refine Vs 1 O ?_
  refine znd (σ:=Nat) [3,4,5,6,7,8,9,22,23,34] [3,4,5,902,903,904,905] [3,4,5] O (fun e k=>(35,.int .i64 k)::e) (fun e k=>(28,.row 3 1 (.slice (some ⟨b28,0,none⟩) nv nv) nv ((List.replicate k (-1)++List.replicate (nv - k) 0).map zc))::(32,.row 3 1 (.slice (some ⟨b32,0,none⟩) nv nv) nv ((List.replicate k (-1)++List.replicate (nv - k) 0).map zc))::e) (fun k=>k<=nv) (fun k=>nv - k) (0) (Sub.of O) (Has.of O) (fun _=>rfl) (fun _=>rfl) (fun _=>rfl) (zoy _) ?_
  rintro k hkk
  refine Vs 6 O ?_
  refine zkG O (fun lk=>?_) (fun lk=>?_)
  ·
   have hst:=zp9 (show k<nv by omega)
   refine Va 16 O (by omega) ?_
   refine zmX 28 (k) ts3 O (by omega) (by simp;omega) ?_
   refine Va 1 O (by omega) ?_
   refine zmX 32 (k) ts3 O (by omega) (by simp;omega) ?_
   refine znc 28 O (e':=.row 3 1 (.slice (some ⟨b28,0,none⟩) nv nv) nv ((List.replicate (k+1) (-1)++List.replicate (nv - (k+1)) 0).map zc)) (by rw [<- hst,List.map_set]) ?_
   refine znc 32 O (e':=.row 3 1 (.slice (some ⟨b32,0,none⟩) nv nv) nv ((List.replicate (k+1) (-1)++List.replicate (nv - (k+1)) 0).map zc)) (by rw [<- hst,List.map_set]) ?_
   refine Va 7 O (by omega) ?_
   refine V.back (k+1) (Sub.of O) (Has.of O) (by omega) (by first | omega | (dsimp only;omega)) 0 O O
  ·
   obtain rfl:k=nv:=by omega
   refine znc 28 O (e':=.row 3 1 (.slice (some ⟨b28,0,none⟩) k k) (List.replicate k (-1:Int)).length ((List.replicate k (-1:Int)).map zc)) (by rw [Nat.sub_self,List.replicate_zero,List.append_nil,List.length_replicate]) ?_
   refine znc 32 O (e':=.row 3 1 (.slice (some ⟨b32,0,none⟩) k k) (List.replicate k (-1:Int)).length ((List.replicate k (-1:Int)).map zc)) (by rw [Nat.sub_self,List.replicate_zero,List.append_nil,List.length_replicate]) ?_
   refine Vs 8 O ?_
   refine V.bs 47 [(0,_)] tR89 ts27 tz27 (by decide) O O (by kernel_rfl) (fun b47=>?_)
   refine zmS 903 47 tu89 Tryz.el27 O (by decide) O O (by omega) (by omega) (fun u903=>?_)
   refine Vs 2 O ?_
   refine V.bs 51 [(0,_)] tR89 ts27 tz27 (by decide) O O (by kernel_rfl) (fun b51=>?_)
   refine zmS 905 51 tu89 Tryz.el27 O (by decide) O O (by omega) (by omega) (fun u905=>?_)
   refine Va 9 O (by omega) ?_
   refine znU 902 28 (e':=RowsP zc 3 (hi++[Value.slice (some ⟨b28,0,none⟩) k k]) (zkC k (i+1))) [(3,some (3,0)),(4,some (4,0)),(5,some (5,0))] O O O (fun w hI=>(by rw [zoS];exact (show RowsOk _ _ _ _ _ from hI.at 902 O).add (hI.at 28 O) (fun g hg i v hv hvg=>hI.sep (k:=902) (k2:=28) O O (by decide) ⟨i,v,hv,hvg⟩ hg))) (RowsP.loc) (fun _ h=>h) (fun q (hq:∃ (i:Nat) (v:Value),(hi++[Value.slice (some ⟨b28,0,none⟩) k k])[i]?=some v/\v.ownBlock=some q)=>zjR hq) ?_
   refine znU 904 32 (e':=RowsP zc 3 (ho++[Value.slice (some ⟨b32,0,none⟩) k k]) (zkC k (i+1))) [(3,some (3,0)),(4,some (4,0)),(5,some (5,0))] O O O (fun w hI=>(by rw [zoS];exact (show RowsOk _ _ _ _ _ from hI.at 904 O).add (hI.at 32 O) (fun g hg i v hv hvg=>hI.sep (k:=904) (k2:=32) O O (by decide) ⟨i,v,hv,hvg⟩ hg))) (RowsP.loc) (fun _ h=>h) (fun q (hq:∃ (i:Nat) (v:Value),(ho++[Value.slice (some ⟨b32,0,none⟩) k k])[i]?=some v/\v.ownBlock=some q)=>zjR hq) ?_
   refine V.back (⟨i+1,u903,u905,hi++[.slice (some ⟨b28,0,none⟩) k k],ho++[.slice (some ⟨b32,0,none⟩) k k]⟩) (Sub.of O) (Has.of O) (⟨by omega,by rw [zor,hhi];rfl,by rw [zor,hho];rfl⟩) (by first | omega | (dsimp only;omega)) 0 O O
 ·
  obtain rfl:i=N:=by omega
  have hsI:Shp (zkC nv i) g.length nv:=by rw [hN];exact zp2 nv i
  refine zmU 903 O (by omega) ?_
  rintro oi ci rfl hcap_903
  refine zmU 905 O (by omega) ?_
  rintro oo cu rfl hcap_905
  refine Vs 12 O ?_
  refine znd (σ:=Bool × List (List Int) × List (List Int)) [3,4,5,6,7] [3,4,5,903,905] [3,4,5] O (fun e ⟨ch,ri,ro⟩=>(11,.bool ch)::e) (fun e ⟨ch,ri,ro⟩=>(902,RowsP zc 3 hi ri)::(904,RowsP zc 3 ho ro)::e) (fun⟨ch,ri,ro⟩=>Shp ri g.length nv/\Shp ro g.length nv/\FlwV f g s nv (bfV ri) (bfV ro)/\(ch=false->SolV f g s nv (bfV ri)/\∀ j,j<g.length->∀ v:Int,0<=v->v<(nv:Int)->bfV ro j v=yP f g s (bfV ri) j v)) (fun⟨ch,ri,ro⟩=>(2*(g.length*(nv*2)) - (rkT ri+rkT ro))*2+ch.toNat) ((true,zkC nv i,zkC nv i)) (Sub.of O) (Has.of O) (fun _=>rfl) (fun _=>rfl) (fun _=>rfl) (⟨hsI,hsI,FlwV.start (fun _ _=>zoX) (fun _ _=>zoX),fun h=>by cases h⟩) ?_
  rintro⟨ch,ri,ro⟩ ⟨hsi,hso,hrun,hfin⟩
  show V _ _ _ _ _ ((11,.bool ch)::_) _ ((902,RowsP zc 3 hi ri)::(904,RowsP zc 3 ho ro)::_) _
  refine Vs 6 O ?_
  refine V.bool O (fun c1=>?_) (fun c1=>?_)
  ·
   subst c1
   refine Vs 17 O ?_
   refine znd (σ:=Nat × Bool × List (List Int) × List (List Int)) [3,4,5,6,7,57] [3,4,5,903,905] [3,4,5] O (fun e ⟨n,c2,qi_q,qo_q⟩=>(58,.int .i64 n)::(11,.bool c2)::e) (fun e ⟨n,c2,qi_q,qo_q⟩=>(902,RowsP zc 3 hi qi_q)::(904,RowsP zc 3 ho qo_q)::e) (fun⟨n,c2,qi_q,qo_q⟩=>n<=i/\PasF f g s nv ri ro qi_q qo_q c2 (fun a u=>a<n/\u<nv)) (fun⟨n,c2,qi_q,qo_q⟩=>i - n) ((0,false,ri,ro)) (Sub.of O) (Has.of O) (fun _=>rfl) (fun _=>rfl) (fun _=>rfl) (⟨zoy _,PasF.start hsi hso hrun (fun a u h=>by omega)⟩) ?_
   rintro⟨n,c2,qi_q,qo_q⟩ ⟨hn,hps⟩
   show V _ _ _ _ _ ((58,.int .i64 n)::(11,.bool c2)::_) _ ((902,RowsP zc 3 hi qi_q)::(904,RowsP zc 3 ho qo_q)::_) _
   refine Vs 6 O ?_
   refine zkG O (fun ln=>?_) (fun ln=>?_)
   ·
    have hng:n<g.length:=by omega
    obtain⟨x,he_x⟩:∃ x,s.nodes[n]?=some x:=⟨_,zoj (by omega)⟩
    have hnod:=hF.nod n x he_x
    have hxn:zk s n=x:=yO he_x
    refine Vs 19 O ?_
    refine znd (σ:=Nat × Bool × List (List Int) × List (List Int)) [3,4,5,6,7,12,57,58,63] [3,4,5,903,905] [3,4,5] O (fun e ⟨v,c3,ti,to⟩=>(64,.int .i64 v)::(11,.bool c3)::e) (fun e ⟨v,c3,ti,to⟩=>(902,RowsP zc 3 hi ti)::(904,RowsP zc 3 ho to)::e) (fun⟨v,c3,ti,to⟩=>v<=nv/\PasF f g s nv ri ro ti to c3 (fun a u=>(a<n/\u<nv)\/(a=n/\u<v))) (fun⟨v,c3,ti,to⟩=>nv - v) ((0,c2,qi_q,qo_q)) (Sub.of O) (Has.of O) (fun _=>rfl) (fun _=>rfl) (fun _=>rfl) (⟨zoy _,hps.imp (fun a u h=>by omega)⟩) ?_
    rintro⟨v,c3,ti,to⟩ ⟨hv0,hp3⟩
    show V _ _ _ _ _ ((64,.int .i64 v)::(11,.bool c3)::_) _ ((902,RowsP zc 3 hi ti)::(904,RowsP zc 3 ho to)::_) _
    refine Vs 6 O ?_
    refine zkG O (fun lv=>?_) (fun lv=>?_)
    ·
     have hto:to.length=i:=by have:=hp3.sho.len;omega
     have hti:ti.length=i:=by have:=hp3.shi.len;omega
     refine Vs 20 O ?_
     refine zn1 Tryz.call70 O (fun w hI=>zoQ g (by omega) n _ D w (Tr1 hI.k0 hg0)) ?_
     rintro pr w1 w2 hI1 hk12 hpr hlow
     obtain⟨apr,cpr,rfl⟩:=hpr.form
     have hprm:=hpr.max
     have hprn:(zca g n).length=(qa g n).length:=by simp [zca]
     generalize hPI:zca g n=pI at *
     refine Vs 5 O ?_
     refine znd (σ:=Nat) [3,4,5,6,7,11,12,13,57,58,63,64,69,70] [3,4,5,902,903,904,905] [3,4,5] O (fun e j=>(71,.int .i64 j)::(14,.int .i64 (kW (((qa g n).take j).map fun y:Nat=>bfV to y v)))::e) (fun e j=>e) (fun j=>j<=pI.length) (fun j=>pI.length - j) (0) (Sub.of O) (Has.of O) (fun _=>rfl) (fun _=>rfl) (fun _=>rfl) (zoy _) ?_
     rintro j hj
     refine Vs 6 O ?_
     refine zkG O (fun lj=>?_) (fun lj=>?_)
     ·
      refine Vs 6 O ?_
      obtain⟨y,he_y,hm_y⟩:=gE_ pI (j) (by omega)
      obtain⟨b_y,o_y,c_y,ha_y,hd_y,hc_y,hR_y⟩:=hpr.atD he_y
      obtain rfl:=hR_y
      refine znb 1000 0 O O (fun h_=>by have h1_:=hlow _ h_;have h2_:=hd_y;first | omega | exact h1_ h2_) hc_y ?_
      refine zmN 1000 tR27 ts3 O ha_y (by omega) (_) (rfl) O ?_
      obtain⟨m,rfl,hm1,hm2⟩:=zd2 (show (zca g n)[j]?=some y by rw [hPI];exact he_y)
      have hnx:kW (((qa g n).take (j+1)).map fun y:Nat=>bfV to y v)=xK (kW (((qa g n).take j).map fun y:Nat=>bfV to y v)) (bfV to m v):=by rw [zd hm1,List.map_append,List.map_singleton,zg2]
      obtain⟨r,her,hrl⟩:=hp3.sho.at hm2
      obtain⟨o,heo⟩:∃ z,r[v]?=some z:=⟨_,zoj (by omega)⟩
      rw [zgk her heo] at hnx
      obtain⟨hu,hru⟩:∃ z,ho[m]?=some z:=⟨_,zoj (by omega)⟩
      refine zmG (p:=∃ ao ch,hu=.slice ao r.length ch/\(0<r.length->∃ g,ao=some ⟨g,0,none⟩)) (fun w hI=>zgm (show RowsOk _ _ _ _ _ from hI.at 904 O) hru her) (fun hhd=>?_)
      obtain⟨ao,cu2,rfl,hhd'⟩:=hhd
      obtain⟨gu,rfl⟩:=hhd' (by omega)
      generalize kW (((qa g n).take j).map fun y:Nat=>bfV to y v)=ac at *
      refine Vs 4 O ?_
      refine zne (σ:=Unit) [3,4,5,6,7,11,12,13,57,58,63,64,69,70,71] [3,4,5,902,903,904,905] [3,4,5] O (fun e u=>(14,.int .i64 (xK ac o))::e) (fun e u=>e) (fun u=>True) (fun _=>rfl) (fun _=>rfl) ?_ ?_
      ·
       refine Va 6 O (by omega) ?_
       refine zmW 905 (m) tg27 O (by omega) (hru) ?_
       refine Vs 1 O ?_
       refine zml O (fun w hI=>zlh tR27 ts3 O O O (by omega)) ?_
       refine zml O (fun w hI=>R.load tg3 O (zgn (hI.at 904 O) hru her heo)) ?_
       refine Vs 2 O ?_
       refine V.sp 84 O (fun e1=>?_) (fun e1=>?_)
       ·
        refine Vs 16 O ?_
        refine zkT (()) (Sub.cons (by unfold xK;rw [zou (.inl e1)];rfl) (Sub.of O)) (Has.of O) (True.intro) 0 O O
       ·
        refine Va 3 O (by omega) ?_
        refine zmW 905 (m) tg27 O (by omega) (hru) ?_
        refine Vs 1 O ?_
        refine zml O (fun w hI=>zlh tR27 ts3 O O O (by omega)) ?_
        refine zml O (fun w hI=>R.load tg3 O (zgn (hI.at 904 O) hru her heo)) ?_
        refine Vs 6 O ?_
        refine zkG O (fun e2=>?_) (fun e2=>?_)
        ·
         refine Vs 2 O ?_
         refine zkT (()) (Sub.cons (by unfold xK;rw [zou (.inr e2)];rfl) (Sub.of O)) (Has.of O) (True.intro) 0 O O
        ·
         refine Vs 7 O ?_
         refine zkG O (fun e3=>?_) (fun e3=>?_)
         ·
          refine Va 4 O (by omega) ?_
          refine zmW 905 (m) tg27 O (by omega) (hru) ?_
          refine Vs 1 O ?_
          refine zml O (fun w hI=>zlh tR27 ts3 O O O (by omega)) ?_
          refine zml O (fun w hI=>R.load tg3 O (zgn (hI.at 904 O) hru her heo)) ?_
          refine Vs 3 O ?_
          refine zkT (()) (Sub.cons (by unfold xK;rw [zot (fun h=>h.elim e1 e2),zou e3];rfl) (Sub.of O)) (Has.of O) (True.intro) 0 O O
         ·
          refine Vs 4 O ?_
          refine zkT (()) (Sub.cons (by unfold xK;rw [zot (fun h=>h.elim e1 e2),zot e3];rfl) (Sub.of O)) (Has.of O) (True.intro) 0 O O
      rintro u -
      refine Va 6 O (by omega) ?_
      refine V.back (j+1) (Sub.cons (rfl) (Sub.cons (by rw [hnx];rfl) (Sub.of O))) (Has.of O) (by omega) (by omega) 0 O O
     ·
      obtain rfl:j=pI.length:=by omega
      have hmt:((qa g n).take pI.length)=qa g n:=List.take_of_length_le (by omega)
      have hend:=zpb (g:=g) (O_q:=bfV to) (v:=(v:Int)) hxn (fun e=>hnod.phi.zero e)
      generalize hbs:(if n=0 then (v:Int) else kW ((qa g n).map fun y:Nat=>bfV to y v))=bs at hend
      refine Vs 6 O ?_
      refine zne (σ:=Unit) [3,4,5,6,7,11,12,13,57,58,63,64] [3,4,5,902,903,904,905] [3,4,5] O (fun e u=>(14,.int .i64 bs)::e) (fun e u=>e) (fun u=>True) (fun _=>rfl) (fun _=>rfl) ?_ ?_
      ·
       refine Vs 6 O ?_
       refine zkG O (fun z0=>?_) (fun z0=>?_)
       ·
        refine Vs 4 O ?_
        refine zkT (()) (Sub.cons (by rw [<- hbs,zou (by omega)];rfl) (Sub.of O)) (Has.of O) (True.intro) 0 O O
       ·
        refine Vs 1 O ?_
        refine zkT (()) (Sub.cons (by rw [<- hbs,zot (by omega),hmt];rfl) (Sub.of O)) (Has.of O) (True.intro) 0 O O
      rintro u -
      refine Vs 7 O ?_
      obtain⟨x2,he_x2,hm_x2⟩:=gE_ s.nodes (n) (by omega)
      obtain⟨b_x2,o_x2,c_x2,ha_x2,_,hc_x2,hR_x2⟩:=hnd.at he_x2
      obtain⟨v1_x2,v2_x2,rfl,hp_x2,hu_x2⟩:=hR_x2
      obtain⟨a1_x2,n1_x2,rfl⟩:=hp_x2.form
      obtain⟨a2_x2,n2_x2,rfl⟩:=hu_x2.form
      refine zna 2000 1 O O hc_x2 ?_
      refine zmN 2000 tR28 ts59 O ha_x2 (by omega) (_) (rfl) O ?_
      obtain rfl:x2=x:=Option.some.inj (he_x2.symm.trans he_x)
      have hpm:=hp_x2.max
      refine Vs 7 O ?_
      refine znd (σ:=Nat) [3,4,5,6,7,11,12,13,57,58,63,64,114,115] [3,4,5,902,903,904,905] [3,4,5] O (fun e k=>(116,.int .i64 k)::(14,.int .i64 (xPh (x2.phis.take k) bs v))::e) (fun e k=>e) (fun k=>k<=x2.phis.length) (fun k=>x2.phis.length - k) (0) (Sub.of O) (Has.of O) (fun _=>rfl) (fun _=>rfl) (fun _=>rfl) (zoy _) ?_
      rintro k hkk
      refine Vs 6 O ?_
      refine zkG O (fun lk=>?_) (fun lk=>?_)
      ·
       refine Vs 6 O ?_
       obtain⟨p,he_p,hm_p⟩:=gE_ x2.phis (k) (by omega)
       obtain⟨b_p,o_p,c_p,ha_p,_,hc_p,hR_p⟩:=hp_x2.at he_p
       obtain⟨v1_p,v2_p,rfl,hf_p,hg_p⟩:=hR_p
       obtain⟨a1_p,n1_p,rfl⟩:=hf_p.form
       obtain⟨a2_p,n2_p,rfl⟩:=hg_p.form
       refine zna 3000 1 O O hc_p ?_
       refine zmN 3000 tR56 ts88 O ha_p (by omega) (_) (rfl) O ?_
       refine Vs 1 O ?_
       refine V.alloc 18 tz88 O O (fun b18=>?_)
       refine Vs 11 O ?_
       refine zkG O (fun e1=>?_) (fun e1=>?_)
       ·
        refine Va 11 O (by omega) ?_
        refine V.back (k+1) (Sub.cons (rfl) (Sub.cons (by rw [zpa hnod.phi.asc he_p e1];rfl) (Sub.of O))) (Has.of O) (by omega) (by omega) 0 O O
       ·
        refine Va 7 O (by omega) ?_
        refine V.back (k+1) (Sub.cons (rfl) (Sub.cons (by rw [zpc he_p e1];rfl) (Sub.of O))) (Has.of O) (by omega) (by omega) 0 O O
      ·
       obtain rfl:k=x2.phis.length:=by omega
       generalize hev:eqV g s (bfV to) n v=ex at hend
       refine V.eq 14 (v:=.int .i64 ex) O (by rw [zoo,hend]) ?_
       obtain⟨r1,her1,hrl1⟩:=hp3.shi.at hng
       obtain⟨o1,heo1⟩:∃ z,r1[v]?=some z:=⟨_,zoj (by omega)⟩
       obtain⟨r2,her2,hrl2⟩:=hp3.sho.at hng
       obtain⟨o2,heo2⟩:∃ z,r2[v]?=some z:=⟨_,zoj (by omega)⟩
       have hb1:=zgk her1 heo1
       have hb2:=zgk her2 heo2
       obtain⟨hu1,hru1⟩:∃ z,hi[n]?=some z:=⟨_,zoj (by omega)⟩
       refine zmG (p:=∃ ao ch,hu1=.slice ao r1.length ch/\(0<r1.length->∃ g,ao=some ⟨g,0,none⟩)) (fun w hI=>zgm (show RowsOk _ _ _ _ _ from hI.at 902 O) hru1 her1) (fun hd1=>?_)
       obtain⟨ao1,cu1,rfl,hd1'⟩:=hd1
       obtain⟨gu1,rfl⟩:=hd1' (by omega)
       obtain⟨hu2,hru2⟩:∃ z,ho[n]?=some z:=⟨_,zoj (by omega)⟩
       refine zmG (p:=∃ ao ch,hu2=.slice ao r2.length ch/\(0<r2.length->∃ g,ao=some ⟨g,0,none⟩)) (fun w hI=>zgm (show RowsOk _ _ _ _ _ from hI.at 904 O) hru2 her2) (fun hd2=>?_)
       obtain⟨ao2,cu2,rfl,hd2'⟩:=hd2
       obtain⟨gu2,rfl⟩:=hd2' (by omega)
       have hst:o1=-2 -> -2=ex:=fun e=>by
        have:=hp3.run.stay hng (v:=(v:Int)) (by omega) (by omega)
        rw [hb1,zou e,hev] at this
        exact this
       refine Vs 6 O ?_
       refine zne (σ:=Unit) [3,4,5,6,7,11,12,13,57,58,63,64] [3,4,5,902,903,904,905] [3,4,5] O (fun e u=>(14,.int .i64 ex)::e) (fun e u=>e) (fun u=>True) (fun _=>rfl) (fun _=>rfl) ?_ ?_
       ·
        refine Va 5 O (by omega) ?_
        refine zmW 903 (n) tg27 O (by omega) (hru1) ?_
        refine Vs 1 O ?_
        refine zml O (fun w hI=>zlh tR27 ts3 O O O (by omega)) ?_
        refine zml O (fun w hI=>R.load tg3 O (zgn (hI.at 902 O) hru1 her1 heo1)) ?_
        refine Vs 3 O ?_
        refine zkG O (fun e1=>?_) (fun e1=>?_)
        ·
         refine Vs 3 O ?_
         refine zkT (()) (Sub.cons (by rw [<- hst e1];rfl) (Sub.of O)) (Has.of O) (True.intro) 0 O O
        ·
         refine Vs 1 O ?_
         refine zkT (()) (Sub.of O) (Has.of O) (True.intro) 0 O O
       rintro u -
       generalize hyv:(if jp f g n=(v:Int) then x2.dfn else ex)=yv_q
       refine Vs 8 O ?_
       refine zne (σ:=Unit) [3,4,5,6,7,11,12,13,14,57,58,63,64] [3,4,5,902,903,904,905] [3,4,5] O (fun e u=>(19,.int .i64 yv_q)::e) (fun e u=>e) (fun u=>True) (fun _=>rfl) (fun _=>rfl) ?_ ?_
       ·
        refine Vs 5 O ?_
        refine zmZ Tryz.call23 O (fun w hI=>zjb f g hk hz n hng _ _ _ _ D D w (Tr1 hI.k1 hf0) (Tr1 hI.k1 hg0)) ?_
        refine Vs 4 O ?_
        refine zkG O (fun d=>?_) (fun d=>?_)
        ·
         refine Vs 4 O ?_
         obtain⟨x3,he_x3,hm_x3⟩:=gE_ s.nodes (n) (by omega)
         obtain⟨b_x3,o_x3,c_x3,ha_x3,_,hc_x3,hR_x3⟩:=hnd.at he_x3
         obtain⟨v1_x3,v2_x3,rfl,hp_x3,hu_x3⟩:=hR_x3
         obtain⟨a1_x3,n1_x3,rfl⟩:=hp_x3.form
         obtain⟨a2_x3,n2_x3,rfl⟩:=hu_x3.form
         refine zna 4000 1 O O hc_x3 ?_
         refine zmN 4000 tR28 ts59 O ha_x3 (by omega) (_) (rfl) O ?_
         obtain rfl:x3=x2:=Option.some.inj (he_x3.symm.trans he_x2)
         refine Vs 4 O ?_
         refine zkT (()) (Sub.cons (by rw [<- hyv,zou d];rfl) (Sub.of O)) (Has.of O) (True.intro) 0 O O
        ·
         refine Vs 1 O ?_
         refine zkT (()) (Sub.cons (by rw [<- hyv,zot d];rfl) (Sub.of O)) (Has.of O) (True.intro) 0 O O
       rintro u -
       refine Vs 1 O ?_
       refine zne (σ:=Bool × List (List Int) × List (List Int)) [3,4,5,6,7,12,57,58,63,64] [3,4,5,903,905] [3,4,5] O (fun e ⟨c3,ti,to⟩=>(11,.bool c3)::e) (fun e ⟨c3,ti,to⟩=>(902,RowsP zc 3 hi ti)::(904,RowsP zc 3 ho to)::e) (fun⟨c3,ti,to⟩=>PasF f g s nv ri ro ti to c3 (fun a u=>(a<n/\u<nv)\/(a=n/\u<v+1))) (fun _=>rfl) (fun _=>rfl) ?_ ?_
       ·
        refine Va 5 O (by omega) ?_
        refine zmW 903 (n) tg27 O (by omega) (hru1) ?_
        refine Vs 1 O ?_
        refine zml O (fun w hI=>zlh tR27 ts3 O O O (by omega)) ?_
        refine zml O (fun w hI=>R.load tg3 O (zgn (hI.at 902 O) hru1 her1 heo1)) ?_
        refine Vs 3 O ?_
        refine V.sp 157 O (fun m1=>?_) (fun m1=>?_)
        ·
         have yw:PasF f g s nv ri ro (zem ti n v ex) (zem to n v yv_q) true (fun a u=>(a<n/\u<nv)\/(a=n/\u<v+1)):=by
          have:=hp3.set (dn':=fun a u=>(a<n/\u<nv)\/(a=n/\u<v+1)) hnn hng (v:=v) (by omega) (by rw [hb1,hb2,hev,hxn,hyv];exact fun h=>m1 h.1)
          rw [hev,hxn,hyv] at this
          exact this
         refine Vs 13 O ?_
         refine Vw [3,4,5,903,905] [13,15] O ?_
         refine Vb [0,1,2,4,5,6,7,9,10,11] 0 (by kernel_rfl) O O O (by omega) ?_
         refine znI 3 O (by kernel_rfl) O 0 O O (fun w hI=>R.load tg27 O (zeu (hI.at 903 O) hru1)) ?_
         refine znI 8 O (by kernel_rfl) O 0 O O (fun w hI=>R.load tg27 O (zeu (hI.at 905 O) hru2)) ?_
         refine znj 12 O (by kernel_rfl) O (fun w=>zlh tR27 ts3 O O O (by omega)) ?_
         refine znw 13 902 0 (e':=RowsP zc 3 hi (ti.set n (r1.set v ex))) O (by kernel_rfl) O O (RowsP.loc) (fun _ h=>h) (fun w hI=>znY ts3 (hI.at 902 O) hru1 her1 (by omega) O O O) ?_
         refine znj 14 O (by kernel_rfl) O (fun w=>zlh tR27 ts3 O O O (by omega)) ?_
         refine znw 15 904 0 (e':=RowsP zc 3 ho (to.set n (r2.set v yv_q))) O (by kernel_rfl) O O (RowsP.loc) (fun _ h=>h) (fun w hI=>znY ts3 (hI.at 904 O) hru2 her2 (by omega) O O O) ?_
         refine Vd [16] 0 (by kernel_rfl) O O O ?_
         refine VD.done (by kernel_rfl) ?_
         refine znc 902 O (e':=RowsP zc 3 hi (zem ti n v ex)) (by unfold zem;rw [her1];rfl) ?_
         refine znc 904 O (e':=RowsP zc 3 ho (zem to n v yv_q)) (by unfold zem;rw [her2];rfl) ?_
         refine zkT ((true,zem ti n v ex,zem to n v yv_q)) (Sub.of O) (Has.of O) (yw) 0 O O
        ·
         refine Va 3 O (by omega) ?_
         refine zmW 905 (n) tg27 O (by omega) (hru2) ?_
         refine Vs 1 O ?_
         refine zml O (fun w hI=>zlh tR27 ts3 O O O (by omega)) ?_
         refine zml O (fun w hI=>R.load tg3 O (zgn (hI.at 904 O) hru2 her2 heo2)) ?_
         refine Vs 5 O ?_
         refine zkG O (fun m2=>?_) (fun m2=>?_)
         ·
          have yw:PasF f g s nv ri ro (zem ti n v ex) (zem to n v yv_q) true (fun a u=>(a<n/\u<nv)\/(a=n/\u<v+1)):=by
           have:=hp3.set (dn':=fun a u=>(a<n/\u<nv)\/(a=n/\u<v+1)) hnn hng (v:=v) (by omega) (by rw [hb1,hb2,hev,hxn,hyv];exact fun h=>m2 h.2)
           rw [hev,hxn,hyv] at this
           exact this
          refine Vw [3,4,5,903,905] [13,15] O ?_
          refine Vb [0,1,2,4,5,6,7,9,10,11] 0 (by kernel_rfl) O O O (by omega) ?_
          refine znI 3 O (by kernel_rfl) O 0 O O (fun w hI=>R.load tg27 O (zeu (hI.at 903 O) hru1)) ?_
          refine znI 8 O (by kernel_rfl) O 0 O O (fun w hI=>R.load tg27 O (zeu (hI.at 905 O) hru2)) ?_
          refine znj 12 O (by kernel_rfl) O (fun w=>zlh tR27 ts3 O O O (by omega)) ?_
          refine znw 13 902 0 (e':=RowsP zc 3 hi (ti.set n (r1.set v ex))) O (by kernel_rfl) O O (RowsP.loc) (fun _ h=>h) (fun w hI=>znY ts3 (hI.at 902 O) hru1 her1 (by omega) O O O) ?_
          refine znj 14 O (by kernel_rfl) O (fun w=>zlh tR27 ts3 O O O (by omega)) ?_
          refine znw 15 904 0 (e':=RowsP zc 3 ho (to.set n (r2.set v yv_q))) O (by kernel_rfl) O O (RowsP.loc) (fun _ h=>h) (fun w hI=>znY ts3 (hI.at 904 O) hru2 her2 (by omega) O O O) ?_
          refine Vd [16] 0 (by kernel_rfl) O O O ?_
          refine VD.done (by kernel_rfl) ?_
          refine znc 902 O (e':=RowsP zc 3 hi (zem ti n v ex)) (by unfold zem;rw [her1];rfl) ?_
          refine znc 904 O (e':=RowsP zc 3 ho (zem to n v yv_q)) (by unfold zem;rw [her2];rfl) ?_
          refine zkT ((true,zem ti n v ex,zem to n v yv_q)) (Sub.of O) (Has.of O) (yw) 0 O O
         ·
          have hsk:PasF f g s nv ri ro ti to c3 (fun a u=>(a<n/\u<nv)\/(a=n/\u<v+1)):=hp3.skip (i:=n) (v:=v) (by rw [hb1,hev];omega) (by rw [hb2,hev,hxn,hyv];omega) (fun a u h=>by omega)
          refine Vs 1 O ?_
          refine zkT ((c3,ti,to)) (Sub.of O) (Has.of O) (hsk) 0 O O
       rintro⟨c3,ti,to⟩ hp4
       show V _ _ _ _ _ ((11,.bool c3)::_) _ ((902,RowsP zc 3 hi ti)::(904,RowsP zc 3 ho to)::_) _
       refine Va 6 O (by omega) ?_
       refine V.back (⟨v+1,c3,ti,to⟩) (Sub.of O) (Has.of O) (⟨by omega,hp4⟩) (by first | omega | (dsimp only;omega)) 1 O O
    ·
     refine Va 10 O (by omega) ?_
     refine V.back (⟨n+1,c3,ti,to⟩) (Sub.of O) (Has.of O) (⟨by omega,hp3.imp (fun a u h=>by omega)⟩) (by first | omega | (dsimp only;omega)) 0 O O
   ·
    have hms:(2*(g.length*(nv*2)) - (rkT qi_q+rkT qo_q))*2+c2.toNat<(2*(g.length*(nv*2)) - (rkT ri+rkT ro))*2+true.toNat:=by
     have h1:=zki hps.shi
     have h2:=zki hps.sho
     cases c2 with
     | true=>have:=hps.yes rfl;simp only [Bool.toNat_true];omega
     | false=>obtain⟨⟨e1,e2⟩,_⟩:=hps.no rfl;rw [e1,e2];simp only [Bool.toNat_true,Bool.toNat_false];omega
    have hsolN:c2=false->SolV f g s nv (bfV qi_q)/\∀ j,j<g.length->∀ v:Int,0<=v->v<(nv:Int)->bfV qo_q j v=yP f g s (bfV qi_q) j v:=fun e=>by
     subst e
     exact hps.done (fun a u h1 h2=>by omega)
    refine Vs 5 O ?_
    refine V.back (⟨c2,qi_q,qo_q⟩) (Sub.of O) (Has.of O) (⟨hps.shi,hps.sho,hps.run,hsolN⟩) (by first | omega | (dsimp only;omega)) 0 O O
  ·
   subst c1
   obtain⟨hsol,hout⟩:=hfin rfl
   have hril:ri.length=i:=by have:=hsi.len;omega
   have hrol:ro.length=i:=by have:=hso.len;omega
   rw [hN] at hsi hso hout
   refine Vs 14 O ?_
   refine zkZ Tryz.results35 O O (fun w hI=>⟨_,rfl,⟨_,_,ri,ro,rfl,hsi,hso,hsol,hout,zdL (show w.ownsRow 0 _ 1 _ _ _ from hril ▸ hI.at 903 O) (hI.at 902 O) (fun g hg=>hI.own 903 0 O O g hg) (fun k u g h1 h2=>hI.own 902 0 O O g ⟨k,u,h1,h2⟩),zdL (show w.ownsRow 0 _ 1 _ _ _ from hrol ▸ hI.at 905 O) (hI.at 904 O) (fun g hg=>hI.own 905 0 O O g hg) (fun k u g h1 h2=>hI.own 904 0 O O g ⟨k,u,h1,h2⟩)⟩,hI.k0⟩)
attribute [local instance 1] Classical.propDecidable
theorem zp3 (f:Fl) (g:List Nd) (s:Sf) (hk:GOk f g) (hz:ssize f.body<=10000) (hg1:1<=g.length) (hgl:g.length<=100000) (hvl:f.vars.length<=1000) (hbig:s.of_.length<=1000000/\(LP s s.nodes.length).length<=1000000) (v1 v2 v3 gv ofv nodv:Value) (D:Nat->Prop) (W:World) (hf:RFl D W f v1 v2 v3) (hg:SlR 4 RNd D W gv g) (hS:RSf D W s ofv nodv) :
  Calls Tryz.prog 15 #[.agg #[v1,v2,v3],.agg #[gv],.agg #[ofv,nodv]] W (Ret fun r w'=>(∃ q:Bool,r=.bool q/\(q=true ↔ RightF f g s (rdV f g)))/\Ext W w'):=by
 have hf0:=hf
 have hg0:=hg
 have hS0:=hS
 have hnd:=hS.nodes
 obtain⟨an,cn,rfl⟩:=hnd.form
 have hnm:=hnd.max
 have hno:¬ RightF f g s (rdV f g)->((false:Bool)=true ↔ RightF f g s (rdV f g)):=fun hb=>⟨fun h=>(by cases h),fun h=>absurd h hb⟩
 refine zmw Tryz.func15 O Tryz.ntmps15 O (zmE ?_)
 refine Vs 2 O ?_
 refine V.box 3 O O (fun b3=>?_)
 refine V.box 4 O O (fun b4=>?_)
 refine V.box 5 O O (fun b5=>?_)
 refine Vs 9 O ?_
 refine zmZ Tryz.call34 O (fun w hI=>zb7 (zp0 f g s hk hz (by omega) hbig _ _ _ _ _ _ D w (Tr1 hI.k0 hf0) (Tr1 hI.k0 hg0) (Tr1 hI.k0 hS0))) ?_
 refine zml O (fun w hI=>zlV O (by first | exact za | rfl)) ?_
 refine Vs 2 O ?_
 refine zkG O (fun n1=>?_) (fun n1=>?_)
 ·
  have hb:¬ RightF f g s (rdV f g):=fun h=>n1 h.toFormF
  refine Vs 7 O ?_
  refine zkW Tryz.results15 O (fun w hI=>⟨_,rfl,⟨_,rfl,hno hb⟩,hI.k0⟩)
 ·
  have hF:FormF f g s (rdV f g):=Classical.not_not.1 n1
  have hlen:=hF.len
  have hnn:=hF.nn
  have hUA:¬ zbB f g s->((false:Bool)=true ↔ RightF f g s (rdV f g)):=fun hb=>hno fun h=>hb ⟨h.use,h.arg⟩
  refine Vs 7 O ?_
  refine zn1 Tryz.call35 O (fun w hI=>zp7 f g s hk hF hz hg1 hgl hvl _ _ _ _ _ _ D w (Tr1 hI.k0 hf0) (Tr1 hI.k0 hg0) (Tr1 hI.k0 hS0)) ?_
  rintro rr w1 w2 hI1 hk12 ⟨u1,u2,ins,outs,rfl,hsi,hso,hsol,hout,hins,houts⟩ hlow
  obtain⟨b1,d1,rfl⟩:=hins.form
  obtain⟨b2,d2,rfl⟩:=houts.form
  have hil:=hsi.len
  have hol:=hso.len
  have hir:=hsi.row
  have hor:=hso.row
  have him:=hins.max
  have hom:=houts.max
  refine Vs 17 O ?_
  refine znd (σ:=Nat) [7,8,30,31] [] [] O (fun e n=>(32,.int .i64 n)::e) (fun e n=>e) (fun n=>n<=s.nodes.length/\(∀ (m:Nat) x,m<n->s.nodes[m]?=some x->NodU f g s m x)) (fun n=>s.nodes.length - n) (0) (Sub.of O) (Has.of O) (fun _=>rfl) (fun _=>rfl) (fun _=>rfl) (⟨zoy _,fun m x h=>absurd h (Nat.not_lt_zero _)⟩) ?_
  rintro n ⟨hn,hall⟩
  refine Vs 6 O ?_
  refine zkG O (fun ln=>?_) (fun ln=>?_)
  ·
   refine Vs 7 O ?_
   obtain⟨x,he_x,hm_x⟩:=gE_ s.nodes (n) (by omega)
   obtain⟨b_x,o_x,c_x,ha_x,_,hc_x,hR_x⟩:=hnd.at he_x
   obtain⟨v1_x,v2_x,rfl,hp_x,hu_x⟩:=hR_x
   obtain⟨a1_x,n1_x,rfl⟩:=hp_x.form
   obtain⟨a2_x,n2_x,rfl⟩:=hu_x.form
   refine zna 1000 1 O O hc_x ?_
   refine zmN 1000 tR28 ts59 O ha_x (by omega) (_) (rfl) O ?_
   have hnod:=hF.nod n x he_x
   have hum:=hu_x.max
   have hpm:=hp_x.max
   have hng:n<g.length:=by omega
   refine Vs 1 O ?_
   refine V.alloc 10 tz59 O O (fun b10=>?_)
   refine Vs 14 O ?_
   refine znd (σ:=Nat) [7,8,9,10,30,31,32,38,39] [10] [10] O (fun e k=>(40,.int .i64 k)::e) (fun e k=>e) (fun k=>k<=x.uses.length/\(∀ (j:Nat) u,j<k->x.uses[j]?=some u->inV f g s n u.1=u.2)) (fun k=>x.uses.length - k) (0) (Sub.of O) (Has.of O) (fun _=>rfl) (fun _=>rfl) (fun _=>rfl) (⟨zoy _,fun j u h=>absurd h (Nat.not_lt_zero _)⟩) ?_
   rintro k ⟨hkk,hku⟩
   refine Vs 6 O ?_
   refine zkG O (fun lk=>?_) (fun lk=>?_)
   ·
    refine Vs 6 O ?_
    obtain⟨u,he_u,hm_u⟩:=gE_ x.uses (k) (by omega)
    obtain⟨b_u,o_u,c_u,ha_u,_,hc_u,hR_u⟩:=hu_x.at he_u
    obtain rfl:=hR_u
    refine zna 2000 1 O O hc_u ?_
    refine zmN 2000 tR57 ts85 O ha_u (by omega) (_) (rfl) O ?_
    have hub:=zce hF.of_ (hnod.ver u hm_u)
    obtain⟨p1,p2⟩:=u
    dsimp only at hub
    obtain⟨v,rfl⟩:∃ v:Nat,p1=(v:Int):=⟨p1.toNat,by omega⟩
    obtain⟨r,he_r,hm_r⟩:=gE_ ins (n) (by omega)
    obtain⟨b_r,o_r,c_r,ha_r,hd_r,hc_r,hR_r⟩:=hins.atD he_r
    obtain⟨v1_r,rfl,hs_r⟩:=hR_r
    obtain⟨a1_r,n1_r,rfl⟩:=hs_r.form
    refine znb 3000 0 O O (fun h_=>by have h1_:=hlow _ h_;have h2_:=hd_r;first | omega | exact h1_ h2_) hc_r ?_
    have hrn:=hir r hm_r
    obtain⟨y,he_y,hm_y⟩:=gE_ r (v) (by omega)
    obtain⟨b_y,o_y,c_y,ha_y,hd_y,hc_y,hR_y⟩:=hs_r.atD he_y
    obtain rfl:=hR_y
    refine znb 4000 0 O O (fun h_=>by have h1_:=hlow _ h_;have h2_:=hd_y;first | omega | exact h1_ h2_) hc_y ?_
    have hyin:y=inV f g s n v:=by rw [<- zgk he_r he_y];exact hsol.is hnn (by omega) (by omega) hng
    refine Vs 1 O ?_
    refine V.alloc 12 tz85 O O (fun b12=>?_)
    refine Vs 4 O ?_
    refine Vq (by kernel_rfl) ?_
    refine Vs 2 O ?_
    refine zmQ 3000 tR89 ts27 O ha_r (by omega) (n) (by omega) O ?_
    refine Vs 3 O ?_
    refine zmQ 4000 tR27 ts3 O ha_y (by omega) (v) (by omega) O ?_
    refine Vs 6 O ?_
    refine zkG O (fun e1=>?_) (fun e1=>?_)
    ·
     have hbad:¬ zbB f g s:=fun h=>e1 (by rw [hyin];exact h.1 n x he_x _ hm_u)
     refine Vs 16 O ?_
     refine zkW Tryz.results15 O (fun w hI=>⟨_,rfl,⟨_,rfl,hUA hbad⟩,hI.k1⟩)
    ·
     have hnx:=xe hku he_u (show inV f g s n v=p2 by omega)
     refine Va 7 O (by omega) ?_
     refine V.back (k+1) (Sub.of O) (Has.of O) (⟨by omega,hnx⟩) (by first | omega | (dsimp only;omega)) 0 O O
   ·
    obtain rfl:k=x.uses.length:=by omega
    refine Vs 14 O ?_
    refine znd (σ:=Nat) [7,8,30,31,32,57,58] [] [] O (fun e k=>(59,.int .i64 k)::e) (fun e k=>e) (fun k=>k<=x.phis.length/\(∀ (j:Nat) p,j<k->x.phis[j]?=some p->zkj f g s p)) (fun k=>x.phis.length - k) (0) (Sub.of O) (Has.of O) (fun _=>rfl) (fun _=>rfl) (fun _=>rfl) (⟨zoy _,fun j u h=>absurd h (Nat.not_lt_zero _)⟩) ?_
    rintro k ⟨hkp,hpu⟩
    refine Vs 6 O ?_
    refine zkG O (fun lp=>?_) (fun lp=>?_)
    ·
     refine Vs 6 O ?_
     obtain⟨p,he_p,hm_p⟩:=gE_ x.phis (k) (by omega)
     obtain⟨b_p,o_p,c_p,ha_p,_,hc_p,hR_p⟩:=hp_x.at he_p
     obtain⟨v1_p,v2_p,rfl,hf_p,hg_p⟩:=hR_p
     obtain⟨a1_p,n1_p,rfl⟩:=hf_p.form
     obtain⟨a2_p,n2_p,rfl⟩:=hg_p.form
     refine zna 5000 1 O O hc_p ?_
     refine zmN 5000 tR56 ts88 O ha_p (by omega) (_) (rfl) O ?_
     have hfr:=hnod.phi.frm p hm_p
     have hal:=hnod.phi.len p hm_p
     have hpv:=zce hF.of_ (hnod.phi.ver p hm_p)
     have hfm:=hf_p.max
     have hgm:=hg_p.max
     obtain⟨v,hv⟩:∃ v:Nat,p.var=(v:Int):=⟨p.var.toNat,by omega⟩
     refine Vs 1 O ?_
     refine V.alloc 14 tz88 O O (fun b14=>?_)
     refine Vs 12 O ?_
     refine znd (σ:=Nat) [7,8,14,30,31,32,57,58,59,64,65] [14] [14] O (fun e j=>(66,.int .i64 j)::e) (fun e j=>e) (fun j=>j<=p.frm.length/\(∀ (m:Nat) y,m<j->p.frm[m]?=some y->∀ a,p.args[m]?=some a->za9 f g s y.toNat p.var=a)) (fun j=>p.frm.length - j) (0) (Sub.of O) (Has.of O) (fun _=>rfl) (fun _=>rfl) (fun _=>rfl) (⟨zoy _,fun m y h=>absurd h (Nat.not_lt_zero _)⟩) ?_
     rintro j ⟨hj,hja⟩
     refine Vs 6 O ?_
     refine zkG O (fun lj=>?_) (fun lj=>?_)
     ·
      refine Vs 7 O ?_
      obtain⟨y,he_y,hm_y⟩:=gE_ p.frm (j) (by omega)
      obtain⟨b_y,o_y,c_y,ha_y,_,hc_y,hR_y⟩:=hf_p.at he_y
      obtain rfl:=hR_y
      refine zna 6000 1 O O hc_y ?_
      refine zmN 6000 tR27 ts3 O ha_y (by omega) (_) (rfl) O ?_
      obtain⟨q,rfl,hq1,hq2⟩:=zd2 (hfr ▸ he_y)
      obtain⟨r,he_r,hm_r⟩:=gE_ outs (q) (by omega)
      obtain⟨b_r,o_r,c_r,ha_r,hd_r,hc_r,hR_r⟩:=houts.atD he_r
      obtain⟨v1_r,rfl,hs_r⟩:=hR_r
      obtain⟨a1_r,n1_r,rfl⟩:=hs_r.form
      refine znb 7000 0 O O (fun h_=>by have h1_:=hlow _ h_;have h2_:=hd_r;first | omega | exact h1_ h2_) hc_r ?_
      have hrn:=hor r hm_r
      obtain⟨z,he_z,hm_z⟩:=gE_ r (v) (by omega)
      obtain⟨b_z,o_z,c_z,ha_z,hd_z,hc_z,hR_z⟩:=hs_r.atD he_z
      obtain rfl:=hR_z
      refine znb 8000 0 O O (fun h_=>by have h1_:=hlow _ h_;have h2_:=hd_z;first | omega | exact h1_ h2_) hc_z ?_
      obtain⟨a,he_a,hm_a⟩:=gE_ p.args (j) (by omega)
      obtain⟨b_a,o_a,c_a,ha_a,_,hc_a,hR_a⟩:=hg_p.at he_a
      obtain rfl:=hR_a
      refine zna 9000 1 O O hc_a ?_
      have hzo:z=za9 f g s q p.var:=by
       rw [hv,<- zgk he_r he_z,hout q hq2 v (by omega) (by omega)]
       exact zjf (hsol.is hnn (by omega) (by omega) hq2)
      refine Vs 6 O ?_
      refine Vq (by kernel_rfl) ?_
      refine Vs 2 O ?_
      refine zmQ 7000 tR89 ts27 O ha_r (by omega) (q) (by omega) O ?_
      refine Vs 3 O ?_
      refine zmQ 8000 tR27 ts3 O ha_z (by omega) (v) (by omega) O ?_
      refine Vs 4 O ?_
      refine zmQ 9000 tR27 ts3 O ha_a (by omega) (j) (by omega) O ?_
      refine Vs 4 O ?_
      refine zkG O (fun e1=>?_) (fun e1=>?_)
      ·
       have hbad:¬ zbB f g s:=fun h=>e1 (by rw [hzo];exact h.2 n x he_x p hm_p j _ a he_y he_a)
       refine Vs 19 O ?_
       refine zkW Tryz.results15 O (fun w hI=>⟨_,rfl,⟨_,rfl,hUA hbad⟩,hI.k1⟩)
      ·
       have hnx:=xe hja he_y (show ∀ a',p.args[j]?=some a'->za9 f g s (Int.toNat (q:Int)) p.var=a' from fun a' ha'=>by
        obtain rfl:a'=a:=Option.some.inj (ha'.symm.trans he_a)
        have e2:=zos.1 e1
        rw [hzo] at e2;exact e2)
       refine Va 7 O (by omega) ?_
       refine V.back (j+1) (Sub.of O) (Has.of O) (⟨by omega,hnx⟩) (by first | omega | (dsimp only;omega)) 0 O O
     ·
      obtain rfl:j=p.frm.length:=by omega
      have hnx:=xe hpu he_p (show zkj f g s p from fun m y hm a ha=>hja m y (zox.1 hm).1 hm a ha)
      refine Va 10 O (by omega) ?_
      refine V.back (k+1) (Sub.of O) (Has.of O) (⟨by omega,hnx⟩) (by first | omega | (dsimp only;omega)) 0 O O
    ·
     obtain rfl:k=x.phis.length:=by omega
     have hnx:∀ (m:Nat) x',m<n+1->s.nodes[m]?=some x'->NodU f g s m x':=fun m x' hm hx=>by
      by_cases e:m=n
      ·
       subst e
       obtain rfl:x'=x:=Option.some.inj (hx.symm.trans he_x)
       exact⟨fun u hu=>by obtain⟨q,hq⟩:=List.mem_iff_getElem?.1 hu;exact jX hku q u hq,fun p hp=>by obtain⟨q,hq⟩:=List.mem_iff_getElem?.1 hp;exact jX hpu q p hq⟩
      . exact hall m x' (by omega) hx
     refine Va 10 O (by omega) ?_
     refine V.back (n+1) (Sub.of O) (Has.of O) (⟨by omega,hnx⟩) (by first | omega | (dsimp only;omega)) 0 O O
  ·
   obtain rfl:n=s.nodes.length:=by omega
   have hyes:zbB f g s:=zgp (jX hall)
   have hR:RightF f g s (rdV f g):=⟨hF,hyes.1,hyes.2⟩
   refine Vs 11 O ?_
   refine zkW Tryz.results15 O (fun w hI=>⟨_,rfl,⟨_,rfl,⟨fun _=>hR,fun _=>rfl⟩⟩,hI.k1⟩)
theorem zoT {f:Fl} (vd:Valid f):¬ yD f (zh f) ≠ 0:=zoG (by unfold yD;rw [zot (zoG vd.ok),zou rfl])
theorem zoR (f:Fl) (s:Sf) (hsm:zku s) (v1 v2 v3 ofv nodv:Value) (D:Nat->Prop) (W:World) (hf:RFl D W f v1 v2 v3) (hS:RSf D W s ofv nodv) :
  Calls Tryz.prog 3 #[.agg #[v1,v2,v3],.agg #[ofv,nodv]] W (Ret fun r w'=>r=.bool true/\Ext W w'):=by
 have hf0:=hf
 have hS0:=hS
 obtain⟨a1,c1,rfl⟩:=hf.vars.form
 obtain⟨a2,c2,rfl⟩:=hf.hatches.form
 obtain⟨a3,c3,rfl⟩:=hf.body.form
 obtain⟨ao,co,rfl⟩:=hS.of_.form
 obtain⟨am,cm,rfl⟩:=hS.nodes.form
 have hom:=hS.of_.max
 have hnm:=hS.nodes.max
 refine zmv Tryz.func3 O Tryz.ntmps3 O (zmE ?_)
 refine Vs 2 O ?_
 refine V.box 2 O O (fun b2=>?_)
 refine V.box 3 O O (fun b3=>?_)
 refine Vs 6 O ?_
 refine zmZ Tryz.call11 O (fun w hI=>zfh w) ?_
 refine zml O (fun w hI=>zlV O (by first | exact za | rfl)) ?_
 refine Vs 2 O ?_
 refine V.bool O (fun k0=>?_) (fun k0=>?_)
 . cases k0
 ·
  refine Vs 6 O ?_
  refine zn1 Tryz.call12 O (fun w hI=>ziw f _ _ _ D w (Tr1 hI.k0 hf)) ?_
  rintro rr w1 w2 hI1 hk12 ⟨q,rfl,hq⟩ hlow
  refine zml O (fun w hI=>zlV O (by first | exact za | rfl)) ?_
  refine Vs 1 O ?_
  refine V.sb 12 O (fun q0=>?_) (fun q0=>?_)
  ·
   refine Vs 14 O ?_
   refine zkW Tryz.results3 O (fun w hI=>⟨_,rfl,rfl,hI.k1⟩)
  ·
   have hfit:FitC f 16 4 4:=hq (by simpa using q0)
   refine Vs 1 O ?_
   refine zn1 Tryz.call13 O (fun w hI=>zkh s hsm _ _ D w (Tr1 hI.k1 hS)) ?_
   rintro rr w3 w4 hI3 hk34 ⟨q2,rfl,hq2⟩ hlow2
   refine zml O (fun w hI=>zlV O (by first | exact za | rfl)) ?_
   refine Vs 3 O ?_
   refine V.bool O (fun q1=>?_) (fun q1=>?_)
   ·
    refine Vs 7 O ?_
    refine zkW Tryz.results3 O (fun w hI=>⟨_,rfl,rfl,hI.k2⟩)
   ·
    have hfew:FewS s:=hq2 (by simpa using q1)
    have vd:=hfit.vd
    have hlens:=vd.lens
    have hss:=vd.ssize
    have hcl:=yz f vd.plain
    have hwl:=yU f.body
    have hbig:=hfew.big (zh f).length
    have hbig2:=hfew.big s.nodes.length
    have hk:GOk f (zh f):=vd.gOk
    refine Vs 5 O ?_
    refine zn1 Tryz.call14 O (fun w hI=>zgM f _ _ _ D w (Tr1 hI.k2 hf) (by omega)) ?_
    rintro rr w5 w6 hI5 hk56 ⟨nv,rfl,hnv⟩ hlow3
    obtain⟨an,cn,rfl⟩:=hnv.form
    refine V.alloc 5 tz36 O O (fun b5=>?_)
    refine Vs 14 O ?_
    refine zn1 Tryz.call15 O (fun w hI=>zp3 f (zh f) s hk (by omega) (by omega) (by omega) (by omega) hbig2 _ _ _ _ _ _ (fun q=>q<w.heap.size) w (RFl.now (Tr1 hI.k3 hf0)) (hnv.now zI jV hI.k0 (fun b hb hs=>by have:=hlow3 b hs;omega)) (RSf.now (Tr1 hI.k3 hS0))) ?_
    rintro rr w7 w8 hI7 hk78 ⟨z,rfl,hz⟩ hlow4
    refine Vs 2 O ?_
    refine V.bool O (fun z0=>?_) (fun z0=>?_)
    ·
     have hR:=hz.1 z0
     have hc:yn f (zh f) s=0:=ziF (zoT vd) hR
     refine Vs 9 O ?_
     refine zmZ Tryz.call16 O (fun w hI=>zbI hc (jZ f (zh f) s vd.size vd.bulk hbig _ _ _ _ _ _ (fun q=>q<w.heap.size) w (RFl.now (Tr1 hI.k4 hf0)) (hnv.now zI jV hI.k1 (fun b hb hs=>by have:=hlow3 b hs;omega)) (RSf.now (Tr1 hI.k4 hS0)) (fun q h=>h))) ?_
     refine Vs 6 O ?_
     refine zkW Tryz.results3 O (fun w hI=>⟨_,rfl,rfl,hI.k4⟩)
    ·
     have hR:¬ RightF f (zh f) s (rdV f (zh f)):=fun h=>by rw [hz.2 h] at z0;cases z0
     have hc:yn f (zh f) s=13:=zeZ (zoT vd) hR
     refine Vs 7 O ?_
     refine zmZ Tryz.call16 O (fun w hI=>zbI hc (jZ f (zh f) s vd.size vd.bulk hbig _ _ _ _ _ _ (fun q=>q<w.heap.size) w (RFl.now (Tr1 hI.k4 hf0)) (hnv.now zI jV hI.k1 (fun b hb hs=>by have:=hlow3 b hs;omega)) (RSf.now (Tr1 hI.k4 hS0)) (fun q h=>h))) ?_
     refine Vs 6 O ?_
     refine zkW Tryz.results3 O (fun w hI=>⟨_,rfl,rfl,hI.k4⟩)
end Go.Proofs.YtckdhgbepmpgiaaGreat
