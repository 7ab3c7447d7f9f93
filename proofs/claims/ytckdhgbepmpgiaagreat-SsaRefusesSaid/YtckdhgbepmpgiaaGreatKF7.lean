/-
  Contracts and the mathematics that the proof needs. Nothing here is a claim.
-/
import Derived.Test.YtckdhgbepmpgiaaGreatKF6
theorem j4 {p:Prop}(h:p:=by (try simp only[ne_eq]at *);first | exact zy tO | exact zz tO | exact zj tO | exact zj (by simp only[ne_eq,zti];omega)):p:=h
theorem j8 {p:Prop}(h:p:=by (try simp only[ne_eq,zti]at *);first | exact zy tO | exact zz tO | exact zj tO | exact zj (by simp only[ne_eq,zti];omega)):p:=h
theorem iD {p:Prop}(h:p:=by exact fun w hI=>yK 961 tO (da.keep zc hI.k1 fun q hd _ h=>hY q h hd)):p:=h
theorem iE {p:Prop}(h:p:=by exact zoT tr97 O (fun w hI=>⟨_,rfl,⟨_,rfl,hY fun h=>by have h1:=h.k0;have h2:=h.k1;have h3:=h.k2;have h4:=h.n0;have h5:=h.n1;have h6:=h.o1;have h7:=h.o0;have h8:=h.a0;have h9:=h.a1;omega⟩,hI.k0⟩)):p:=h
theorem iZ {p:Prop}(h:p:=by exact fun b_ d_ h_=>by have dc:=hY _ h_;first | omega | exact dc d_):p:=h
theorem ib {p:Prop}(h:p:=by exact fun w hI=>yX O O (yh v ol tO b gb _ _ _ _ w (hI.held O O O))):p:=h
theorem J7 {p:Prop}(h:p:=by have h_:=hS.1.cells dy (fun h=>hY _ h dx) 0 _ rfl;simpa using h_):p:=h
theorem UH {p:Prop}(h:p:=by exact fun q hq=>qh hq):p:=h
theorem Ue {p:Prop}(h:p:=by exact zrf 29 Tryz.szsOk O tK O (VDx.done tK (zoQ ⟨ov2,(au,cu),b100,b13⟩ j2 j3 True.intro 0 O O))):p:=h
theorem Un {p:Prop}(h:p:=by exact Sub.cons j4 j2):p:=h
theorem Uu {p:Prop}(h:p:=by exact Sub.cons j8 j2):p:=h
theorem YC {p:Prop}(h:p:=by exact VDx.done tK (zoQ ⟨ov2,(au,cu),b100,b13⟩ j2 j3 True.intro 0 O O)):p:=h
theorem YJ {p:Prop}(h:p:=by exact zqh O (fun w hI=>zpQ O j6) (Vs 3 O (zoQ () Un j3 trivial 0 O O))):p:=h
open Go.Proofs.Tryz
variable {α β:Type} {R rows als rows1 Rw frs:List (List Int)} {root i q nv c j a b d k kk m fuel by' o:Nat} {pl T of1 ofl:List Int} {order L:List Nat} {f:Go.GL.Fl} {g:List Go.GL.Nd} {s:Go.Proofs.YtckdhgbepmpgiaaGreat.Sf} {e t:Go.TypeId} {w w':Go.World} {rv cs xs ndc da db vs hY has:List Go.Value} {cl ucs pcs:List (List Go.Value)} {v z u:Go.Value} {P:Go.Program} {Q:Go.Exit->Go.Act->Go.World->Prop} {ks:List Go.GL.Fr} {env:Go.GL.Env} {A:Go.GL.Tgs} {H Hs E' E0:Go.GL.Hp} {Bs B0:Go.GL.zq} {ops:Array Go.Oper} {listed:Array Bool} {aft:Array Go.Edge} {y:Go.Operand} {l:List (Go.Proofs.YtckdhgbepmpgiaaGreat.Phn × Nat)} {p:Go.Proofs.YtckdhgbepmpgiaaGreat.Phn × Nat} {pw:Nat->List (Go.Proofs.YtckdhgbepmpgiaaGreat.Phn × Nat)} {Dn':Nat->Nat->Prop} {D:Nat->Prop} {E:List (Nat × Nat)} {es:List (Int × Int)} {parts:Array (Nat × Go.Operand)} {ts:Array Go.TypeId} {Hn:α->Go.GL.Hp} {Φ:Go.Value->α->Prop} {enc:α->Go.Value} {r:List α} {x:Go.GL.Nd}
namespace Go.GL.Dom
open Go.GL.Dfs
section
variable {n:Nat}
theorem zmZ (h:Solved R root n pl T) (hO:Dfs.Order R root order) (hP:Dfs.Place n order pl) (hn:∀ x,Dfs.Reach R root x->x<n) {Fl:Nat->Prop} {O:Nat->α}
  (hY:∀ z,Dfs.Reach R root z->z ≠ root->¬ Fl z->∀ q:Nat,lk T z=(q:Int)->O z=O q) (hi:Dfs.Reach R root i) (dm:∀ z,xz R root z i->¬ Fl z) (hq:lk T i=(q:Int)) {y:Nat} (hy:Dfs.Reach R root y) (dl:Dfs.Edge R y i):O y=O q:=by
 rcases h.tree_or hi (hn _ hi) with⟨_,e⟩ | ⟨q',dy,e,dr,hd,dc,dt,_⟩
 . omega
 obtain rfl:q'=q:=Int.ofNat.inj (e.symm.trans hq)
 have main:∀ (k:Nat) z,lk pl z<=k->Dfs.Reach R root z->Dom R root z y->Dom R root q' z->O z=O q':=by
  intro k;induction k with
  | zero =>
   intro z hk hz dg db;by_cases e0:q'=z
   . rw[e0]
   have h1:=h.lt hO hP hz db e0;have h2:=h.tree_or hz (hn _ hz);rcases h2 with⟨h3,_⟩ | ⟨p,_,_,_,_,_,dh,du⟩
   . exact absurd ((zsB (root:=root) (R:=R) tD).trans h3.symm) e0
   have:=xP hO hP dh;omega
  | succ k ih =>
   intro z hk hz dg db;by_cases e0:q'=z
   . rw[e0]
   have hF:xz R root z i:=⟨y,hy,dl,dg,fun h1=>by
    have h2:=dc z h1.1 h1.2;have h3:=h.lt hO hP dt h2 (fun e=>e0 e.symm);have h4:=h.lt hO hP hz db e0
    omega⟩
   rcases h.tree_or hz (hn _ hz) with⟨h3,_⟩ | ⟨p,dw,hp,_,dx,da,dh,du⟩
   . exact absurd ((zsB (root:=root) (R:=R) tD).trans h3.symm) e0
   rw[hY z hz dw (dm z hF) p hp];exact ih p tO dh (dx.trans dg) (da q' e0 db)
 exact main (lk pl y).toNat y tO hy (Dom.refl y) (hd.pred dr dl)
end
end Go.GL.Dom
namespace Go.Proofs.YtckdhgbepmpgiaaGreat
open Go.GL Go.GL.Dom
structure TreeG (g:List Nd) (R:List (List Int)) (order:List Nat) (pl T:List Int):Prop where
 edge:∀ a b:Nat,b<g.length->(Dfs.Edge R a b ↔ a ∈ zF g b)
 all:∀ i,i<g.length->Dfs.Reach R 0 i
 lt:∀ i,Dfs.Reach R 0 i->i<g.length
 sol:Solved R 0 g.length pl T
 ord:Dfs.Order R 0 order
 place:Dfs.Place g.length order pl
structure RenV (f:Fl) (g:List Nd) (s:Sf) (nv:Nat) (R:List (List Int)) (T:List Int) (B:Nat->Int->Int):Prop where
 zero:∀ v:Int,0<=v->v<nv->B 0 v=v
 phi:∀ i v k,i<g.length->i ≠ 0->zbT s i v=some k->B i v=k
 up:∀ (i q:Nat) v,i<g.length->i ≠ 0->zbT s i v=none->lk T i=(q:Int)->B i v=yW f g s B q v
 free:∀ (i:Nat) (v:Int),i<g.length->i ≠ 0->0<=v->v<nv->zbT s i v=none->∀ z,xz R 0 z i->¬ (yr f g z=v\/∃ k,z ≠ 0/\zbT s z v=some k)
section
variable {B:Nat->Int->Int}
theorem zjD (x:Int):xJ x x=x:=zt1 (.inr rfl)
theorem zlu (x:Int):xJ (-1) x=x:=by
 unfold xJ;split
 . omega
 rfl
theorem zhN {l:List Int} {c:Int} (hl:l ≠ []) (h:∀ x ∈ l,x=c):zam l=c:=by
 obtain⟨x,l,rfl⟩:=List.exists_cons_of_ne_nil hl;obtain rfl:=h x (zsU ..)
 have main:∀ l:List Int,(∀ y ∈ l,y=x)->l.foldl xJ x=x:=fun l=>by
  induction l with
  | nil=>exact fun _=>rfl
  | cons y l ih =>
   intro hl;rw[zuz,hl y (zsU ..),zjD];exact ih fun z hz=>hl z (zsT _ hz)
 show (x::l).foldl xJ (-1)=x;rw[zuz,zlu];exact main l fun y hy=>h y im
theorem RenV.pred (h:RenV f g s nv R T B) (ht:TreeG g R order pl T) {y:Nat} {v:Int} (hi:i<g.length) (h0:i ≠ 0) (hv:0<=v) (hn:v<nv) (hp:zbT s i v=none) (hy:y ∈ zF g i) (hq:lk T i=(q:Int)):yW f g s B y v=yW f g s B q v:=by
 refine zmZ (Fl:=fun z=>yr f g z=v\/∃ k,z ≠ 0/\zbT s z v=some k) (O:=fun z=>yW f g s B z v) ht.sol ht.ord ht.place ht.lt (fun z hz da hF p db=>?_) (ht.all i hi) (fun z hF=>h.free i v hi h0 hv hn hp z hF) hq (ht.all y (xK hy)) ((ht.edge y i hi).2 hy)
 have hY:zbT s z v=none:=by
  cases e:zbT s z v with
  | none=>rfl
  | some k=>exact absurd (.inr ⟨k,da,e⟩) hF
 show yW f g s B z v=yW f g s B p v;rw[show yW f g s B z v=B z v from zt0 fun e=>hF (.inl e)];exact h.up z p v (ht.lt z hz) da hY db
theorem TreeG.up (ht:TreeG g R order pl T) (hi:i<g.length) (h0:i ≠ 0):∃ q:Nat,lk T i=(q:Int)/\q<g.length/\lk pl q<lk pl i:=by
 rcases ht.sol.tree_or (ht.all i hi) hi with⟨e,_⟩ | ⟨q,_,h1,_,_,_,h2,h3⟩
 . omega
 exact⟨q,h1,ht.lt q h2,h3⟩
theorem TreeG.pre (ht:TreeG g R order pl T) (hi:i<g.length) (h0:i ≠ 0):∃ y,y ∈ zF g i:=by
 cases ht.all i hi with
 | refl=>exact absurd rfl h0
 | @step a _ _ he=>exact⟨a,(ht.edge a i hi).1 he⟩
theorem RenV.sol (h:RenV f g s nv R T B) (ht:TreeG g R order pl T) (hs:NnS f g s):SolV f g s nv B:=by
 refine⟨fun i hi v hv hn=>?_,fun i hi v hv hn=>?_⟩
 .
  have hr:RV f g s v i (B i v):=by
   have:=ht.all i hi;induction this with
   | refl=>rw[h.zero v hv hn];exact .ini
   | @step a i ha he ih =>
    by_cases h0:i=0
    . subst h0;rw[h.zero v hv hn];exact .ini
    cases hp:zbT s i v with
    | some k=>rw[h.phi i v k hi h0 hp];exact .phi h0 hp
    | none =>
     have hy:=(ht.edge a i hi).1 he;obtain⟨q,hq,_⟩:=ht.up hi h0;have h1:=h.pred ht hi h0 hv hn hp hy hq;rw[h.up i q v hi h0 hp hq,<- h1];unfold yW;split
     . rename_i hd;exact .dfn h0 hp hy hd
     rename_i hd;exact .pass h0 hp hy hd (ih (ht.lt a ha))
  exact .inr (.inl ⟨hr.nn hs hv,hr⟩)
 unfold eqV;split
 . rename_i h0;subst h0;exact h.zero v hv hn
 rename_i h0;split
 . rename_i k hp;exact h.phi i v k hi h0 hp
 rename_i hp;obtain⟨q,hq,_⟩:=ht.up hi h0;obtain⟨y,hy⟩:=ht.pre hi h0;rw[h.up i q v hi h0 hp hq];refine(zhN (fun e=>?_) fun x hx=>?_).symm
 .
  rw[List.map_eq_nil_iff]at e
  grind
 obtain⟨z,hz,rfl⟩:=zv8.1 hx;exact h.pred ht hi h0 hv hn hp hz hq
end
end Go.Proofs.YtckdhgbepmpgiaaGreat
namespace Go.GL.Dom
def chT (T:List Int) (i:Nat):List Nat:=(List.range T.length).filter fun c=>decide (T[c]?=some (i:Int))
def zfn (T:List Int):Nat->Nat->List Nat
 | 0,_=>[]
 | m+1,i=>i::(chT T i).flatMap (zfn T m)
inductive AncT (T:List Int) (i:Nat):Nat->Prop
 | refl:AncT T i i
 | step {j q:Nat}:lk T j=(q:Int)->AncT T i q->AncT T i j
structure TrT (T:List Int) (n:Nat) (rk:Nat->Int):Prop where
 len:T.length=n
 up:∀ j q:Nat,j<n->lk T j=(q:Int)->q<n/\rk q<rk j
section
variable {n:Nat} {rk:Nat->Int}
theorem chT_mem:c ∈ chT T i ↔ c<T.length/\lk T c=(i:Int):=by
 unfold chT;rw[zv4,zvc,decide_eq_true_iff];refine⟨fun⟨h1,h2⟩=>⟨h1,xO h2⟩,fun⟨h1,h2⟩=>⟨h1,?_⟩⟩;have:=jZ (l:=T) (i:=c) tO;rw[this,h2]
theorem zjE (i:Nat):(chT T i).Nodup:=List.Pairwise.filter _ zvg
theorem TrT.rk_le (h:TrT T n rk) (ha:AncT T i j):j<n->i<n/\(i=j\/rk i<rk j):=by
 induction ha with
 | refl=>exact fun hj=>⟨hj,.inl rfl⟩
 | @step j q hq _ ih =>
  intro hj;obtain⟨h1,h2⟩:=h.up j q hj hq;obtain⟨h3,h4⟩:=ih h1;exact⟨h3,.inr tD⟩
theorem AncT.trans (h:AncT T a b) (h':AncT T b c):AncT T a c:=by
 induction h' with
 | refl=>exact h
 | step hq _ ih=>exact .step hq ih
theorem TrT.child (h:TrT T n rk) (ha:AncT T i j):j<n->j ≠ i->∃ c,c ∈ chT T i/\AncT T c j:=by
 induction ha with
 | refl=>exact fun _ hn=>absurd rfl hn
 | @step j q hq _ ih =>
  intro hj _;obtain⟨h1,h2⟩:=h.up j q hj hq;by_cases e:q=i
  .
   subst e;exact⟨j,chT_mem.2 ⟨by rw[h.len];exact hj,hq⟩,.refl⟩
  obtain⟨c,hc,hY⟩:=ih h1 e;exact⟨c,hc,.step hq hY⟩
theorem AncT.comp (ha:AncT T a j) (hb:AncT T b j):AncT T a b\/AncT T b a:=by
 induction ha with
 | refl=>exact .inr hb
 | @step j q hq ha ih =>
  cases hb with
  | refl=>exact .inl (.step hq ha)
  | @step _ q' hq' hb =>
   obtain rfl:q'=q:=Int.ofNat.inj (hq'.symm.trans hq);exact ih hb
theorem TrT.child_uniq (h:TrT T n rk) (_:j<n) (hc:c ∈ chT T i) (hd:d ∈ chT T i) (hY:AncT T c j) (da:AncT T d j):c=d:=by
 have main:∀ {c d:Nat},c ∈ chT T i->d ∈ chT T i->AncT T c d->c=d:=fun {c d} hc hd db=>by
  obtain⟨h1,h2⟩:=chT_mem.1 hc;obtain⟨h3,h4⟩:=chT_mem.1 hd;rw[h.len]at h1 h3;cases db with
  | refl=>rfl
  | @step _ q hq hcq =>
   obtain rfl:q=i:=Int.ofNat.inj (hq.symm.trans h4);have h5:=h.up c q h1 h2;have h6:=h.rk_le hcq h5.1;rcases h6.2 with e | e
   . grind
   omega
 rcases hY.comp da with e | e
 . grind
 grind
theorem zfX {l:List Nat} (hl:l.Nodup) {p:Nat->Prop} [DecidablePred p] (hc:c ∈ l) (hp:p c) (hu:∀ d ∈ l,p d->d=c):(l.map fun d=>if p d then 1 else 0).sum=1:=by
 induction l with
 | nil=>cases hc
 | cons x l ih =>
  rw[zvf]at hl;rw[zuX,zvy];rcases zt6.1 hc with rfl | hc
  .
   rw[zt1 hp]
   have:∀ m:List Nat,(∀ d ∈ m,¬ p d)->(m.map fun d=>if p d then 1 else 0).sum=0:=fun m=>by
    induction m with
    | nil=>exact fun _=>rfl
    | cons y m ih=>intro hm;rw[zuX,zvy,zt0 (hm y (zsU ..)),ih fun d hd=>hm d (zsT _ hd)]
   rw[this l fun d hd hY=>hl.1 (by rw[<- hu d (zsT _ hd) hY];exact hd)]
  grind
theorem zjF {l:List Nat} {p:Nat->Prop} [DecidablePred p] (hu:∀ d ∈ l,¬ p d):(l.map fun d=>if p d then 1 else 0).sum=0:=by
 induction l with
 | nil=>rfl
 | cons y m ih=>rw[zuX,zvy,zt0 (hu y (zsU ..)),ih fun d hd=>hu d (zsT _ hd)]
open Classical in
theorem TrT.count (h:TrT T n rk):∀ (m i:Nat),i<n->(∀ j,j<n->AncT T i j->rk j - rk i<m)->∀ j,j<n->(zfn T m i).count j=if AncT T i j then 1 else 0:=by
 intro m;induction m with
 | zero=>intro i hi hm j _;have:=hm i hi .refl;omega
 | succ m ih =>
  intro i hi hm j hj
  have da:∀ c ∈ chT T i,c<n/\rk i<rk c/\AncT T i c:=fun c hc=>by
   obtain⟨h1,h2⟩:=chT_mem.1 hc;rw[h.len]at h1;exact⟨h1,(h.up c i h1 h2).2,.step h2 .refl⟩
  have hs:((chT T i).flatMap (zfn T m)).count j=((chT T i).map fun c=>if AncT T c j then 1 else 0).sum:=by
   rw[zua];congr 1;refine zuW fun c hc=>?_;obtain⟨h1,h2,h3⟩:=da c hc;exact ih c h1 (fun j' db ha=>by have:=hm j' db (h3.trans ha);omega) j hj
  show (i::(chT T i).flatMap (zfn T m)).count j=_;rw[List.count_cons,hs];by_cases e:j=i
  .
   subst e;rw[zjF fun c hc ha=>?_,zt1 tZ,zt1 .refl];obtain⟨h1,h2,_⟩:=da c hc;have:=(h.rk_le ha hj).2;rcases this with e | e
   . subst e;omega
   omega
  rw[zt0 (by simpa using fun e'=>e e'.symm),zvL];by_cases ha:AncT T i j
  .
   obtain⟨c,hc,hY⟩:=h.child ha hj e;rw[zt1 ha];exact zfX (zjE i) hc hY fun d hd dc=>h.child_uniq hj hd hc dc hY
  rw[zt0 ha];exact zjF fun c hc hY=>ha ((da c hc).2.2.trans hY)
theorem zn0 (h:TrT T n rk):∀ (m i:Nat),i<n->∀ j ∈ zfn T m i,j<n:=by
 intro m;induction m with
 | zero=>intro i _ j hj;cases hj
 | succ m ih =>
  intro i hi j hj;rcases zt6.1 hj with rfl | hj
  . exact hi
  obtain⟨c,hc,hj⟩:=zv5.1 hj;exact ih c (by have:=(chT_mem.1 hc).1;rw[h.len]at this;exact this) j hj
end
end Go.GL.Dom
namespace Go.Proofs.YtckdhgbepmpgiaaGreat
open Go.GL Go.GL.Dom
theorem TreeG.trt (h:TreeG g R order pl T):TrT T g.length (fun i=>lk pl i):=⟨h.sol.len,fun j q hj hq=>by
 by_cases h0:j=0
 .
  subst h0;have:=h.sol.out 0 hj (.inr rfl);rw[xO this]at hq;omega
 .
  obtain⟨q',h1,h2,h3⟩:=h.up hj h0
  grind⟩
theorem TreeG.rk0 (h:TreeG g R order pl T) (hi:i<g.length):0<=lk pl i:=xP h.ord h.place (h.all i hi)
theorem TreeG.rk1 (h:TreeG g R order pl T) (hor:order.length<=g.length) (hi:i<g.length):lk pl i<g.length:=by
 have h1:=zar h.place (h.rk0 hi);have:=(zt4.1 h1.1).1;omega
theorem TreeG.anc (h:TreeG g R order pl T):∀ (k:Nat) (i:Nat),lk pl i<=k->i<g.length->AncT T 0 i:=by
 intro k;induction k with
 | zero =>
  intro i hk hi;by_cases h0:i=0
  . subst h0;exact .refl
  obtain⟨q,h1,h2,h3⟩:=h.up hi h0;have:=h.rk0 h2;omega
 | succ k ih =>
  intro i hk hi;by_cases h0:i=0
  . subst h0;exact .refl
  obtain⟨q,h1,h2,h3⟩:=h.up hi h0;exact .step h1 (ih q tO h2)
theorem TreeG.walk (h:TreeG g R order pl T) (hor:order.length<=g.length) (h0:0<g.length):(zfn T (g.length+1) 0).Perm (List.range g.length):=by
 rw[zvn];intro j;by_cases hj:j<g.length
 . rw[h.trt.count _ 0 h0 (fun j' hY _=>by have:=h.rk1 hor hY;have:=h.rk0 h0;omega) j hj,zt1 (h.anc (lk pl j).toNat j tO hj),List.nodup_range.count,zt1 (zvc.2 hj)]
 rw[zu9.2 fun hm=>hj (zn0 h.trt _ 0 h0 j hm),zu9.2 fun hm=>hj (zvc.1 hm)]
section
variable (f:Fl) (g:List Nd) (T:List Int) (of1:List Int) (ph:Nat->List Phn)
def zgN (j:Nat):Bool:=decide (0<=yr f g j)
def xY:List Nat:=zfn T (g.length+1) 0
def zcm (k:Nat):List Nat:=((xY g T).take k).filter (zgN f g)
def dfW (j:Nat):Int:=if 0<=yr f g j then ((of1.length+(zcm f g T ((xY g T).idxOf j)).length:Nat):Int) else -1
def zlv:Nat->Nat->Int->Int
 | 0,_,v=>v
 | m+1,i,v=>match zaZ (ph i) v with
  | some k=>k
  | none=>if 0<=lk T i then (if yr f g (lk T i).toNat=v then dfW f g T of1 (lk T i).toNat else zlv m (lk T i).toNat v) else v
def zdJ (i:Nat) (v:Int):Int:=zlv f g T of1 ph (g.length+1) i v
def zca (i:Nat) (v:Int):Int:=if yr f g i=v then dfW f g T of1 i else zdJ f g T of1 ph i v
def zo3 (i:Nat) (p:Phn):Phn:=⟨p.var,p.ver,p.frm,(zF g i).map fun y=>zca f g T of1 ph y p.var⟩
def zn1 (i:Nat):Sn:=⟨(ph i).map (zo3 f g T of1 ph i),(rdV f g i).map fun v=>(v,zdJ f g T of1 ph i v),dfW f g T of1 i⟩
def zcn:Sf:=⟨of1++((xY g T).filter (zgN f g)).map (yr f g),(List.range g.length).map (zn1 f g T of1 ph)⟩
structure DefOk:Prop where
 dfn:∀ j,j<g.length->0<=yr f g j->∃ x,f.vars[(yr f g j).toNat]?=some x/\x.kind=0
 no:∀ j,-1<=yr f g j
 rd:∀ j v,v ∈ rdV f g j->0<=v/\v<f.vars.length
structure PlcF (R:List (List Int)):Prop where
 len:f.vars.length<=of1.length
 ini:∀ (k:Nat) v,of1[k]?=some v->k<f.vars.length->v=(k:Int)
 new:∀ (k:Nat) v,of1[k]?=some v->f.vars.length<=k->0<=v/\∃ x,f.vars[v.toNat]?=some x/\x.kind=0
 zero:ph 0=[]
 asc:∀ i,(ph i).Pairwise fun p q=>p.var<q.var
 ver:∀ i,∀ p ∈ ph i,(f.vars.length:Int)<=p.ver/\of1[p.ver.toNat]?=some p.var
 frm:∀ i,∀ p ∈ ph i,p.frm=zg g i
 one:∀ k:Nat,f.vars.length<=k->k<of1.length->((List.range g.length).flatMap fun i=>(ph i).map (·.ver)).count (k:Int)=1
 free:∀ (i:Nat) (v:Int),i<g.length->i ≠ 0->0<=v->v<f.vars.length->zaZ (ph i) v=none->∀ z,xz R 0 z i->¬ (yr f g z=v\/∃ k,z ≠ 0/\zaZ (ph z) v=some k)
end
section
variable {ph:Nat->List Phn}
theorem zlw (F:Phn->Phn) (hF:∀ p,(F p).var=p.var/\(F p).ver=p.ver) (l:List Phn) (v:Int):zaZ (l.map F) v=zaZ l v:=by
 unfold zaZ;induction l with
 | nil=>rfl
 | cons p l ih =>
  rw[zuX];by_cases e:p.var=v
  .
   rw[zuq tD,zuq tD];simp[hF]
  rw[zup tD,zup tD];exact ih
theorem zjG (ht:TreeG g R order pl T) {v:Int}:∀ (m m' i:Nat),i<g.length->lk pl i<m->lk pl i<m'->zlv f g T of1 ph m i v=zlv f g T of1 ph m' i v:=by
 intro m;induction m with
 | zero=>intro m' i hi h _;have:=ht.rk0 hi;omega
 | succ m ih =>
  intro m' i hi h h';cases m' with
  | zero=>have:=ht.rk0 hi;omega
  | succ m' =>
   unfold zlv;split
   . rfl
   split
   .
    rename_i hT;obtain⟨h1,h2⟩:=ht.trt.up i (lk T i).toNat hi tO;split
    . rfl
    exact ih m' _ h1 tO tO
   rfl
theorem zdK (ht:TreeG g R order pl T) (hor:order.length<=g.length) (hi:i<g.length) (v:Int):zdJ f g T of1 ph i v=match zaZ (ph i) v with
  | some k=>k
  | none=>if 0<=lk T i then zca f g T of1 ph (lk T i).toNat v else v:=by
 show zlv f g T of1 ph (g.length+1) i v=_;rw[zlv];split
 . rfl
 split
 .
  rename_i hT;obtain⟨h1,h2⟩:=ht.trt.up i (lk T i).toNat hi tO;have:=ht.rk1 hor hi;unfold zca zdJ;rw[zjG ht g.length (g.length+1) _ h1 tO tO]
 rfl
theorem zjH {p:α->Bool} {l:List α} {x:α} (hx:l[k]?=some x) (hp:p x=true):(l.filter p)[((l.take k).filter p).length]?=some x:=by
 have h1:l=l.take k++x::l.drop (k+1):=by
  obtain⟨hk,hY⟩:=zt4.1 hx;have e:=zue hk;rw[hY]at e;rw[<- e,zvA]
 have h2:l.filter p=(l.take k).filter p++x::(l.drop (k+1)).filter p:=by
  grind
 rw[h2,zth (ztf _),zvX];rfl
theorem jH (ht:TreeG g R order pl T) (hor:order.length<=g.length) (h0:0<g.length):(xY g T).Perm (List.range g.length):=ht.walk hor h0
theorem zme (ht:TreeG g R order pl T) (hor:order.length<=g.length) (h0:0<g.length) (hj:j<g.length) (hd:0<=yr f g j):((xY g T).filter (zgN f g))[(zcm f g T ((xY g T).idxOf j)).length]?=some j:=by
 have hm:j ∈ xY g T:=(jH ht hor h0).mem_iff.2 (zvc.2 hj);refine zjH ?_ (by unfold zgN;exact zt2 hd);rw[zsQ (zuN hm),zuL]
theorem zgO (ht:TreeG g R order pl T) (hor:order.length<=g.length) (h0:0<g.length) (hj:j<g.length) (hd:0<=yr f g j):(of1.length:Int)<=dfW f g T of1 j/\(zcn f g T of1 ph).of_[(dfW f g T of1 j).toNat]?=some (yr f g j):=by
 have h1:=zme ht hor h0 hj hd;unfold dfW;rw[zt1 hd];refine⟨tO,?_⟩;rw[ztc];show (of1++_)[_]?=_;rw[zth tO,zvK,zt7,h1];rfl
theorem zjI (hp:PlcF f g of1 ph R) (ht:TreeG g R order pl T) (hor:order.length<=g.length) (h0:0<g.length) {v:Int} (hv:0<=v) (hn:v<f.vars.length):∀ (m i:Nat),i<g.length->zan f (zcn f g T of1 ph) (zlv f g T of1 ph m i v) v false:=by
 have hY:zan f (zcn f g T of1 ph) v v false:=by
  refine⟨hv,?_,fun h=>tD⟩;have hl:=hp.len;have e:=zsQ (show v.toNat<of1.length by omega);show (of1++_)[_]?=_;rw[ztg tO,e,hp.ini _ _ e tO];congr 1;omega
 intro m;induction m with
 | zero=>exact fun i _=>hY
 | succ m ih =>
  intro i hi;unfold zlv;split
  .
   rename_i k hk;obtain⟨p,da,rfl,rfl⟩:=zb0 hk;obtain⟨h1,h2⟩:=hp.ver i p da;refine⟨tO,?_,fun h=>tO⟩;show (of1++_)[_]?=_;rw[ztg (zt4.1 h2).1,h2]
  split
  .
   rename_i hT;obtain⟨h1,_⟩:=ht.trt.up i (lk T i).toNat hi tO;split
   .
    rename_i hd;obtain⟨h3,h4⟩:=zgO (f:=f) (of1:=of1) (ph:=ph) ht hor h0 h1 tO;rw[hd]at h4;exact⟨tO,h4,fun h=>tD⟩
   grind
  exact hY
theorem zn2 (hp:PlcF f g of1 ph R) (ht:TreeG g R order pl T) (hor:order.length<=g.length) (h0:0<g.length) {v:Int} (hv:0<=v) (hn:v<f.vars.length) (hi:i<g.length):zan f (zcn f g T of1 ph) (zca f g T of1 ph i v) v false:=by
 unfold zca;split
 .
  rename_i hd;obtain⟨h3,h4⟩:=zgO (f:=f) (of1:=of1) (ph:=ph) ht hor h0 hi tO;rw[hd]at h4;exact⟨tO,h4,fun h=>tD⟩
 exact zjI hp ht hor h0 hv hn _ i hi
theorem qQ (hi:i<g.length):zm (zcn f g T of1 ph) i=zn1 f g T of1 ph i:=yE (by show ((List.range g.length).map _)[i]?=_;rw[zt7,zuE hi];rfl)
theorem zb4 (hi:i<g.length) (v:Int):zbT (zcn f g T of1 ph) i v=zaZ (ph i) v:=by
 unfold zbT;rw[qQ hi];show zaZ ((ph i).map (zo3 f g T of1 ph i)) v=zaZ (ph i) v;exact zlw (zo3 f g T of1 ph i) (fun _=>JI) _ _
theorem zgP {z:Nat} (ha:Dfs.Reach R root a) (hz:¬ Dfs.Reach R root z):∃ k,AvN R root z k a:=by
 induction ha with
 | refl=>exact⟨0,.start fun e=>hz (e ▸ .refl)⟩
 | @step a b ha he ih =>
  obtain⟨k,hk⟩:=ih;exact⟨k+1,.step hk he fun e=>hz (e ▸ .step ha he)⟩
theorem zjJ (hd:DefOk f g) (hp:PlcF f g of1 ph R) (ht:TreeG g R order pl T) (hor:order.length<=g.length) (h0:0<g.length):FormF f g (zcn f g T of1 ph) (rdV f g):=by
 have dx:=hp.len;have hW:=jH ht hor h0;have dt:∀ j ∈ xY g T,j<g.length:=fun j hj=>zvc.1 (hW.mem_iff.1 hj);have dy:(xY g T).Nodup:=hW.nodup_iff.2 zvg
 have dc:∀ (i:Nat) p,p ∈ ph i->0<=p.var/\p.var<f.vars.length:=fun i p hY=>by
  obtain⟨h1,h2⟩:=hp.ver i p hY;obtain⟨h3,x,h4,_⟩:=hp.new _ _ h2 tO;have:=(zt4.1 h4).1;omega
 refine⟨⟨?_,fun k v hk dz=>?_,fun k v hk dA=>?_⟩,?_,fun n x hx=>?_,fun k dB dC=>?_⟩
 .
  show f.vars.length<=(of1++_).length
  grind
 .
  have hk:(of1++_)[k]?=some v:=hk;rw[ztg tO]at hk;exact hp.ini k v hk dz
 .
  have hk:(of1++((xY g T).filter (zgN f g)).map (yr f g))[k]?=some v:=hk;by_cases hl:k<of1.length
  . rw[ztg hl]at hk;exact hp.new k v hk dA
  rw[zth tO,zt7]at hk;obtain⟨j,hj,rfl⟩:=zw4.1 hk;obtain⟨dg,dh⟩:=zv4.1 (zsR hj);have da:=of_decide_eq_true dh;exact⟨da,hd.dfn j (dt j dg) da⟩
 .
  show ((List.range g.length).map _).length=_
  grind
 .
  have hn:n<g.length:=by
   have h1:((List.range g.length).map (zn1 f g T of1 ph))[n]?=some x:=hx;have:=(zt4.1 h1).1;simpa using this
  obtain rfl:zn1 f g T of1 ph n=x:=by rw[<- qQ hn,yE hx]
  refine⟨⟨fun e=>?_,?_,fun p hY=>?_,fun p hY=>?_,fun p hY=>?_,fun p hY a ha=>?_⟩,fun e=>?_,fun e=>?_,?_,fun u hu=>?_⟩
  . subst e;show (ph 0).map _=[];rw[hp.zero];rfl
  . exact List.Pairwise.map _ (fun _ _ h=>h) (hp.asc n)
  .
   obtain⟨q,hq,rfl⟩:=zv8.1 hY;obtain⟨h1,h2⟩:=hp.ver n q hq;refine⟨show 0<=q.ver by omega,?_,fun _=>h1⟩;show (of1++_)[q.ver.toNat]?=some q.var;rw[ztg (zt4.1 h2).1,h2]
  .
   obtain⟨q,hq,rfl⟩:=zv8.1 hY;exact hp.frm n q hq
  .
   obtain⟨q,hq,rfl⟩:=zv8.1 hY;show ((zF g n).map _).length=q.frm.length;rw[hp.frm n q hq];unfold zg
   grind
  .
   obtain⟨q,hq,rfl⟩:=zv8.1 hY;obtain⟨y,hy,rfl⟩:=zv8.1 ha;obtain⟨h1,h2⟩:=dc n q hq;exact zn2 hp ht hor h0 h1 h2 (xK hy)
  .
   show dfW f g T of1 n=-1;unfold dfW;omega
  .
   obtain⟨h1,h2⟩:=zgO (f:=f) (of1:=of1) (ph:=ph) ht hor h0 hn e;exact⟨show 0<=dfW f g T of1 n by omega,h2,fun _=>show (f.vars.length:Int)<=dfW f g T of1 n by omega⟩
  .
   show ((rdV f g n).map _).map _=_;rw[zuY];exact List.map_id'' j1 _
  obtain⟨v,hv,rfl⟩:=zv8.1 hu;obtain⟨h1,h2⟩:=hd.rd n v hv;exact zjI hp ht hor h0 h1 h2 _ n hn
 have dl:k<(of1++((xY g T).filter (zgN f g)).map (yr f g)).length:=dC;rw[zsY,zta]at dl
 have dD:∀ i,i<g.length->dfL f g (zcn f g T of1 ph) i=(ph i).map (·.ver)++if 0<=yr f g i then [dfW f g T of1 i] else []:=fun i hi=>by
  unfold dfL;rw[qQ hi];show ((ph i).map _).map _++_=_;rw[zuY];rfl
 have dm:(qo f g (zcn f g T of1 ph)).count (k:Int)=((List.range g.length).map fun i=>((ph i).map (·.ver)).count (k:Int)+if 0<=yr f g i/\dfW f g T of1 i=(k:Int) then 1 else 0).sum:=by
  unfold qo;rw[zua];congr 1;refine zuW fun i hi=>?_;show (dfL f g (zcn f g T of1 ph) i).count (k:Int)=_;rw[dD i (zvc.1 hi),zu8];congr 1;by_cases e1:0<=yr f g i
  . grind
  grind
 have dr:∀ (F G:Nat->Nat) (l:List Nat),(l.map fun i=>F i+G i).sum=(l.map F).sum+(l.map G).sum:=fun F G l=>by
  induction l with
  | nil=>rfl
  | cons x l ih=>simp only[zuX,zvy,ih];omega
 rw[dm,dr];by_cases hl:k<of1.length
 .
  have h1:=hp.one k dB hl;rw[zua]at h1;rw[zjF fun i hi h=>?_]
  . exact h1
  have:=(zgO (f:=f) (of1:=of1) (ph:=ph) ht hor h0 (zvc.1 hi) h.1).1;omega
 have h1:((List.range g.length).map fun i=>((ph i).map (·.ver)).count (k:Int)).sum=0:=by
  have:∀ l:List Nat,(l.map fun i=>((ph i).map (·.ver)).count (k:Int)).sum=0:=fun l=>by
   induction l with
   | nil=>rfl
   | cons i l ih =>
    rw[zuX,zvy,ih,zu9.2 fun hm=>?_];obtain⟨p,hY,e⟩:=zv8.1 hm;obtain⟨_,h2⟩:=hp.ver i p hY;have:=(zt4.1 h2).1;omega
  exact this _
 rw[h1,zvZ];obtain⟨j,hj⟩:∃ j,((xY g T).filter (zgN f g))[k - of1.length]?=some j:=iC;obtain⟨dg,dh⟩:=zv4.1 (zsR hj);have da:0<=yr f g j:=of_decide_eq_true dh;have du:=dt j dg;have dE:((xY g T).filter (zgN f g)).Nodup:=List.Pairwise.filter _ dy
 have db:∀ i,i<g.length->0<=yr f g i->(dfW f g T of1 i=(k:Int) ↔ i=j):=fun i hi dw=>by
  have h2:=zme (f:=f) ht hor h0 hi dw;unfold dfW;rw[zt1 dw];constructor
  .
   intro e;have e2:(zcm f g T ((xY g T).idxOf i)).length=k - of1.length:=tO;rw[e2,hj]at h2;exact(Option.some.inj h2).symm
  rintro rfl;have h3:=(zuC (zt4.1 hj).1 dE).1 (hj.trans h2.symm);omega
 exact zfX zvg (zvc.2 du) ⟨da,(db j du da).2 rfl⟩ fun i hi h=>(db i (zvc.1 hi) h.1).1 h.2
theorem zlx (hp:PlcF f g of1 ph R) (ht:TreeG g R order pl T) (hor:order.length<=g.length) (h0:0<g.length):RenV f g (zcn f g T of1 ph) f.vars.length R T (zdJ f g T of1 ph):=by
 refine⟨fun v hv hn=>?_,fun i v k hi _ hk=>?_,fun i q v hi _ hk hq=>?_,fun i v hi db hv hn hk z hz h=>?_⟩
 .
  rw[zdK ht hor h0,hp.zero];show (if 0<=lk T 0 then _ else v)=v;rw[zt0];rw[xO (ht.sol.out 0 h0 (.inr rfl))];decide
 .
  rw[zb4 hi]at hk;rw[zdK ht hor hi,hk]
 .
  rw[zb4 hi]at hk;rw[zdK ht hor hi,hk];have dc:=(ht.trt.up i q hi hq).1;show (if 0<=lk T i then _ else v)=_;rw[zt1 tO,hq,ztc];unfold yW zca;rw[qQ dc];rfl
 rw[zb4 hi]at hk
 have dg:z<g.length:=by
  obtain⟨a,ha,_,hY,_⟩:=hz;by_cases da:z<g.length
  . exact da
  exfalso
  have hr:Dfs.Reach R 0 z:=by
   have:=hY
   exact Classical.byContradiction fun dh=>by
    have dl:∃ k,AvN R 0 z k a:=zgP ha dh;obtain⟨k,hk⟩:=dl;exact hY k hk
  exact da (ht.lt z hr)
 refine hp.free i v hi db hv hn hk z hz ?_;rcases h with h | ⟨k,h1,h2⟩
 . omega
 rw[zb4 dg]at h2
 grind
theorem zjK (hd:DefOk f g) (hp:PlcF f g of1 ph R) (ht:TreeG g R order pl T) (hor:order.length<=g.length) (h0:0<g.length):RightF f g (zcn f g T of1 ph) (rdV f g):=by
 have hF:=zjJ hd hp ht hor h0;have hS:=(zlx hp ht hor h0).sol ht hF.nn;have db:∀ (i:Nat) (v:Int),i<g.length->0<=v->v<f.vars.length->inV f g (zcn f g T of1 ph) i v=zdJ f g T of1 ph i v:=fun i v hi hv hn=>(hS.is hF.nn hv hn hi).symm
 have hY:∀ (n:Nat) x,(zcn f g T of1 ph).nodes[n]?=some x->n<g.length/\x=zn1 f g T of1 ph n:=fun n x hx=>by
  have hn:n<g.length:=by
   have h1:((List.range g.length).map (zn1 f g T of1 ph))[n]?=some x:=hx;have:=(zt4.1 h1).1;simpa using this
  exact⟨hn,by rw[<- qQ hn,yE hx]⟩
 refine⟨hF,fun n x hx u hu=>?_,fun n x hx p dc i y a hy ha=>?_⟩
 .
  obtain⟨hn,rfl⟩:=hY n x hx;obtain⟨v,hv,rfl⟩:=zv8.1 hu;obtain⟨h1,h2⟩:=hd.rd n v hv
  grind
 obtain⟨hn,rfl⟩:=hY n x hx;obtain⟨q,hq,rfl⟩:=zv8.1 dc;have hy:q.frm[i]?=some y:=hy;rw[hp.frm n q hq]at hy;unfold zg at hy;have ha:((zF g n).map fun y=>zca f g T of1 ph y q.var)[i]?=some a:=ha;rw[zt7]at hy ha;obtain⟨z,hz,rfl⟩:=zw4.1 hy;rw[hz]at ha;obtain rfl:=Option.some.inj ha;have da:=xK (zsR hz);obtain⟨h1,h2⟩:=hp.ver n q hq;obtain⟨h3,x,h4,_⟩:=hp.new _ _ h2 tO;have h5:=(zt4.1 h4).1;show zaG f g (zcn f g T of1 ph) (z:Int).toNat q.var=_;rw[ztc];unfold zaG yW zca;rw[qQ da,db z q.var da h3 tO];rfl
end
open Go.GL Go.GL.Dom
section
variable (f:Fl) (g:List Nd) (T:List Int) (of1:List Int) (ph:Nat->List Phn)
def inK (k i:Nat):Bool:=decide (i ∈ (xY g T).take k)
def ofK (k:Nat):List Int:=of1++(zcm f g T k).map (yr f g)
def dsK (k i:Nat):Int:=if inK g T k i=true then dfW f g T of1 i else -1
def usK (k i:Nat):List (Int × Int):=if inK g T k i=true then (rdV f g i).map fun v=>(v,zdJ f g T of1 ph i v) else []
def alK (k i:Nat) (v:Int):List Int:=(zF g i).map fun y=>if inK g T k y=true then zca f g T of1 ph y v else 0
end
section
variable {ph:Nat->List Phn}
theorem zdL (i:Nat):inK g T 0 i=false:=by unfold inK;rw[zvF];simp
theorem za7 (h:(xY g T)[k]?=some i) (j:Nat):inK g T (k+1) j=(inK g T k j || decide (j=i)):=by
 unfold inK;rw[zvz,h]
 grind
theorem zn3 (hn:(xY g T).Nodup) (h:(xY g T)[k]?=some i):inK g T k i=false:=by
 unfold inK;rw[decide_eq_false_iff_not];intro hm;obtain⟨j,hj⟩:=zv7.1 hm;rw[ztm]at hj;split at hj
 .
  rename_i hY;have:=(zuC (zt4.1 hj).1 hn).1 (hj.trans h.symm);omega
 cases hj
theorem idxW (hn:(xY g T).Nodup) (h:(xY g T)[k]?=some i):(xY g T).idxOf i=k:=by
 have hm:=zsR h;have h1:(xY g T)[(xY g T).idxOf i]?=some i:=by rw[zsQ (zuN hm),zuL]
 exact(zuC (zuN hm) hn).1 (h1.trans h.symm)
theorem zly:ofK f g T of1 0=of1:=by unfold ofK zcm;rw[zvF];simp
theorem zlz (h:(xY g T)[k]?=some i):ofK f g T of1 (k+1)=if 0<=yr f g i then ofK f g T of1 k++[yr f g i] else ofK f g T of1 k:=by
 have e:zcm f g T (k+1)=zcm f g T k++if 0<=yr f g i then [i] else []:=by
  unfold zcm;rw[zvz,h,zum];congr 1;by_cases hd:0<=yr f g i
  . rw[zt1 hd];show [i].filter (zgN f g)=[i];rw[zuo (by unfold zgN;exact zt2 hd)];rfl
  rw[zt0 hd];show [i].filter (zgN f g)=[];rw[zun (by unfold zgN;simpa using hd)];rfl
 unfold ofK;rw[e];split
 . rw[zuV,<- zu2];rfl
 rw[zu3]
theorem zn4 (hn:(xY g T).Nodup) (h:(xY g T)[k]?=some i) (hd:0<=yr f g i):dfW f g T of1 i=((ofK f g T of1 k).length:Int):=by
 unfold dfW ofK
 grind
theorem znR (hd:¬ 0<=yr f g i):dfW f g T of1 i=-1:=by unfold dfW;rw[zt0 hd]
theorem zlA (i:Nat):dsK f g T of1 0 i=-1:=by unfold dsK;rw[zdL];rfl
theorem zlB (h:(xY g T)[k]?=some i) (j:Nat):dsK f g T of1 (k+1) j=if j=i then dfW f g T of1 i else dsK f g T of1 k j:=by
 unfold dsK;rw[za7 h];by_cases e:j=i
 . subst e;simp
 rw[zt0 e];simp[e]
theorem zlC (i:Nat):usK f g T of1 ph 0 i=[]:=by unfold usK;rw[zdL];rfl
theorem zlD (h:(xY g T)[k]?=some i) (j:Nat):usK f g T of1 ph (k+1) j=if j=i then (rdV f g i).map (fun v=>(v,zdJ f g T of1 ph i v)) else usK f g T of1 ph k j:=by
 unfold usK;rw[za7 h];by_cases e:j=i
 . subst e;simp
 rw[zt0 e];simp[e]
theorem zlE (i:Nat) (v:Int):alK f g T of1 ph 0 i v=List.replicate (zF g i).length 0:=by
 unfold alK;rw[zuW (g:=fun _=>(0:Int)) fun y _=>by rw[zdL];rfl];exact List.map_const'
theorem zlF (h:(xY g T)[k]?=some i) (hj:i ∉ zF g j) (v:Int):alK f g T of1 ph (k+1) j v=alK f g T of1 ph k j v:=by
 unfold alK;refine zuW fun y hy=>?_;have hY:y ≠ i:=fun e=>hj tD;rw[za7 h,zt3 hY,ztJ]
theorem zlG (_:(xY g T).Nodup) (h:(xY g T)[k]?=some i) {p:Nat} (hp:(zF g j)[p]?=some i) (v:Int):alK f g T of1 ph (k+1) j v=(alK f g T of1 ph k j v).set p (zca f g T of1 ph i v):=by
 have da:(zF g j).Nodup:=List.Pairwise.filter _ zvg;have hY:=(zt4.1 hp).1;unfold alK;apply zul;intro q;rw[zuH,zt7];by_cases e:p=q
 .
  subst e;rw[zt1 rfl,zta,zt1 hY,hp,zw5,za7 h];simp
 rw[zt0 e,zt7];cases hq:(zF g j)[q]? with
 | none=>rfl
 | some y =>
  have hy:y ≠ i:=fun hy=>e ((zuC hY da).1 (hp.trans (hy ▸ hq.symm)));simp only[zw5];rw[za7 h,zt3 hy,ztJ]
theorem zfY (ht:TreeG g R order pl T) (hor:order.length<=g.length) (h0:0<g.length) (hi:i<g.length):inK g T (xY g T).length i=true:=by
 unfold inK;rw[zsV,decide_eq_true_iff];exact(jH ht hor h0).mem_iff.2 (zvc.2 hi)
theorem zn5 (ht:TreeG g R order pl T) (hor:order.length<=g.length) (h0:0<g.length) :
  zcn f g T of1 ph=⟨ofK f g T of1 (xY g T).length,(List.range g.length).map fun i=>⟨(ph i).map (fun p=>⟨p.var,p.ver,p.frm,alK f g T of1 ph (xY g T).length i p.var⟩),usK f g T of1 ph (xY g T).length i,dsK f g T of1 (xY g T).length i⟩⟩:=by
 unfold zcn ofK zcm;rw[zsV];congr 1;refine zuW fun i hi=>?_;have hi:=zvc.1 hi;unfold zn1 usK dsK;rw[zt1 (zfY ht hor h0 hi),zt1 (zfY ht hor h0 hi)];congr 1;refine zuW fun p _=>?_;unfold zo3 alK;congr 1;refine zuW fun y hy=>?_;rw[zt1 (zfY ht hor h0 (xK hy))]
end
end Go.Proofs.YtckdhgbepmpgiaaGreat
namespace Go.GL
structure RowsC (kk:Nat) (e:TypeId) (w:World) (rv:List Value) (cl:List (List Value)):Prop where
 len:rv.length=cl.length
 row:∀ (i:Nat) (v:Value) (c:List Value),rv[i]?=some v->cl[i]?=some c->∃ m,w.ownsRow 0 e kk v m c
 apart:∀ (i j:Nat) (vi vj:Value) (g:Nat),i ≠ j->rv[i]?=some vi->rv[j]?=some vj->vi.ownBlock=some g->vj.ownBlock ≠ some g
section
variable {w1:World}
theorem RowsC.blk (h:RowsC kk e w rv cl) {g:Nat} (hv:rv[i]?=some v) (hg:v.ownBlock=some g):g<w.heap.size:=by
 have hi:i<cl.length:=by rw[<- h.len];exact(zt4.1 hv).1
 obtain⟨m,hm⟩:=h.row i v _ hv (zsQ hi);exact xA hm hg
theorem RowsC.keep {S:Nat->Prop} (h:RowsC kk e w rv cl) (hk:Keep S w w1) (hS:∀ (i:Nat) v g,rv[i]?=some v->v.ownBlock=some g->¬ S g):RowsC kk e w1 rv cl :=
 ⟨h.len,fun i v r hv hr=>by obtain⟨m,hm⟩:=h.row i v r hv hr;exact⟨m,zi hm hk (fun g hg=>hS i v g hv hg)⟩,h.apart⟩
theorem RowsC.put (h:RowsC kk e w rv cl) {v':Value} {c':List Value} (hv:rv[i]?=some v) (da:w1.ownsRow 0 e kk v' m c') (dt:v'.ownBlock=v.ownBlock\/∃ g,v'.ownBlock=some g/\w.heap.size<=g) (hk:Keep (fun q=>v.ownBlock=some q) w w1):RowsC kk e w1 (rv.set i v') (cl.set i c'):=by
 have db:=(zt4.1 hv).1
 have dh:∀ (j:Nat) u g,i ≠ j->rv[j]?=some u->v'.ownBlock=some g->u.ownBlock ≠ some g:=by
  intro j u g hY hu hg dl;rcases dt with hf | ⟨g',hf,dm⟩
  . exact h.apart i j v u g hY hv hu (hf ▸ hg) dl
  rw[hf]at hg;cases hg;have:=h.blk hu dl;omega
 refine⟨by simp[h.len],fun j u r hu hr=>?_,fun a b va vb g dc ha hb hg=>?_⟩
 .
  by_cases hY:i=j
  .
   subst hY;rw[zuJ db]at hu;rw[zuJ tD]at hr;cases hu;cases hr;exact⟨m,da⟩
  rw[zuI hY]at hu hr;obtain⟨m',du⟩:=h.row j u r hu hr;exact⟨m',zi du hk fun g hg hq=>h.apart i j v u g hY hv hu hq hg⟩
 by_cases dg:i=a
 .
  subst dg;rw[zuJ db]at ha;rw[zuI dc]at hb;cases ha;exact dh b vb g dc hb hg
 rw[zuI dg]at ha;by_cases dr:i=b
 .
  subst dr;rw[zuJ db]at hb;cases hb;exact fun dm=>dh a va g dg ha dm hg
 rw[zuI dr]at hb;exact h.apart a b va vb g dc ha hb hg
end
abbrev RowsCP (kk:Nat) (e:TypeId) (rv:List Value) (cl:List (List Value)):HE:=.res (fun q=>∃ (i:Nat) (v:Value),rv[i]?=some v/\v.ownBlock=some q) (fun w=>RowsC kk e w rv cl)
theorem RowsCP.loc:(RowsCP kk e rv cl).loc:=fun _ _ _ h hk hT=>h.keep hk fun i v g hv hg=>hT g (h.blk hv hg) ⟨i,v,hv,hg⟩
section
variable {n:Fm}
variable {ty:TypeId} {ps:String} {g:Option (Nat × Bool)}
theorem zsG (ia k kb j i:Nat) {x:Operand} {tb:TypeId}
  (hu:P.underlying t=some (.slice e)) (he:(P.info? e).map (fun i=>(i.zero,i.size,i.bytes))=some (some z,kk,by')) (dl:z.cells.size=kk) (dm:0<kk)
  (hi:ops[ia]?=some ⟨some d,.call ⟨.builtin .append,#[x,y],#[t,t]⟩,ty,ps,aft,g⟩) (hr:Region.ready .any ops listed=[ia]) (hB:Bs.drop j=B0)
  (hn:(Nat.blt d n,gd ops env g,hget H k,qv H k,hget H kb,ev env x,ev env y,qa (Hs.map (·.1)),qj k (Hs.map (·.1)))=(true,some true,some (RowsCP kk e rv cl),none,some (.own b xs tb),some v,some (.slice (some ⟨b,0,none⟩) 1 c),true,true))
  (hl:xs.length=kk) (dr:∀ u ∈ xs,u.oneCell'=true) (hv:rv[i]?=some v) (hY:cl[i]?=some cs) (hb:∀ m,cs.length=m*kk->m+1<=9223372036854775807/\(m+1)*by'<=140737488355328)
  (h:∀ u,Go.GL.one u=true->VD P n Q ks ops Hs B0 L fuel (listed.setIfInBounds ia true) ((d,u)::env) ((d,none)::A) (hset H k (RowsCP kk e (rv.set i u) (cl.set i (cs++xs)))) Bs):VD P n Q ks ops Hs B0 L (fuel+1) listed env A H Bs:=by
 simp only[Prod.mk.injEq]at hn;subst hB;obtain⟨h1,h2,h3,h4,h5,h6,h7,h9,dt⟩:=hn;intro hH hA w hI;have hM:RowsC kk e w rv cl:=hI.at k h3;have du:=(zt4.1 hv).1;obtain⟨m,hm⟩:=hM.row i v cs hv hY;obtain⟨dw,dx⟩:=hb m hm.1;refine zra ia hi hr h1 h2 (.inl (M.append (j:=1) (news:=xs) hu he dl dm h6 h7 hm tO (Cells.add (Blk.cells (hI.at kb h5))) dr dw dx)) ?_;rintro u w1 ⟨ho,hf,da,_⟩;have db:=hM.put hv ho hf da
 have dc:VI Bs (hset H k (RowsCP kk e (rv.set i u) (cl.set i (cs++xs)))) w1:=hI.set h3 (da.mono fun q _ hq=>⟨i,v,hv,hq⟩) db RowsCP.loc (fun _ h=>h) fun q hq=>by
  refine⟨?_,?_⟩
  .
   obtain⟨j,vj,hj,hq⟩:=hq;by_cases dg:i=j
   .
    subst dg;rw[zuJ du]at hj;cases hj;rcases hf with hf | ⟨g',hf,dy⟩
    . exact .inl ⟨i,v,hv,hf ▸ hq⟩
    grind
   rw[zuI dg]at hj;exact .inl ⟨j,vj,hj,hq⟩
  obtain⟨j,vj,hj,hq⟩:=hq;exact db.blk hj hq
 have dh:Has Hs (hset H k (RowsCP kk e (rv.set i u) (cl.set i (cs++xs)))):=hH.set h3 dt;obtain⟨au,cu,rfl,_,_⟩:=xU ho;exact UO
end
end Go.GL
namespace Go.Proofs.YtckdhgbepmpgiaaGreat
open Go.GL Go.GL.Dom
def RPw (hasf:Nat->Option Addr × Nat × Nat):Rel (Phn × Nat):=fun D w x cs=>∃ fh,cs=[.int .i64 x.1.var,.int .i64 x.1.ver,fh,.slice (hasf x.2).1 (hasf x.2).2.1 (hasf x.2).2.2]/\SlR 1 zw D w fh x.1.frm
theorem zjL (hY:Nat->Option Addr × Nat × Nat):yl (RPw hY):=fun _ _ _ _ hD hk _ _ ⟨u,h0,h1⟩=>⟨u,h0,h1.stable zc hD hk⟩
abbrev Clo:=Nat × Nat × Nat
def znS (c:Clo):Deferred:=⟨.fn (.func 149) #[.pointer (some ⟨c.1,0,none⟩),.pointer (some ⟨c.2.1,0,none⟩)],#[]⟩
def CloOk (b:Nat) (w:World) (cl:List Clo):Prop:=∀ c ∈ cl,Blk w c.1 [.pointer (some ⟨b,0,none⟩)] 121/\Blk w c.2.1 [.int .i64 c.2.2] 3
abbrev CloP (b:Nat) (cl:List Clo):HE:=.res (fun q=>∃ c ∈ cl,q=c.1\/q=c.2.1) (fun w=>CloOk b w cl)
theorem CloP.loc {cl:List Clo}:(CloP b cl).loc:=fun _ _ _ h hk hT c hc=>⟨hk.blk (h c hc).1 (fun hY=>hT _ (h c hc).1.lt ⟨c,hc,.inl rfl⟩ hY),hk.blk (h c hc).2 (fun hY=>hT _ (h c hc).2.lt ⟨c,hc,.inr rfl⟩ hY)⟩
abbrev CloQ (b:Nat) (cl:List Clo) (bx:Nat):HE:=.res (fun q=>(∃ c ∈ cl,q=c.1\/q=c.2.1)\/q=bx) (fun w=>CloOk b w cl/\Blk w bx [.pointer (some ⟨b,0,none⟩)] 121)
theorem CloQ.loc {bx:Nat} {cl:List Clo}:(CloQ b cl bx).loc:=fun w w' T h hk hT=>⟨CloP.loc w w' T h.1 hk (fun q hq hs=>hT q hq (.inl hs)),hk.blk h.2 (fun h'=>hT _ h.2.lt (.inr rfl) h')⟩
theorem CloOk.cons {cl:List Clo} {c:Clo} (h:CloOk b w cl) (h1:Blk w c.1 [.pointer (some ⟨b,0,none⟩)] 121) (h2:Blk w c.2.1 [.int .i64 c.2.2] 3):CloOk b w (c::cl):=fun d hd=>by
 rcases zt6.1 hd with rfl | hd
 . grind
 exact h d hd
def jt (rows:List (List Int)) (v:Nat) (k:Int):List (List Int):=rows.set v ((rows[v]?.getD [])++[k])
def yS (rows:List (List Int)) (l:List (Nat × Int)):List (List Int):=l.foldl (fun r p=>jt r p.1 p.2) rows
theorem zcb (rows:List (List Int)) (v:Nat) (k:Int):(jt rows v k).length=rows.length:=by unfold jt;rw[zuU]
theorem jR (rows:List (List Int)) (l:List (Nat × Int)) (p:Nat × Int):yS rows (l++[p])=jt (yS rows l) p.1 p.2:=by unfold yS;rw[zuy];rfl
theorem qR (l:List (Nat × Int)):∀ rows,(yS rows l).length=rows.length:=by
 induction l with
 | nil=>exact fun _=>rfl
 | cons p l ih=>intro rows;show (yS (jt rows p.1 p.2) l).length=_;rw[ih,zcb]
theorem popR {v:Nat} {k:Int} (hv:v<rows.length):(jt rows v k)[v]?=some ((rows[v]?.getD [])++[k])/\(jt rows v k).set v (rows[v]?.getD [])=rows:=by
 unfold jt;refine⟨by rw[zuJ hv],?_⟩;rw[zvv];have e:=zsQ hv;rw[e];exact set_same e
def za8 (l:List (Phn × Nat)) (t:Nat):List (Nat × Int):=(l.take t).map fun p=>(p.1.var.toNat,p.1.ver)
theorem zfb {t:Nat} (h:l[t]?=some p):za8 l (t+1)=za8 l t++[(p.1.var.toNat,p.1.ver)]:=by unfold za8;rw[ze h,zuV];rfl
theorem zdM {t:Nat} (h:t<=l.length):(za8 l t).length=t:=by unfold za8;rw[zta,ztk];omega
theorem zlH {fn:Func} (dt:fn.results=#[]) {tmps:Array Value} {R:Ending->World->Prop} (b gb:Nat) (ofv ndv chv cuv:Value) (rows:List (List Int)) (l:List (Nat × Int)) (hl:∀ p ∈ l,p.1<rows.length) (du:∀ q,∀ r ∈ yS rows (l.take q),r.length<=1000000000) (w0:World) (S0:Nat->Prop) (dw:∀ q,w0.heap.size<=q->S0 q)
  (hR:∀ rv w,rv.length=rows.length->Held (zhK b gb ofv ndv chv cuv rv rows) w->Keep S0 w0 w->(∀ q,HS (zhK b gb ofv ndv chv cuv rv rows) q->S0 q)->R (.returned (.tuple #[])) w) :
  ∀ (q:Nat) (cls:List Clo) (rv:List Value) (w:World),q<=l.length->cls.map (·.2.2)=((l.take q).map (·.1)).reverse->rv.length=rows.length->Held (zhK b gb ofv ndv chv cuv rv (yS rows (l.take q))) w->CloOk b w cls->(∀ c ∈ cls,¬ S0 c.1/\¬ S0 c.2.1)->Keep S0 w0 w->(∀ x,HS (zhK b gb ofv ndv chv cuv rv (yS rows (l.take q))) x->S0 x)->Leaves prog fn tmps R (cls.map znS) .returning w:=by
 intro q;induction q with
 | zero =>
  intro cls rv w _ hc dc hE _ _ hk hS;rw[zvF]at hc hE hS
  have:cls=[]:=by
   cases cls with
   | nil=>rfl
   | cons c cls=>simp at hc
  subst this;exact⟨.tuple #[],results_none dt _ _ _,hR rv w dc hE hk hS⟩
 | succ q ih =>
  intro cls rv w hq hc dc hE dh dg hk hS;obtain⟨p,hp⟩:∃ p,l[q]?=some p:=iC;have dl:l.take (q+1)=l.take q++[p]:=ze hp;rw[dl,zuV,zvs]at hc;cases cls with
  | nil=>simp at hc
  | cons c cls =>
   obtain⟨dx,dy⟩:c.2.2=p.1/\cls.map (·.2.2)=((l.take q).map (·.1)).reverse:=tD;have dm:p.1<(yS rows (l.take q)).length:=by rw[qR];exact hl p (zsR hp)
   have da:yS rows (l.take (q+1))=jt (yS rows (l.take q)) p.1 p.2:=by rw[dl,jR]
   obtain⟨dz,dA⟩:=popR (k:=p.2) dm;rw[da]at hE hS
   have db:((yS rows (l.take q))[p.1]?.getD []).length<=1000000000:=by
    have e:=zsQ dm;rw[e];exact du q _ (zsR e)
   have hb:=dh c (zsU ..);have dr:=dg c (zsU ..);refine leaves_cons (f:=149) (args:=#[.pointer (some ⟨c.1,0,none⟩),.pointer (some ⟨c.2.1,0,none⟩)]) (fun h=>tD) (by simp[invoke,call149]) ?_;refine(zjw p.1 p.2 _ rv _ dz db (by rw[zcb,qR];exact dc) b gb ofv ndv chv cuv w hE c.1 c.2.1 (Blk.cells hb.1) (dx ▸ Blk.cells hb.2) (fun x hx=>⟨fun e=>dr.1 (e ▸ hS x hx),fun e=>dr.2 (e ▸ hS x hx)⟩)).mono ?_;rintro e u w' ⟨rfl,v,rfl,y,rfl,hY⟩;rw[dA]at hY;have dB:Keep S0 w0 w':=hk.trans hY.keep fun x _ hx=>hS x hx;refine ih cls (rv.set p.1 y) w' tO dy tD hY.held (fun d hd=>?_) (fun d hd=>dg d (zsT _ hd)) dB (fun x hx=>?_)
   .
    obtain⟨h1,h2⟩:=dh d (zsT _ hd);obtain⟨h3,h4⟩:=dg d (zsT _ hd);exact⟨hY.keep.blk h1 (fun hx=>h3 (hS _ hx)),hY.keep.blk h2 (fun hx=>h4 (hS _ hx))⟩
   obtain⟨z,hz,dC⟩:=hx;rcases hY.new z hz x dC with h1 | h1
   . grind
   exact dw x (by have:=hk.size;omega)
end Go.Proofs.YtckdhgbepmpgiaaGreat
namespace Go.GL
abbrev NodP (g:Nat) (cs:List Value) (e:TypeId):HE:=.res (fun q=>q=g) (fun w=>Blk w g cs e)
theorem NodP.loc {g:Nat}:(NodP g cs e).loc:=fun _ _ _ h hk hT=>hk.blk h (hT g (show Blk _ g cs e from h).lt rfl)
end Go.GL
namespace Go.Proofs.YtckdhgbepmpgiaaGreat
open Go.GL Go.GL.Dom
def zlI (u:Int × Int):List Value:=[.int .i64 u.1,.int .i64 u.2]
def phW (pw:Nat->List (Phn × Nat)) (j:Nat):List Phn:=(pw j).map (·.1)
structure StW (f:Fl) (g:List Nd) (T of1:List Int) (pw:Nat->List (Phn × Nat)) (hpf:Nat->Value) (k:Nat) (ofl:List Int) (ndc hus:List Value) (ucs:List (List Value)) (als:List (List Int)):Prop where
 of:ofl=ofK f g T of1 k
 hl:hus.length=g.length
 ul:ucs.length=g.length
 nl:g.length*3<=ndc.length
 n0:∀ j,j<g.length->ndc[j*3]?=some (hpf j)
 n1:∀ j,j<g.length->ndc[j*3+1]?=hus[j]?
 n2:∀ j,j<g.length->ndc[j*3+2]?=some (.int .i64 (dsK f g T of1 k j))
 us:∀ j,j<g.length->ucs[j]?=some ((usK f g T of1 (phW pw) k j).flatMap zlI)
 al:∀ j,j<g.length->∀ (q:Nat) p,(pw j)[q]?=some p->als[p.2]?=some (alK f g T of1 (phW pw) k j p.1.var)
def zom (g:List Nd) (pw:Nat->List (Phn × Nat)):Prop:=∀ j j',j<g.length->j'<g.length->∀ (q q':Nat) p p',(pw j)[q]?=some p->(pw j')[q']?=some p'->p.2=p'.2->j=j'/\q=q'
abbrev zjM (b gb bn cn nl:Nat) (ofv chv cuv:Value) (ofl:List Int) (rv:List Value) (rows:List (List Int)) (ndc hus:List Value) (ucs:List (List Value)) (has:List Value) (als:List (List Int)):Hp :=
 [(900,.own b (rnm gb ofv (.slice (some ⟨bn,0,none⟩) nl cn) chv cuv) 123),(901,.row 3 1 ofv ofl.length (ofl.map zb)),(902,.row 27 1 cuv rv.length rv),(903,RowsP zb 3 rv rows),(904,NodP bn ndc 59),(907,RowsCP 2 85 hus ucs),(909,RowsP zb 3 has als)]
def TopW (f:Fl) (g:List Nd) (T of1:List Int) (pw:Nat->List (Phn × Nat)) (i:Nat) (rows:List (List Int)):Prop:=∀ (v:Nat) r,rows[v]?=some r->r ≠ []/\r[r.length - 1]?=some (if i=0 then (v:Int) else zca f g T of1 (phW pw) (lk T i).toNat v)
theorem StW.next_of {hY:Nat->Value} (h:StW f g T of1 pw hY k ofl ndc da ucs als) (_:(xY g T).Nodup) (hk:(xY g T)[k]?=some i) (hi:i<g.length) {als':List (List Int)} (db:∀ j,j<g.length->∀ (q:Nat) p,(pw j)[q]?=some p->als'[p.2]?=some (alK f g T of1 (phW pw) (k+1) j p.1.var)) :
  StW f g T of1 pw hY (k+1) (if 0<=yr f g i then ofl++[yr f g i] else ofl) ((ndc.set (i*3+1) u).set (i*3+2) (.int .i64 (dfW f g T of1 i))) (da.set i u) (ucs.set i (((rdV f g i).map fun v=>(v,zdJ f g T of1 (phW pw) i v)).flatMap zlI)) als':=by
 have h3:=h.nl;refine⟨?_,by rw[zuU];exact h.hl,by rw[zuU];exact h.ul,tD,fun j hj=>?_,fun j hj=>?_,fun j hj=>?_,fun j hj=>?_,db⟩
 . rw[zlz hk,h.of]
 . rw[zuI tO,zuI tO];exact h.n0 j hj
 .
  rw[zuI tO];by_cases e:j=i
  .
   subst e;rw[zuJ tO,zuJ (by rw[h.hl];exact hj)]
  rw[zuI tO,zuI (fun e'=>e e'.symm)];exact h.n1 j hj
 .
  rw[zlB hk];by_cases e:j=i
  .
   subst e;rw[zt1 rfl,zuJ tD]
  rw[zt0 e,zuI tO,zuI tO];exact h.n2 j hj
 rw[zlD hk];by_cases e:j=i
 .
  subst e;rw[zt1 rfl,zuJ (by rw[h.ul];exact hj)]
 rw[zt0 e,zuI (fun e'=>e e'.symm)];exact h.us j hj
section
variable (f:Fl) (g:List Nd) (T of1:List Int) (pw:Nat->List (Phn × Nat)) (k:Nat)
def AlP (Dn:Nat->Nat->Prop) (als:List (List Int)):Prop:=∀ j,j<g.length->∀ (q:Nat) p,(pw j)[q]?=some p->(Dn j q->als[p.2]?=some (alK f g T of1 (phW pw) (k+1) j p.1.var))/\(¬ Dn j q->als[p.2]?=some (alK f g T of1 (phW pw) k j p.1.var))
end
section
theorem AlP.start {hY:Nat->Value} (h:StW f g T of1 pw hY k ofl ndc da ucs als):AlP f g T of1 pw k (fun _ _=>False) als:=fun j hj q p hp=>⟨fun h=>h.elim,fun _=>h.al j hj q p hp⟩
theorem AlP.imp {Dn:Nat->Nat->Prop} (h:AlP f g T of1 pw k Dn als) (hi:∀ j q,Dn j q ↔ Dn' j q):AlP f g T of1 pw k Dn' als:=fun j hj q p hp=>⟨fun hd=>(h j hj q p hp).1 ((hi j q).2 hd),fun hd=>(h j hj q p hp).2 fun h'=>hd ((hi j q).1 h')⟩
theorem zjN (k j:Nat) (v:Int):(alK f g T of1 (phW pw) k j v).length=(zF g j).length:=by unfold alK;rw[zta]
theorem AlP.step {Dn:Nat->Nat->Prop} (h:AlP f g T of1 pw k Dn als) (hd:zom g pw) (hn:(xY g T).Nodup) (hk:(xY g T)[k]?=some i) {to t:Nat} (ht:to<g.length) (hi:i ∈ zF g to) (hp:(pw to)[t]?=some p) :
  ∃ row,als[p.2]?=some row/\row.length=(zF g to).length/\(zF g to).idxOf i<row.length/\AlP f g T of1 pw k (fun j q=>Dn j q\/(j=to/\q=t)) (als.set p.2 (row.set ((zF g to).idxOf i) (zca f g T of1 (phW pw) i p.1.var))):=by
 have dg:(zF g to)[(zF g to).idxOf i]?=some i:=by rw[zsQ (zuN hi),zuL]
 have dr:=zuN hi;have dc:=zlG (f:=f) (of1:=of1) (ph:=phW pw) hn hk dg p.1.var
 obtain⟨row,hY,hset⟩:∃ row,als[p.2]?=some row/\(row.length=(zF g to).length/\row.set ((zF g to).idxOf i) (zca f g T of1 (phW pw) i p.1.var)=alK f g T of1 (phW pw) (k+1) to p.1.var):=by
  by_cases hD:Dn to t
  .
   refine⟨_,(h to ht t p hp).1 hD,zjN _ _ _,?_⟩;rw[dc,zvv]
  exact⟨_,(h to ht t p hp).2 hD,zjN _ _ _,dc.symm⟩
 have dh:=(zt4.1 hY).1;refine⟨row,hY,hset.1,tO,fun j hj q p' da=>?_⟩;rw[hset.2];by_cases e:p'.2=p.2
 .
  obtain⟨rfl,rfl⟩:=hd j to hj ht q t p' p da hp e;obtain rfl:p'=p:=Option.some.inj (da.symm.trans hp);rw[zuJ dh];exact⟨fun _=>rfl,fun dl=>absurd (.inr JI) dl⟩
 rw[zuI (fun e'=>e e'.symm)]
 have dm:¬ (j=to/\q=t):=fun⟨e1,e2⟩=>by
  grind
 exact⟨fun db=>(h j hj q p' da).1 (db.resolve_right dm),fun db=>(h j hj q p' da).2 fun h'=>db (.inl h')⟩
theorem AlP.done {Dn:Nat->Nat->Prop} (h:AlP f g T of1 pw k Dn als) (hk:(xY g T)[k]?=some i) (hY:∀ j q,j<g.length->i ∈ zF g j->q<(pw j).length->Dn j q):∀ j,j<g.length->∀ (q:Nat) p,(pw j)[q]?=some p->als[p.2]?=some (alK f g T of1 (phW pw) (k+1) j p.1.var):=fun j hj q p hp=>by
 by_cases hD:Dn j q
 . exact(h j hj q p hp).1 hD
 rw[(h j hj q p hp).2 hD,zlF hk (fun hm=>hD (hY j q hj hm (zt4.1 hp).1))]
end
open Go.GL Go.GL.Dom
def zas (r:List Int):Option Int:=r[r.length - 1]?
theorem zcV (r:List Int) (k:Int):zas (r++[k])=some k:=by
 unfold zas;rw[zsY,ztb,zvJ,zth (ztf _),zvX];rfl
theorem zfc {v:Nat} {k:Int} (hv:v<rows.length) (u:Nat):(jt rows v k)[u]?=if u=v then some ((rows[v]?.getD [])++[k]) else rows[u]?:=by
 unfold jt;by_cases e:u=v
 . subst e;rw[zt1 rfl,zuJ hv]
 rw[zt0 e,zuI (fun e'=>e e'.symm)]
theorem zjO:∀ (l:List (Nat × Int)) (rows:List (List Int)),(∀ p ∈ l,p.1<rows.length)->(l.map (·.1)).Nodup->∀ (u:Nat) r,(yS rows l)[u]?=some r->∃ r0,rows[u]?=some r0/\(r0 ≠ []->r ≠ [])/\zas r=match l.find? (fun p=>decide (p.1=u)) with
  | some p=>some p.2
  | none=>zas r0:=by
 intro l;induction l with
 | nil=>exact fun rows _ _ u r hr=>⟨r,hr,fun h=>h,rfl⟩
 | cons p l ih =>
  intro rows hl hn u r hr;have hY:=hl p (zsU ..);rw[zuX,zvf]at hn;obtain⟨r1,h1,h2,h3⟩:=ih (jt rows p.1 p.2) (fun q hq=>by rw[zcb];exact hl q (zsT _ hq)) hn.2 u r hr;rw[zfc hY]at h1;by_cases e:u=p.1
  .
   rw[zt1 e]at h1;obtain rfl:=Option.some.inj h1
   have da:l.find? (fun q=>decide (q.1=u))=none:=by
    rw[zur];intro q hq;have:q.1 ≠ u:=fun e'=>hn.1 (zv8.2 ⟨q,hq,tO⟩);simpa using this
   rw[da]at h3;rw[zuq tD];have e0:=zsQ hY;exact⟨_,by rw[e];exact e0,fun _=>h2 tZ,by rw[h3];exact zcV _ _⟩
  rw[zt0 e]at h1;rw[zup tD];exact⟨r1,h1,h2,h3⟩
section
theorem zlJ (h0:∀ p ∈ l,0<=p.1.var) (u:Nat):((za8 l l.length).find? (fun p=>decide (p.1=u))).map (·.2)=zaZ (l.map (·.1)) (u:Int):=by
 unfold za8 zaZ;rw[zsV];induction l with
 | nil=>rfl
 | cons p l ih =>
  have hp:=h0 p (zsU ..);rw[zuX,zuX];by_cases e:p.1.var=(u:Int)
  . rw[zuq tD,zuq tD];rfl
  rw[zup tD,zup tD];exact ih fun q hq=>h0 q (zsT _ hq)
theorem zjP (h0:∀ p ∈ l,0<=p.1.var) (ha:(l.map (·.1)).Pairwise fun p q=>p.var<q.var):((za8 l l.length).map (·.1)).Nodup:=by
 unfold za8;rw[zsV,zuY];rw[zvl]at ha;refine zvl.2 (ha.imp_of_mem ?_);intro a b hY da h e;have h1:=h0 a hY;have h2:=h0 b da;have e:a.1.var.toNat=b.1.var.toNat:=e;omega
theorem TopW.phis (ht:TreeG g R order pl T) (hor:order.length<=g.length) (hi:i<g.length) (h:TopW f g T of1 pw i rows) (h0:∀ p ∈ pw i,0<=p.1.var/\p.1.var<rows.length) (ha:(phW pw i).Pairwise fun p q=>p.var<q.var) (u:Nat) (r:List Int) (hr:(yS rows (za8 (pw i) (pw i).length))[u]?=some r):r ≠ []/\zas r=some (zdJ f g T of1 (phW pw) i u):=by
 obtain⟨r0,h1,h2,h3⟩:=zjO _ rows (fun p hp=>by
  unfold za8 at hp
  grind) (zjP (fun p hp=>(h0 p hp).1) ha) u r hr
 obtain⟨h4,h5⟩:=h u r0 h1;refine⟨h2 h4,?_⟩;rw[h3,zdK ht hor hi];have hf:=zlJ (l:=pw i) (fun p hp=>(h0 p hp).1) u
 show _=some (match zaZ ((pw i).map (·.1)) (u:Int) with
  | some k=>k
  | none=>_)
 rw[<- hf];cases hfd:(za8 (pw i) (pw i).length).find? (fun p=>decide (p.1=u)) with
 | some p=>rfl
 | none =>
  show zas r0=some (if 0<=lk T i then zca f g T of1 (phW pw) (lk T i).toNat u else (u:Int));unfold zas;rw[h5];by_cases e:i=0
  .
   subst e;rw[zt1 rfl,xO (ht.sol.out 0 hi (.inr rfl)),zt0 tS]
  obtain⟨q,hq,_⟩:=ht.up hi e
  grind
theorem TopW.out (h:∀ (u:Nat) r,rows1[u]?=some r->r ≠ []/\zas r=some (zdJ f g T of1 (phW pw) i u)) {v:Nat} (hd:yr f g i=v) (hv:v<rows1.length) (u:Nat) (r:List Int) (hr:(jt rows1 v (dfW f g T of1 i))[u]?=some r):r ≠ []/\zas r=some (zca f g T of1 (phW pw) i u):=by
 rw[zfc hv]at hr;unfold zca;by_cases e:u=v
 .
  rw[zt1 e]at hr;obtain rfl:=Option.some.inj hr;rw[zt1 tO];exact⟨tZ,zcV _ _⟩
 grind
end
open Go.GL Go.GL.Dom
section
def PreW (g:List Nd) (T:List Int) (k m i:Nat):Prop:=∃ rest,(xY g T).drop k=zfn T m i++rest
def Deep (T:List Int) (pl:List Int) (n m i:Nat):Prop:=∀ j,j<n->AncT T i j->lk pl j - lk pl i<m
theorem PreW.at (h:PreW g T k (m+1) i):(xY g T)[k]?=some i:=by
 obtain⟨rest,h⟩:=h;have:((xY g T).drop k)[0]?=some i:=by rw[h];rfl
 grind
theorem PreW.child (h:PreW g T k (m+1) i) {s:Nat} (hs:(chT T i)[s]?=some c):PreW g T (k+1+(((chT T i).take s).flatMap (zfn T m)).length) m c:=by
 obtain⟨rest,h⟩:=h
 have h1:chT T i=(chT T i).take s++c::(chT T i).drop (s+1):=by
  obtain⟨hk,hx⟩:=zt4.1 hs;have e:=zue hk;rw[hx]at e;rw[<- e,zvA]
 refine⟨((chT T i).drop (s+1)).flatMap (zfn T m)++rest,?_⟩;rw[zvG,<- zud,h];show ((i::(chT T i).flatMap (zfn T m))++rest).drop (1+_)=_;rw[zvH 1,zu5,List.drop_succ_cons]
 conv=>lhs;rhs;rw[h1]
 rw[zus,zut,zu2,zu2,List.drop_left]
theorem Deep.child (ht:TreeG g R order pl T) (h:Deep T pl g.length (m+1) i) (hc:c ∈ chT T i):Deep T pl g.length m c:=fun j hj ha=>by
 obtain⟨h1,h2⟩:=chT_mem.1 hc;rw[ht.sol.len]at h1;have h3:=(ht.trt.up c i h1 h2).2;have h4:=h j hj (AncT.trans (.step h2 .refl) ha);omega
theorem Deep.pos (h:Deep T pl g.length m i) (hi:i<g.length):0<m:=by
 have:=h i hi .refl;omega
theorem PreW.start (T:List Int):PreW g T 0 (g.length+1) 0:=⟨[],by rw[zu3];rfl⟩
theorem TreeG.deep (ht:TreeG g R order pl T) (hor:order.length<=g.length) (h0:0<g.length):Deep T pl g.length (g.length+1) 0:=fun j hj _=>by
 have:=ht.rk1 hor hj;have:=ht.rk0 h0;omega
theorem TopW.child (ht:TreeG g R order pl T) (hc:c ∈ chT T i) (h:∀ (u:Nat) r,rows[u]?=some r->r ≠ []/\zas r=some (zca f g T of1 (phW pw) i u)):TopW f g T of1 pw c rows:=fun v r hr=>by
 obtain⟨h1,h2⟩:=chT_mem.1 hc;rw[ht.sol.len]at h1
 have hY:c ≠ 0:=fun e=>by
  subst e;have:=xO (ht.sol.out 0 h1 (.inr rfl));omega
 rw[zt0 hY,h2,ztc];exact h v r hr
theorem TopW.same (h:∀ (u:Nat) r,rows1[u]?=some r->r ≠ []/\zas r=some (zdJ f g T of1 (phW pw) i u)) (hd:yr f g i<0) (u:Nat) (r:List Int) (hr:rows1[u]?=some r):r ≠ []/\zas r=some (zca f g T of1 (phW pw) i u):=by
 unfold zca
 grind
end
end Go.Proofs.YtckdhgbepmpgiaaGreat
namespace Go.GL
theorem zsH (h:Blk w b cs e) (hv:cs[j]?=some v) (ho:o=j):w.cell? ⟨b,o,none⟩=some v:=by
 subst ho;have:=Blk.cells h o v hv
 grind
section
variable {dst:Option Tmp} {ty:TypeId} {pos:String} {g:Option (Nat × Bool)}
theorem zsI {x:Operand} (hs:∀ w,(sizeOf t).run P w=.ok 1 w) (hb:Blk w b cs e) (hx:ev env x=some (.pointer (some ⟨b,o,none⟩))) (hy:ev env y=some v) (h1:Go.GL.one v=true) (ho:o=j) (hl:j<cs.length) :
  xT P ⟨dst,.store t x y,ty,pos,aft,g⟩ env w (fun w'=>(NodP b (cs.set j v) e).holds w'/\Keep (NodP b cs e).S w w'/\∀ q,(NodP b (cs.set j v) e).S q->((NodP b cs e).S q\/w.heap.size<=q)/\q<w'.heap.size):=by
 subst ho;obtain⟨c1,c2⟩:=xQ h1;obtain⟨w',hr,h2,h3,h4⟩:=M.store (dst:=dst) (ty:=ty) (pos:=pos) (aft:=aft) (g:=g) hs hx hy c1 c2 hb hl;exact⟨w',hr,h3,h4,fun q hq=>⟨.inl hq,by have hq:q=b:=hq;subst hq;exact h3.lt⟩⟩
end
section
variable {n:Fm}
variable {ty:TypeId} {ps:String} {g:Option (Nat × Bool)} {op:Op}
theorem zsJ (is k:Nat) {e e':HE} (hi:ops[is]?=some ⟨none,op,ty,ps,aft,g⟩) (hr:Region.ready .any ops listed=[is]) (hn:(gd ops env g,hget H k,qv H k,L.contains is)=(some true,some e,none,true)) (hl:e'.loc) (hz:∀ b,¬ e'.fz b)
  (hm:∀ w,VI Bs H w->xT P ⟨none,op,ty,ps,aft,g⟩ env w (fun w'=>e'.holds w'/\Keep e.S w w'/\∀ q,e'.S q->(e.S q\/w.heap.size<=q)/\q<w'.heap.size))
  (h:VDx P n Q ks ops (VI B0 Hs) L fuel (listed.setIfInBounds is true) env A (hset H k e') Bs):VD P n Q ks ops Hs B0 L (fuel+1) listed env A H Bs:=by
 simp only[Prod.mk.injEq]at hn;obtain⟨h2,h3,h4,h6⟩:=hn;intro hH hA w hI;refine zrD is hi hr h2 h6 (hm w hI) ?_;rintro w2 ⟨hh,hk,hS⟩;exact h (hA.res h3 h4) w2 (hI.set h3 hk hh hl hz hS)
end
theorem Held.perm {E:Hp} (h:Held E w) (hp:E.Perm E'):Held E' w :=
 ⟨fun x hx=>h.1 x (hp.mem_iff.2 hx),(hp.pairwise_iff fun hY q hq h'=>hY q h' hq).1 h.2⟩
theorem GBack.perm {E:Hp} (h:GBack E0 E w w') (hp:E.Perm E'):GBack E0 E' w w':=⟨h.keep,h.held.perm hp,fun x hx q hq=>h.new x (hp.mem_iff.2 hx) q hq⟩
theorem GBack.join {A A' B:Hp} {w0:World} (h:GBack E0 (A++B) w w0) (h':GBack A A' w0 w'):GBack E0 (A'++B) w w':=by
 have hA:∀ q,HS A q->HS E0 q\/w.heap.size<=q:=fun q ⟨x,hx,hq⟩=>h.new x (zv2 _ hx) q hq
 have hB:∀ y ∈ B,∀ q,y.2.S q->q<w0.heap.size/\¬ HS A q:=fun y hy q hq=>by
  refine⟨(h.held.1 y (zv3 _ hy)).2.2.2 q hq,?_⟩;rintro⟨x,hx,hY⟩;exact(zvi.1 h.held.2).2.2 x hx y hy q hY hq
 refine⟨h.keep.trans h'.keep fun q da hq=>(hA q hq).resolve_right tO,⟨fun x hx=>?_,zvi.2 ⟨h'.held.2,(zvi.1 h.held.2).2.1,fun x hx y hy q hq hY=>?_⟩⟩,fun x hx q hq=>?_⟩
 .
  rcases zt9.1 hx with hx | hx
  . exact h'.held.1 x hx
  obtain⟨h1,h2,h3,h4⟩:=h.held.1 x (zv3 _ hx);exact⟨HE.keep h1 h2 h'.keep (fun q hq=>(hB x hx q hq).2) (fun b hb=>absurd hb (h3 b)),h2,h3,fun q hq=>by have:=h4 q hq;have:=h'.keep.size;omega⟩
 .
  obtain⟨h1,h2⟩:=hB y hy q hY;rcases h'.new x hx q hq with h3 | h3
  . grind
  omega
 have hs:=h.keep.size;rcases zt9.1 hx with hx | hx
 .
  rcases h'.new x hx q hq with h3 | h3
  . grind
  omega
 exact h.new x (zv3 _ hx) q hq
end Go.GL
namespace Go.Proofs.YtckdhgbepmpgiaaGreat
open Go.GL Go.GL.Dom
theorem zlK {B:Nat}:∀ (l:List (Nat × Int)) (rows:List (List Int)),(∀ r ∈ rows,r.length<=B)->∀ r ∈ yS rows l,r.length<=B+l.length:=by
 intro l;induction l generalizing B with
 | nil=>exact fun rows h r hr=>h r hr
 | cons p l ih =>
  intro rows h r hr
  have:=ih (B:=B+1) (jt rows p.1 p.2) (fun r hr=>by
   unfold jt at hr;rcases zvb hr with hr | rfl
   . grind
   .
    rw[zsY,ztb];by_cases e:p.1<rows.length
    .
     rw[zsQ e];have:=h _ (zuM e);show (rows[p.1]).length+1<=_;omega
    .
     rw[zte tO];show 0+1<=B+1
     omega) r hr
  rw[ztj];omega
theorem zjQ {N:Nat}:∀ (l:List (Nat × Int)) (rows:List (List Int)),(∀ r ∈ rows,r.length+(c+l.length)<=N)->∀ r ∈ yS rows l,r.length+c<=N:=by
 intro l;induction l with
 | nil=>exact fun rows h r hr=>h r hr
 | cons p l ih =>
  intro rows h r hr;refine ih (jt rows p.1 p.2) (fun r hr=>?_) r hr;rw[ztj]at h;unfold jt at hr;by_cases e:p.1<rows.length
  .
   rcases zvb hr with hr | rfl
   . grind
   rw[zsY,ztb,zsQ e];have:=h _ (zuM e);show (rows[p.1]).length+1+_<=_;omega
  rw[List.set_eq_of_length_le tO]at hr
  grind
theorem zlL {l:List Nat}:(l.map fun y:Nat=>(y:Int)).idxOf (i:Int)=l.idxOf i:=by
 induction l with
 | nil=>rfl
 | cons y l ih =>
  rw[zuX,List.idxOf_cons,List.idxOf_cons,ih];by_cases e:y=i
  . grind
  grind
def zdN (f:Fl) (g:List Nd) (T of1:List Int) (l:List (Phn × Nat)) (i:Nat):List (Nat × Int):=za8 l l.length++(if 0<=yr f g i then [((yr f g i).toNat,dfW f g T of1 i)] else [])
theorem zgQ (f:Fl) (g:List Nd) (T of1:List Int) (l:List (Phn × Nat)) (i:Nat):(zdN f g T of1 l i).length<=l.length+1:=by
 unfold zdN;rw[zsY,zdM (ztf _)]
 grind
theorem zn6 (f:Fl) (g:List Nd) (T of1:List Int) (k:Nat):(ofK f g T of1 k).length<=of1.length+(xY g T).length:=by
 unfold ofK zcm
 grind
theorem zlM (hk:GOk f g) (hi:i<g.length):(rdV f g i).length<=100000:=by
 obtain⟨x,hx⟩:∃ x,g[i]?=some x:=⟨_,zsQ hi⟩;unfold rdV rdN;rw[yg hx];split
 .
  rename_i hb;have hY:=of_decide_eq_true hb;have h2:=hk.at hx tO;refine zsW (Gr.compactL_len _) ?_;rw[xv];exact h2.2.2
 grind
theorem AlP.imp2 {Dn:Nat->Nat->Prop} (h:AlP f g T of1 pw k Dn als) (hi:∀ j q,q<(pw j).length->(Dn j q ↔ Dn' j q)):AlP f g T of1 pw k Dn' als:=fun j hj q p hp=>by
 have hq:=(zt4.1 hp).1;exact⟨fun hd=>(h j hj q p hp).1 ((hi j q hq).2 hd),fun hd=>(h j hj q p hp).2 fun h'=>hd ((hi j q hq).1 h')⟩
theorem zon {a b c d e f g:Nat × HE}:([a,c,d]++[b,e,f,g]).Perm [a,b,c,d,e,f,g]:=(List.perm_middle (l₁:=[c,d]) (l₂:=[e,f,g])).cons a
theorem zgR (hl:rv.length=rows.length) (h1:w.ownsRow 0 27 1 v rv.length rv) (h2:RowsOk zb 3 w rv rows):SlR 1 (RSl 1 zw) (fun _=>True) w v rows:=zbZ (hl ▸ h1) h2 (fun _ _=>trivial) (fun _ _ _ _ _=>trivial)
def chL (T:List Int) (n:Nat):List (List Int):=(List.range n).map fun i=>(chT T i).map fun c:Nat=>(c:Int)
theorem zn7 {n:Nat} (h:i<n):(chL T n)[i]?=some ((chT T i).map fun c:Nat=>(c:Int)):=by unfold chL;rw[zt7,zuE h];rfl
structure WkG (f:Fl) (g:List Nd) (R:List (List Int)) (order:List Nat) (pl T of1:List Int) (pw:Nat->List (Phn × Nat)):Prop where
 ht:TreeG g R order pl T
 hor:order.length<=g.length
 hk:GOk f g
 pr:PrOk f g
 df:DefOk f g
 small:g.length<=10000
 few:f.vars.length<=1000
 ofs:of1.length<=100000000
 asc:∀ i,i<g.length->(phW pw i).Pairwise fun p q=>p.var<q.var
 var:∀ i,i<g.length->∀ p ∈ pw i,0<=p.1.var/\p.1.var<f.vars.length
 frm:∀ i,i<g.length->∀ p ∈ pw i,p.1.frm=zg g i
 len:∀ i,i<g.length->(pw i).length<=1000
 dis:zom g pw
theorem zsK {R:Rel α} {R':Rel β} {l:List α} (F:α->β) (h:SlR k R D w v l) (hR:∀ (i:Nat) x cs,l[i]?=some x->R D w x cs->R' D w (F x) cs):SlR k R' D w v (l.map F):=by
 obtain⟨ao,cap,h1,h2,h3,h4⟩:=h;refine⟨ao,cap,tD,tD,h3,fun i x hx=>?_⟩;rw[zt7]at hx;obtain⟨y,hy,rfl⟩:=zw4.1 hx;obtain⟨b,o,cs,h5,h6,h7,h8,h9⟩:=h4 i y hy;exact⟨b,o,cs,h5,h6,h7,h8,hR i y cs hy h9⟩
theorem zjR {da:Nat->Value}
  (ht:TreeG g R order pl T) (hor:order.length<=g.length) (h0:0<g.length) (hY:StW f g T of1 pw da (xY g T).length ofl ndc db ucs als) {has:Nat->Option Addr × Nat × Nat} {hasv:List Value} {eo en eu ea:TypeId} {ofv:Value} {bn cn:Nat}
  (dg:w.ownsRow 0 eo 1 ofv ofl.length (ofl.map zb)) (hB:Blk w bn ndc en) (dh:g.length<=cn/\cn<=9223372036854775807) (hU:RowsC 2 eu w db ucs) (hA:RowsOk zb ea w hasv als) (hP:∀ j,j<g.length->SlR 4 (RPw has) D w (da j) (pw j))
  (dc:∀ j,j<g.length->∀ (q:Nat) p,(pw j)[q]?=some p->hasv[p.2]?=some (.slice (has p.2).1 (has p.2).2.1 (has p.2).2.2))
  (d1:∀ q,ofv.ownBlock=some q->D q) (d2:D bn) (d3:∀ (i:Nat) v q,db[i]?=some v->v.ownBlock=some q->D q) (d4:∀ (i:Nat) v q,hasv[i]?=some v->v.ownBlock=some q->D q) :
  RSf D w (zcn f g T of1 (phW pw)) ofv (.slice (some ⟨bn,0,none⟩) g.length cn):=by
 rw[zn5 ht hor h0];refine⟨?_,?_⟩
 .
  show SlR 1 zw D w ofv (ofK f g T of1 (xY g T).length);rw[<- hY.of];exact zpI zb iA dg d1
 refine⟨some ⟨bn,0,none⟩,cn,tD,tD,dh.2,fun i x hx=>?_⟩;rw[zt7]at hx;obtain⟨j,hj,rfl⟩:=zw4.1 hx;have hi:i<g.length:=by have:=(zt4.1 hj).1;simpa using this
 rw[zuE hi]at hj;obtain rfl:=Option.some.inj hj;obtain⟨u,hu⟩:∃ u,db[i]?=some u:=⟨_,zsQ (by rw[hY.hl];exact hi)⟩;obtain⟨m,hm⟩:=hU.row i u _ hu (hY.us i hi);refine⟨bn,0,[da i,u,.int .i64 (dsK f g T of1 (xY g T).length i)],rfl,d2,rfl,fun q v hq=>?_,da i,u,rfl,?_,zpJ tS zlI j1 iA hm (fun q hq=>d3 i u q hu hq)⟩
 .
  have hc:=Blk.cells hB
  match q,hq with
  | 0,hq =>
   obtain rfl:=Option.some.inj hq;have:=hc (i*3) _ (hY.n0 i hi);simpa using this
  | 1,hq =>
   obtain rfl:=Option.some.inj hq;have:=hc (i*3+1) _ ((hY.n1 i hi).trans hu);simpa[zvG] using this
  | 2,hq =>
   obtain rfl:=Option.some.inj hq;have:=hc (i*3+2) _ (hY.n2 i hi);simpa[zvG] using this
 show SlR 4 zm9 D w (da i) ((phW pw i).map _);unfold phW;rw[zuY];refine zsK _ (hP i hi) fun q p cs hp dl=>?_;obtain⟨fh,rfl,dm⟩:=dl;exact⟨fh,_,rfl,dm,zpI zb iA (hA.row p.2 _ _ (dc i hi q p hp) (hY.al i hi q p hp)) (fun b hb=>d4 p.2 _ b (dc i hi q p hp) hb)⟩
end Go.Proofs.YtckdhgbepmpgiaaGreat
namespace Go.GL.Dom
section
variable {R':List (List Int)}
theorem zfZ (h:∀ a b,Dfs.Edge R a b ↔ Dfs.Edge R' a b) (hr:Dfs.Reach R root b):Dfs.Reach R' root b:=by
 induction hr with
 | refl=>exact .refl
 | step _ he ih=>exact .step ih ((h _ _).1 he)
theorem zfd (h:∀ a b,Dfs.Edge R a b ↔ Dfs.Edge R' a b) {x:Nat} (ha:AvN R root x k b):AvN R' root x k b:=by
 induction ha with
 | start hne=>exact .start hne
 | step _ he hne ih=>exact .step ih ((h _ _).1 he) hne
theorem zfe (h:∀ a b,Dfs.Edge R a b ↔ Dfs.Edge R' a b) {x:Nat}:Dom R root x b ↔ Dom R' root x b :=
 ⟨fun hd k hk=>hd k (zfd (fun a b=>(h a b).symm) hk),fun hd k hk=>hd k (zfd h hk)⟩
theorem zg0 (h:∀ a b,Dfs.Edge R a b ↔ Dfs.Edge R' a b) {x:Nat}:xz R root x b ↔ xz R' root x b:=by
 have main:∀ {R R':List (List Int)},(∀ a b,Dfs.Edge R a b ↔ Dfs.Edge R' a b)->xz R root x b->xz R' root x b:=fun {R R'} h=>by
  rintro⟨a,h1,h2,h3,h4⟩;exact⟨a,zfZ h h1,(h a b).1 h2,(zfe h).1 h3,fun h5=>h4 ⟨h5.1,(zfe h).2 h5.2⟩⟩
 exact⟨main h,main fun a b=>(h a b).symm⟩
end
end Go.GL.Dom
namespace Go.Proofs.YtckdhgbepmpgiaaGreat
open Go.GL Go.GL.Dom
theorem zff {Fr Fr':Nat->Nat->Prop} (h:∀ a b,Fr a b ↔ Fr' a b) {nodes:List Int} (hi:ItS Fr nodes b):ItS Fr' nodes b:=by
 induction hi with
 | node hn hf=>exact .node hn ((h _ _).1 hf)
 | it _ hf ih=>exact .it ih ((h _ _).1 hf)
def pwE (nv:Nat) (g:List Nd) (E:List (Nat × Nat)) (i:Nat):List (Phn × Nat):=E.zipIdx.filterMap fun e=>if e.1.2=i then some (⟨(e.1.1:Int),((nv+e.2:Nat):Int),zg g i,[]⟩,e.2) else none
def ofE (nv:Nat) (E:List (Nat × Nat)):List Int:=(List.range nv).map (fun v:Nat=>(v:Int))++E.map fun e=>(e.1:Int)
def zo4 (a b:Nat × Nat):Prop:=a.1<b.1\/(a.1=b.1/\a.2<b.2)
section
theorem zat:(ofE nv E).length=nv+E.length:=by unfold ofE;rw[zsY,zta,zta,zuS]
theorem zlN (v i:Nat):ofE nv (E++[(v,i)])=ofE nv E++[(v:Int)]:=by unfold ofE;rw[zuV,<- zu2];rfl
theorem zgS (v j i:Nat):pwE nv g (E++[(v,j)]) i=pwE nv g E i++if j=i then [(⟨(v:Int),((nv+E.length:Nat):Int),zg g i,[]⟩,E.length)] else []:=by
 unfold pwE;rw[List.zipIdx_append,List.filterMap_append];congr 1;show List.filterMap _ [((v,j),0+E.length)]=_;rw[zvZ];by_cases e:j=i
 .
  rw[zt1 e,List.filterMap_cons_some (b:=(⟨(v:Int),((nv+E.length:Nat):Int),zg g i,[]⟩,E.length)) (by simp[e])];rfl
 rw[zt0 e,List.filterMap_cons_none (by simp[e])];rfl
theorem mem_pwE {x:Phn × Nat}:x ∈ pwE nv g E i ↔ ∃ v a:Nat,E[a]?=some (v,i)/\x=(⟨(v:Int),((nv+a:Nat):Int),zg g i,[]⟩,a):=by
 unfold pwE;rw[List.mem_filterMap];constructor
 . grind
 rintro⟨v,a,ha,rfl⟩;exact⟨((v,i),a),List.mem_zipIdx_iff_getElem?.2 ha,tZ⟩
theorem zdO (hE:E.Pairwise zo4) (i:Nat):(pwE nv g E i).Pairwise fun x y=>x.2<y.2/\x.1.var<y.1.var:=by
 have main:∀ k,k<=E.length->(pwE nv g (E.take k) i).Pairwise fun x y=>x.2<y.2/\x.1.var<y.1.var:=by
  intro k;induction k with
  | zero=>intro _;exact .nil
  | succ k ih =>
   intro hk;obtain⟨⟨v,j⟩,he⟩:∃ e,E[k]?=some e:=iC;rw[ze he,zgS];by_cases e:j=i
   .
    rw[zt1 e,zvi];refine⟨ih tO,zvm _ _,fun x hx y hy=>?_⟩;rw[zt8]at hy;subst hy;obtain⟨v',a,ha,rfl⟩:=mem_pwE.1 hx;rw[ztm]at ha;split at ha
    .
     rename_i hY;have hl:(E.take k).length=k:=tD;rw[hl];refine⟨hY,?_⟩;have h1:=zvk.1 hE a k tO tO hY;rw[(zt4.1 ha).2,(zt4.1 he).2]at h1;subst e;rcases h1 with h1 | ⟨_,h1⟩
     . grind
     omega
    cases ha
   grind
 have:=main E.length (ztf _);rwa [zsV]at this
theorem zn8 (hE:E.Pairwise zo4):zom g (pwE nv g E):=by
 intro j j' _ _ q q' p p' hp hY e;obtain⟨v,a,ha,rfl⟩:=mem_pwE.1 (zsR hp);obtain⟨v',a',da,rfl⟩:=mem_pwE.1 (zsR hY);obtain rfl:a=a':=e;rw[ha]at da;obtain⟨rfl,rfl⟩:v=v'/\j=j':=tD;refine⟨rfl,?_⟩;have h1:=zvk.1 (zdO (nv:=nv) (g:=g) hE j);obtain⟨hq,eq⟩:=zt4.1 hp;obtain⟨db,eq'⟩:=zt4.1 hY;rcases zvS q q' with h | h | h
 . grind
 . exact h
 grind
theorem zn9 (hE:E.Pairwise zo4) (hv:∀ e ∈ E,e.1<nv) (i:Nat):(pwE nv g E i).length<=nv:=by
 have h1:=zdO (nv:=nv) (g:=g) hE i
 have h2:(((pwE nv g E i).map fun x=>x.1.var.toNat)).Pairwise (·<·):=by
  rw[zvl];refine h1.imp_of_mem fun {x y} hx hy h=>?_;obtain⟨v,a,_,rfl⟩:=mem_pwE.1 hx;obtain⟨v',a',_,rfl⟩:=mem_pwE.1 hy;have:=h.2;dsimp only at this ⊢;omega
 have h3:∀ x ∈ (pwE nv g E i).map (fun x=>x.1.var.toNat),x<nv:=fun x hx=>by
  obtain⟨y,hy,rfl⟩:=zv8.1 hx;obtain⟨v,a,ha,rfl⟩:=mem_pwE.1 hy
  grind
 have h4:=Dfs.nodup_le nv _ (h2.imp (fun h=>Nat.ne_of_lt h)) h3;rwa [zta]at h4
end
open Go.GL Go.GL.Dom
theorem zcc {n:Nat} (h:Succs n es R) (hY:∀ a b:Nat,((a:Int),(b:Int)) ∈ es->a<n) (a b:Nat):Dfs.Edge R a b ↔ ((a:Int),(b:Int)) ∈ es:=by
 constructor
 .
  rintro⟨r,hr,hb⟩;exact(h.mem a r hr b).1 hb
 intro hm;have e:=zsQ (show a<R.length by rw[h.len];exact hY a b hm);exact⟨_,e,(h.mem a _ e b).2 hm⟩
theorem zg1 {n:Nat} {Rw':List (List Int)} {o o':List Nat} {pl' T':List Int} (h:Known n root es Rw o pl T) (h':Known n root es Rw' o' pl' T') (hY:∀ a b:Nat,((a:Int),(b:Int)) ∈ es->a<n) (a b:Nat):xz Rw root a b ↔ xz Rw' root a b:=zg0 fun x y=>by rw[zcc h.succ hY,zcc h'.succ hY]
def zoo (f:Fl) (v:Nat):Prop:=∃ x,f.vars[v]?=some x/\x.kind=0
def za9 (f:Fl) (g:List Nd) (i v:Nat):List Int:=0::(((List.range i).filter fun z=>decide (yr f g z=(v:Int))).map fun z:Nat=>(z:Int))
theorem zfg (f:Fl) (g:List Nd) (i v:Nat):za9 f g (i+1) v=za9 f g i v++if yr f g i=(v:Int) then [(i:Int)] else []:=by
 unfold za9;rw[zvp,zum,zuV];by_cases e:yr f g i=(v:Int)
 . rw[zt1 e,zuo (by simpa using e)];rfl
 rw[zt0 e,zun (by simpa using e)];rfl
theorem zlO (f:Fl) (g:List Nd) (i v:Nat):(za9 f g i v).length<=i+1:=by
 unfold za9
 grind
theorem dfsI_mem {v:Nat} {z:Nat}:(z:Int) ∈ za9 f g i v ↔ z=0\/(z<i/\yr f g z=(v:Int)):=by
 unfold za9;rw[zt6,zv8];constructor
 .
  rintro (h | ⟨y,hy,e⟩)
  . exact .inl tO
  obtain⟨h1,h2⟩:=zv4.1 hy;obtain rfl:y=z:=tO;exact .inr ⟨zvc.1 h1,of_decide_eq_true h2⟩
 rintro (rfl | ⟨h1,h2⟩)
 . exact .inl O
 exact .inr ⟨z,zv4.2 ⟨zvc.2 h1,zt2 h2⟩,rfl⟩
theorem zlP {v:Nat} (h:(za9 f g i v).length=1):∀ z,z<i->yr f g z ≠ (v:Int):=fun z hz e=>by
 have hm:z ∈ (List.range i).filter fun z=>decide (yr f g z=(v:Int)):=zv4.2 ⟨zvc.2 hz,zt2 e⟩;unfold za9 at h
 grind
theorem zjS {v:Nat} (h:(za9 f g i v).length ≠ 1):∃ z,z<i/\yr f g z=(v:Int):=by
 unfold za9 at h;rw[ztj,zta]at h;obtain⟨z,hz⟩:=List.exists_mem_of_length_pos (show 0<((List.range i).filter fun z=>decide (yr f g z=(v:Int))).length by omega);obtain⟨h1,h2⟩:=zv4.1 hz;exact⟨z,zvc.1 h1,of_decide_eq_true h2⟩
def znT (f:Fl) (g:List Nd) (Fr:Nat->Nat->Prop) (v i:Nat):Prop:=zoo f v/\(∃ z,z<g.length/\yr f g z=(v:Int))/\ItS Fr (za9 f g g.length v) i
structure PlcV (f:Fl) (g:List Nd) (Fr:Nat->Nat->Prop) (v:Nat) (E:List (Nat × Nat)):Prop where
 asc:E.Pairwise zo4
 mem:∀ u i,(u,i) ∈ E ↔ u<v/\znT f g Fr u i
section
variable {Fr:Nat->Nat->Prop} {v:Nat}
theorem PlcV.start (f:Fl) (g:List Nd) (Fr:Nat->Nat->Prop):PlcV f g Fr 0 []:=⟨.nil,fun u i=>tZ⟩
theorem PlcV.skip (h:PlcV f g Fr v E) (hn:∀ i,¬ znT f g Fr v i):PlcV f g Fr (v+1) E:=⟨h.asc,fun u i=>by
 rw[h.mem];constructor
 . grind
 .
  rintro⟨h1,h2⟩;refine⟨?_,h2⟩;by_cases e:u=v
  . grind
  .
   omega⟩
def zgT (E:List (Nat × Nat)) (v:Nat) (L:List Int):List (Nat × Nat):=E++L.map fun y=>(v,y.toNat)
theorem zjT {L:List Int} {y:Int} (h:L[k]?=some y):zgT E v (L.take (k+1))=zgT E v (L.take k)++[(v,y.toNat)]:=by
 unfold zgT;rw[ze h,zuV,<- zu2];rfl
theorem PlcV.step (h:PlcV f g Fr v E) {L:List Int} (hL:L.Pairwise (·<·)) (hl:zoo f v) (hd:∃ z,z<g.length/\yr f g z=(v:Int)) (hm:∀ y:Int,y ∈ L ↔ ∃ b:Nat,y=(b:Int)/\ItS Fr (za9 f g g.length v) b):PlcV f g Fr (v+1) (zgT E v L):=by
 refine⟨?_,fun u i=>?_⟩
 .
  unfold zgT;rw[zvi];refine⟨h.asc,?_,fun x hx y hy=>?_⟩
  .
   rw[zvl];refine hL.imp_of_mem fun {a b} ha hb hY=>?_;obtain⟨a',rfl,_⟩:=(hm a).1 ha;obtain⟨b',rfl,_⟩:=(hm b).1 hb;exact .inr ⟨rfl,tO⟩
  obtain⟨z,_,rfl⟩:=zv8.1 hy;exact .inl ((h.mem x.1 x.2).1 hx).1
 unfold zgT;rw[zt9,h.mem,zv8];constructor
 .
  rintro (⟨h1,h2⟩ | ⟨y,hy,e⟩)
  . grind
  obtain⟨b,rfl,hb⟩:=(hm y).1 hy;cases e;exact⟨tO,hl,hd,tD⟩
 rintro⟨h1,h2⟩;by_cases e:u=v
 .
  subst e;exact .inr ⟨(i:Int),(hm i).2 ⟨i,rfl,h2.2.2⟩,tD⟩
 grind
end
theorem zjU {Fr:Nat->Nat->Prop} {nodes:List Int} (h:ItS Fr nodes b):∃ a,Fr a b:=by
 cases h with
 | node _ hf=>exact⟨_,hf⟩
 | it _ hf=>exact⟨_,hf⟩
theorem zgU (ht:TreeG g R order pl T) (h0:zF g 0=[]) {nodes:List Int} (h:ItS (xz R 0) nodes b):b<g.length/\b ≠ 0:=by
 obtain⟨a,c,h1,h2,_⟩:=zjU h;have hb:=ht.lt b (.step h1 h2);refine⟨hb,fun e=>?_⟩;subst e;have:=(ht.edge c 0 hb).1 h2;rw[h0]at this;cases this
theorem zsL (ht:TreeG g R order pl T) (h0:zF g 0=[]) (dl:DefOk f g) (h:PlcV f g (xz R 0) f.vars.length E):PlcF f g (ofE f.vars.length E) (phW (pwE f.vars.length g E)) R:=by
 have dm:∀ (k:Nat) v,(ofE f.vars.length E)[k]?=some v->f.vars.length<=k->∃ e,E[k - f.vars.length]?=some e/\v=(e.1:Int):=fun k v hk dg=>by
  unfold ofE at hk;rw[zth tD,zta,zuS,zt7]at hk;obtain⟨e,he,rfl⟩:=zw4.1 hk;exact⟨e,he,rfl⟩
 have hY:∀ (i:Nat) p,p ∈ phW (pwE f.vars.length g E) i->∃ v a:Nat,E[a]?=some (v,i)/\p=⟨(v:Int),((f.vars.length+a:Nat):Int),zg g i,[]⟩:=fun i p hp=>by
  obtain⟨x,hx,rfl⟩:=zv8.1 hp;obtain⟨v,a,ha,rfl⟩:=mem_pwE.1 hx
  grind
 have da:∀ (i v:Nat),(v,i) ∈ E->zaZ (phW (pwE f.vars.length g E) i) (v:Int) ≠ none:=fun i v hm e=>by
  obtain⟨a,ha⟩:=zv7.1 hm;exact zgq e _ (zv8.2 ⟨_,mem_pwE.2 ⟨v,a,ha,rfl⟩,rfl⟩) O
 refine⟨by rw[zat];omega,fun k v hk dr=>?_,fun k v hk dg=>?_,?_,fun i=>?_,fun i p hp=>?_,fun i p hp=>?_,fun k dx dt=>?_,fun i v hi dy hv hn db z hz hF=>?_⟩
 .
  unfold ofE at hk;rw[ztg tD,zt7,zuE dr]at hk;exact(Option.some.inj hk).symm
 .
  obtain⟨e,he,rfl⟩:=dm k v hk dg;obtain⟨_,⟨x,hx,h3⟩,_⟩:=(h.mem e.1 e.2).1 (zsR he)
  grind
 .
  apply zuh.2;intro p hp;obtain⟨v,a,ha,_⟩:=hY 0 p hp;exact(zgU ht h0 ((h.mem v 0).1 (zsR ha)).2.2.2).2 O
 .
  show ((pwE f.vars.length g E i).map (·.1)).Pairwise _;rw[zvl];exact(zdO h.asc i).imp fun h=>h.2
 .
  obtain⟨v,a,ha,rfl⟩:=hY i p hp;refine⟨show (f.vars.length:Int)<=((f.vars.length+a:Nat):Int) by omega,?_⟩;show (ofE f.vars.length E)[((f.vars.length+a:Nat):Int).toNat]?=some (v:Int);rw[ztc];unfold ofE;rw[zth tD,zta,zuS,zvK,zt7,ha];rfl
 . grind
 .
  rw[zat]at dt;obtain⟨⟨v,i⟩,he⟩:∃ e,E[k - f.vars.length]?=some e:=iC;have hi:=(zgU ht h0 ((h.mem v i).1 (zsR he)).2.2.2).1
  have dz:∀ j,(k:Int) ∈ (phW (pwE f.vars.length g E) j).map (·.ver) ↔ j=i:=fun j=>by
   constructor
   . grind
   rintro rfl;refine zv8.2 ⟨_,zv8.2 ⟨_,mem_pwE.2 ⟨v,_,he,rfl⟩,rfl⟩,?_⟩;show ((f.vars.length+(k - f.vars.length):Nat):Int)=(k:Int);omega
  have dA:∀ j,((phW (pwE f.vars.length g E) j).map (·.ver)).Nodup:=fun j=>by
   show (((pwE f.vars.length g E j).map (·.1)).map (·.ver)).Nodup;rw[zuY];refine zvl.2 ((zdO h.asc j).imp_of_mem fun {x y} hx hy dB=>?_);obtain⟨_,a,_,rfl⟩:=mem_pwE.1 hx;obtain⟨_,b,_,rfl⟩:=mem_pwE.1 hy;intro e;have e:((f.vars.length+a:Nat):Int)=((f.vars.length+b:Nat):Int):=e;omega
  rw[zua]
  have hc:((List.range g.length).map (List.count (k:Int) ∘ fun i=>(phW (pwE f.vars.length g E) i).map (·.ver)))=(List.range g.length).map fun j=>if j=i then 1 else 0:=by
   refine zuW fun j _=>?_;show List.count (k:Int) ((phW (pwE f.vars.length g E) j).map (·.ver))=_;by_cases e:j=i
   . grind
   grind
  rw[hc];exact zfX zvg (zvc.2 hi) O fun d _ e=>e
 obtain⟨vn,rfl⟩:∃ vn:Nat,v=(vn:Int):=⟨v.toNat,tO⟩
 have dc:z<g.length:=by
  obtain⟨a,ha,dC,du,_⟩:=hz;by_cases dh:z<g.length
  . exact dh
  exfalso
  have hr:Dfs.Reach R 0 z:=Classical.byContradiction fun db=>by
   obtain⟨k,hk⟩:=zgP ha db;exact du k hk
  exact dh (ht.lt z hr)
 have hJ:znT f g (xz R 0) vn i:=by
  rcases hF with hd | ⟨k,dD,hk⟩
  .
   refine⟨?_,⟨z,dc,hd⟩,.node (dfsI_mem.2 (.inr ⟨dc,hd⟩)) hz⟩;obtain⟨x,hx,dw⟩:=dl.dfn z dc tO;rw[hd,ztc]at hx;exact⟨x,hx,dw⟩
  obtain⟨p,hp,e1,_⟩:=zb0 hk;obtain⟨v',a,ha,rfl⟩:=hY z p hp;have e1:(v':Int)=(vn:Int):=e1;obtain rfl:v'=vn:=tO;obtain⟨_,h3,h4,h5⟩:=(h.mem v' z).1 (zsR ha);exact⟨h3,h4,.it h5 hz⟩
 exact da i vn ((h.mem vn i).2 ⟨tO,hJ⟩) db
end Go.Proofs.YtckdhgbepmpgiaaGreat
namespace Go.GL
section
variable {n:Fm} {S:World->Prop} {Z:Szs}
theorem zsM {id:Nat} {l:List Oper} (S:World->Prop) (L:List Nat) (hm:P.follows .mixedOrders=true) (h:VDx P n Q ks l.toArray S L l.length (Array.replicate l.length false) env A H Bs):V P n Q ks (.c (.region id l.toArray true)) env A H Bs :=
 fun hA _ hI=>zpC S L hm (fun w' hY _=>h hA w' (hI.ext hY))
variable {op:Op} {ty:TypeId} {ps:String} {g:Option (Nat × Bool)}
theorem zsN (i:Nat) (hi:ops[i]?=some ⟨some d,op,ty,ps,aft,g⟩) (hc:(Region.noSelect ops&&Region.free .any ops listed i&&(Region.ready .any ops listed).contains i&&L.all (qU .any ops i)&&!L.contains i)=true) (hn:(Nat.blt d n,gd ops env g)=(true,some true)) (hS:∀ w,VI Bs H w->S w) (hr:∀ w,S w->yk P ⟨some d,op,ty,ps,aft,g⟩ env w v w)
  (h:VDx P n Q ks ops S L fuel (listed.setIfInBounds i true) ((d,v)::env) ((d,none)::A) H Bs):VDx P n Q ks ops S L (fuel+1) listed env A H Bs:=by
 simp only[Prod.mk.injEq]at hn;exact fun hA w hI=>zq1 i hi hc O hn.1 (hS w hI) (.inl ⟨xZ hn.2,hr⟩) (h hA.none w hI)
theorem zrx (i:Nat) (hi:ops[i]?=some ⟨some d,op,ty,ps,aft,g⟩) (hc:ze2 ops [i] listed=true) (hn:(Nat.blt d n,gd ops env g)=(true,some true)) (hr:∀ w,yk P ⟨some d,op,ty,ps,aft,g⟩ env w v w)
  (h:VDx P n Q ks ops S L fuel (listed.setIfInBounds i true) ((d,v)::env) ((d,none)::A) H Bs):VDx P n Q ks ops S L (fuel+1) listed env A H Bs:=by
 simp only[Prod.mk.injEq]at hn;unfold ze2 at hc;rw[ztz]at hc;exact fun hA w hI=>zqu i hi hc.1 O hn.1 (.inl ⟨xZ hn.2,fun w' nn a hY=>hr w' nn a hY⟩) (h hA.none w hI)
theorem zrv (i:Nat) {l:List Value} (zs:List Value) (places:List (Nat × Nat)) (vs:List (Nat × Value)) (hi:ops[i]?=some ⟨some d,.build t parts,ty,ps,aft,g⟩) (hc:ze2 ops [i] listed=true) (hn:(Nat.blt d n,gd ops env g,parts.toList.map (fun p=>(p.1,ev env p.2)))=(true,some true,vs.map (fun p=>(p.1,some p.2)))) (_hl:zke places zs vs=some l) (hb:∀ w,(Instr.build t vs.toArray).run P w=.ok (.agg l.toArray) w)
  (h:VDx P n Q ks ops S L fuel (listed.setIfInBounds i true) ((d,.agg l.toArray)::env) ((d,none)::A) H Bs):VDx P n Q ks ops S L (fuel+1) listed env A H Bs:=by
 simp only[Prod.mk.injEq]at hn;exact zrx i hi hc tD (fun _=>R.build vs hn.2.2 hb) h
theorem zrf (i:Nat) (hZ:zq3 P Z) {x:Operand} {H':Hp} (hi:ops[i]?=some ⟨none,.store t x y,ty,ps,aft,g⟩) (hr:Region.ready .any ops listed=[i]) (hn:(gd ops env g,zav Z env A H t x y,L.contains i)=(some true,some H',true))
  (h:VDx P n Q ks ops S L fuel (listed.setIfInBounds i true) env A H' Bs):VDx P n Q ks ops S L (fuel+1) listed env A H Bs:=by
 simp only[Prod.mk.injEq]at hn;intro hA w hI a ha;obtain⟨h1,h2⟩:=kC (w:=w) (Bs:=Bs) hZ hn.2.1 hA;obtain⟨w',da,hR⟩:=h2 hI ty ps aft;refine⟨fun h0=>tD,fun k hk=>?_⟩;rw[hr]at hk;have:k=i:=tD;subst this;unfold wpOp;simp only[hi];rw[zt1 (xZ hn.1 a ha)];refine .inl ?_;unfold Oper.wp;have hY:(execOp a.eval ⟨none,.store t x y,ty,ps,aft,g⟩).run P w=.ok .skip w':=da n a ha;rw[hY,Oper.upon_skip];exact⟨fun hc _=>absurd tD hc,h h1 w' hR _ ha.put0⟩
def VTx (P:Program) (n:Fm) (Q:Exit->Act->World->Prop) (ks:List Fr) (ops:Array Oper) (S:World->Prop) (L:List Nat) (fuel:Nat) (listed:Array Bool) (env:Env) (A:Tgs) (H:Hp) (Bs:zq) (i:Nat):Prop :=
 TgOk A env H->∀ w,VI Bs H w->∀ a,Ok n env a->wpOp P ops (NQ (QK P Q ks)) i (fun a' w'=>(i ∉ L->S w->S w')/\jV P .any ops (NQ (QK P Q ks)) S L fuel (listed.setIfInBounds i true) a' w') a w
def VTxs (P:Program) (n:Fm) (Q:Exit->Act->World->Prop) (ks:List Fr) (ops:Array Oper) (S:World->Prop) (L:List Nat) (fuel:Nat) (listed:Array Bool) (env:Env) (A:Tgs) (H:Hp) (Bs:zq):List Nat->Prop
 | []=>True
 | i::r=>VTx P n Q ks ops S L fuel listed env A H Bs i/\VTxs P n Q ks ops S L fuel listed env A H Bs r
theorem VTxs.all:∀ {l:List Nat},VTxs P n Q ks ops S L fuel listed env A H Bs l->∀ i ∈ l,VTx P n Q ks ops S L fuel listed env A H Bs i
 | x::r,h,i,hi=>by
  rcases zt6.1 hi with rfl | hi
  . exact h.1
  exact VTxs.all h.2 i hi
theorem zsq (i:Nat) (r:List Nat) (hr:Region.ready .any ops listed=i::r) (h:VTxs P n Q ks ops S L fuel listed env A H Bs (i::r)):VDx P n Q ks ops S L (fuel+1) listed env A H Bs:=by
 intro hA w hI a ha;exact⟨fun h0=>tD,fun k hk=>h.all k (hr ▸ hk) hA w hI a ha⟩
theorem zrc (hi:ops[i]?=some ⟨some d,op,ty,ps,aft,g⟩) (hn:Nat.blt d n=true) (hg:gd ops env g=some true) {R:World->Value->World->Prop}
  (hm:∀ w,VI Bs H w->Does P ⟨some d,op,ty,ps,aft,g⟩ env w (R w)) (h:TgOk A env H->∀ w,VI Bs H w->∀ v w',R w v w'->S w'/\WD P n ops (QK P Q ks) S L fuel (listed.setIfInBounds i true) ((d,v)::env) w'):VTx P n Q ks ops S L fuel listed env A H Bs i:=by
 intro hA w hI a ha;have hd:=hm w hI;have h:=h hA w hI;unfold wpOp;simp only[hi];rw[zt1 (xZ hg a ha)];refine .inl ?_;unfold Oper.wp;rcases hd with⟨v,w',hY,hR⟩ | ⟨f,args,hm,hc⟩
 .
  rw[hY n a ha,Oper.upon_value];exact iU
 rw[hm n a ha,Oper.upon_enter];refine hc.mono ?_;rintro e w' ⟨v,rfl,hR⟩;exact iU
theorem zpx (i k:Nat) {x:Operand} {kl kc:IntKind} {zs:List Value} (hu:P.underlying t=some (.slice e)) (he:(P.info? e).map (fun i=>(i.zero,i.size,i.bytes))=some (some z,kk,by'))
  (hi:ops[i]?=some ⟨some d,.makeSlice t x y,ty,ps,aft,g⟩) (hn:(Nat.blt d n,gd ops env g,(hget H k).isNone,ev env x,ev env y)=(true,some true,true,some (.int kl (m:Int)),some (.int kc (m:Int))))
  (hb:by'*m<=281474976710656) (hm:m<=9223372036854775807) (hz:madeCells z.cells (m*kk)=zs.toArray) (hl:zs.length=m*kk)
  (hS:∀ b w,VI Bs ((k,.row e kk (.slice (some ⟨b,0,none⟩) m m) m zs)::H) w->S w)
  (h:∀ b,VDx P n Q ks ops S L fuel (listed.setIfInBounds i true) ((d,.slice (some ⟨b,0,none⟩) m m)::env) ((d,none)::A) ((k,.row e kk (.slice (some ⟨b,0,none⟩) m m) m zs)::H) Bs):VTx P n Q ks ops S L fuel listed env A H Bs i:=by
 simp only[Prod.mk.injEq,zw2]at hn;obtain⟨h1,h2,h3,h4,h5⟩:=hn;refine zrc hi h1 h2 (fun w hI=>.inl (zpt hu he h4 h5 hb hm hz)) fun hA w hI=>?_;rintro _ w1 ⟨b,rfl,hN⟩;have hY:=hI.row k hm hl hN;exact⟨hS b w1 hY,h b J0 w1 hY⟩
theorem zqN (i k:Nat) (hi:ops[i]?=some ⟨some d,op,ty,ps,aft,g⟩) (hn:(Nat.blt d n,gd ops env g,(hget H k).isNone)=(true,some true,true))
  (hm:∀ w,VI Bs H w->xg P ⟨some d,op,ty,ps,aft,g⟩ env w (fun r w'=>∃ b,r=.pointer (some ⟨b,0,none⟩)/\New w cs e b w'))
  (hS:∀ b w,VI Bs ((k,.own b cs e)::H) w->S w)
  (h:∀ b,VDx P n Q ks ops S L fuel (listed.setIfInBounds i true) ((d,.pointer (some ⟨b,0,none⟩))::env) ((d,some (k,0))::A) ((k,.own b cs e)::H) Bs):VTx P n Q ks ops S L fuel listed env A H Bs i:=by
 simp only[Prod.mk.injEq,zw2]at hn;refine zrc hi hn.1 hn.2.1 (fun w hI=>.inl (hm w hI)) fun hA w hI=>?_;rintro _ w' ⟨b,rfl,hb,hs,hB,hk⟩;have hY:VI Bs ((k,.own b cs e)::H) w':=hI.new hk k hB trivial (fun _ h=>h) JY;refine⟨hS b w' hY,h b ((hA.new hn.2.2).push (fun k' off hg=>?_)) w' hY⟩;cases hg;exact⟨b,0,by simp[qv,hget,],rfl⟩
theorem zrO (i:Nat) (kk:List Nat) {f:FuncId} {xs:Array Operand} (A1:Tgs) (hf:∀ args w,(callFunc f args).run P w=.ok (.enter f args) w) (hi:ops[i]?=some ⟨some d,.call ⟨.value (.func f),xs,ts⟩,ty,ps,aft,g⟩) (hn:(Nat.blt d n,gd ops env g,qI env xs.toList)=(true,some true,some vs))
  (da:∀ r x,A1.map (fun p=>zdT ((d,r)::env) p.1)=A1.map (fun p=>jw (Hn x++yY kk H) p.2)) (db:∀ x,A1.all (fun p=>(jw (Hn x++yY kk H) p.2).isSome)=true)
  (hS:∀ x w,VI Bs (Hn x++yY kk H) w->S w)
  (hc:∀ w,VI Bs H w->Calls P f vs.toArray w (Ret fun r w'=>∃ x,Φ r x/\Hands H kk (Hn x) w w'))
  (h:∀ r x,Φ r x->VDx P n Q ks ops S L fuel (listed.setIfInBounds i true) ((d,r)::env) A1 (Hn x++yY kk H) Bs):VTx P n Q ks ops S L fuel listed env A H Bs i:=by
 simp only[Prod.mk.injEq]at hn;refine zrc hi hn.1 hn.2.1 (fun w hI=>.inr ⟨f,_,F.call hf (yu hn.2.2),hc w hI⟩) fun hA w hI=>?_;rintro r w' ⟨x,hP,hh⟩;have hY:=hI.hands hh;exact⟨hS x w' hY,h r x hP (TgOk.of (da r x) (db x)) w' hY⟩
end
section
variable {n:Fm}
variable {op:Op} {ty:TypeId} {ps:String} {g:Option (Nat × Bool)}
theorem zrP (i j:Nat) (kk:List Nat) {f:FuncId} {xs:Array Operand} (A1:Tgs) (hf:∀ args w,(callFunc f args).run P w=.ok (.enter f args) w) (hi:ops[i]?=some ⟨some d,.call ⟨.value (.func f),xs,ts⟩,ty,ps,aft,g⟩) (hn:(Nat.blt d n,gd ops env g,qI env xs.toList,qa (Hs.map (·.1)))=(true,some true,some vs,true)) (hB:Bs.drop j=B0)
  (hY:∀ x,Hs.map (fun y=>hget (Hn x++yY kk H) y.1)=Hs.map (fun y=>some y.2))
  (db:∀ r x,A1.map (fun p=>zdT ((d,r)::env) p.1)=A1.map (fun p=>jw (Hn x++yY kk H) p.2)) (dc:∀ x,A1.all (fun p=>(jw (Hn x++yY kk H) p.2).isSome)=true)
  (hc:∀ w,VI Bs H w->Calls P f vs.toArray w (Ret fun r w'=>∃ x,Φ r x/\Hands H kk (Hn x) w w'))
  (h:∀ r x,Φ r x->VD P n Q ks ops Hs B0 L fuel (listed.setIfInBounds i true) ((d,r)::env) A1 (Hn x++yY kk H) Bs):VT P n Q ks ops Hs B0 L fuel listed env A H Bs i:=by
 simp only[Prod.mk.injEq]at hn;subst hB;refine zrb hi hn.1 hn.2.1 (fun w hI=>.inr ⟨f,_,F.call hf (yu hn.2.2.1),hc w hI⟩) fun hH hA w hI=>?_;rintro r w' ⟨x,hP,hh⟩;have da:=hI.hands hh;exact⟨(da.drop j).pick (Has.of (hY x)) hn.2.2.2,h r x hP (Has.of (hY x)) (TgOk.of (db r x) (dc x)) w' da⟩
theorem VT.rd (i j:Nat) (hi:ops[i]?=some ⟨some d,op,ty,ps,aft,g⟩) (hn:(Nat.blt d n,gd ops env g,qa (Hs.map (·.1)))=(true,some true,true)) (hB:Bs.drop j=B0) (hr:∀ w,VI Bs H w->yk P ⟨some d,op,ty,ps,aft,g⟩ env w v w)
  (h:VD P n Q ks ops Hs B0 L fuel (listed.setIfInBounds i true) ((d,v)::env) ((d,none)::A) H Bs):VT P n Q ks ops Hs B0 L fuel listed env A H Bs i:=by
 simp only[Prod.mk.injEq]at hn;subst hB;refine zrb hi hn.1 hn.2.1 (R:=fun w u w'=>u=v/\w'=w) (fun w hI=>.inl ⟨v,w,hr w hI,rfl,rfl⟩) fun hH hA w hI=>?_;rintro u w' ⟨rfl,rfl⟩;exact⟨(hI.drop j).pick hH hn.2.2,h hH hA.none _ hI⟩
theorem VT.bs (i k j:Nat) {len:Nat} (vs:List (Nat × Value)) (hu:∀ w,(underlying t).run P w=.ok (.slice e) w) (hs:∀ w,(sizeOf e).run P w=.ok kk w) (hz:∀ w,(zeroValue e).run P w=.ok z w)
  (hY:len*kk ≠ 0/\len*kk<=16777216) (hi:ops[i]?=some ⟨some d,.buildSlice t len parts,ty,ps,aft,g⟩) (hn:(Nat.blt d n,gd ops env g,(hget H k).isNone,qa (Hs.map (·.1)),parts.toList.map (fun p=>(p.1,ev env p.2)),Bs.drop j)=(true,some true,true,true,vs.map (fun p=>(p.1,some p.2)),B0)) (_hcs:zaU (vs.map (·.2))=some cs) (hf:Instr.fill (fun i=>some (i*kk,kk)) ((Array.range (len*kk)).map (z.cells[· % z.cells.size]!)) vs=some cs.toArray)
  (h:∀ b,VD P n Q ks ops Hs B0 L fuel (listed.setIfInBounds i true) ((d,.slice (some ⟨b,0,none⟩) len len)::env) ((d,none)::A) ((k,.own b cs e)::H) Bs):VT P n Q ks ops Hs B0 L fuel listed env A H Bs i:=by
 simp only[Prod.mk.injEq,zw2]at hn;obtain⟨h1,h2,h3,h4,h5,h6⟩:=hn;subst h6;refine zrb hi h1 h2 (fun w hI=>.inl (M.buildSlice vs hu hs hz hY h5 hf)) fun hH hA w hI=>?_;rintro _ w' ⟨b,rfl,hb,hs,hB,hk⟩;have da:VI Bs ((k,.own b cs e)::H) w':=hI.new hk k hB trivial (fun _ h=>h) JY;have db:Has Hs ((k,.own b cs e)::H):=hH.new h3;exact⟨(da.drop j).pick db h4,h b db J0 w' da⟩
end
section
variable {n:Fm} {pos:Pos}
theorem zsO (k m kk:Nat) (hn:hget H k=some (.own b cs t)) (hA:A.all (fun p=>match p.2 with | some (j,_)=>!Nat.beq k j | none=>true)=true) (hl:cs.length=m*kk) (hm:m<=9223372036854775807) (h:V P n Q ks pos env A (hset H k (.row t kk (.slice (some ⟨b,0,none⟩) m m) m cs)) Bs):V P n Q ks pos env A H Bs :=
 V.as (e':=.row t kk (.slice (some ⟨b,0,none⟩) m m) m cs) k hn hA (fun w hB=>by have:=zK (k:=kk) hB (ztf m) hm hl;rwa [<- hl,zsV]at this) trivial (fun _ h=>h) (fun q hq=>(Option.some.inj hq).symm) h
end
theorem RowsOk.snoc {rows:List (List α)} (h:RowsOk enc e w rv rows) (hu:w.ownsRow 0 e 1 u r.length (r.map enc)) (dc:∀ g,u.ownBlock=some g->∀ (i:Nat) v,rv[i]?=some v->v.ownBlock ≠ some g):RowsOk enc e w (rv++[u]) (rows++[r]):=by
 have hY:=h.len
 have da:∀ (i:Nat) (v:Value),(rv++[u])[i]?=some v->(i<rv.length/\rv[i]?=some v)\/(i=rv.length/\v=u):=fun i v hv=>by
  by_cases hi:i<rv.length
  . rw[ztg hi]at hv;exact .inl ⟨hi,hv⟩
  have hl:=(zt4.1 hv).1;rw[zsY,ztb]at hl;obtain rfl:i=rv.length:=tO;rw[zth tO,zvX]at hv;exact .inr ⟨rfl,tD⟩
 refine⟨tD,fun i v r' hv hr=>?_,fun i j vi vj g db hi hj hg=>?_⟩
 .
  rcases da i v hv with⟨h1,h2⟩ | ⟨rfl,rfl⟩
  .
   rw[ztg tO]at hr;exact h.row i v r' h2 hr
  rw[hY,zth tO,zvX]at hr;obtain rfl:r=r':=tD;exact hu
 rcases da i vi hi with⟨h1,h2⟩ | ⟨rfl,rfl⟩
 .
  rcases da j vj hj with⟨h3,h4⟩ | ⟨rfl,rfl⟩
  . exact h.apart i j vi vj g db h2 h4 hg
  grind
 grind
theorem RowsOk.none:RowsOk enc e w [] ([]:List (List α)):=⟨rfl,fun i v r h=>tD,fun i j vi vj g _ h=>tD⟩
theorem qh (hq:∃ (i:Nat) (v:Value),(rv++[u])[i]?=some v/\v.ownBlock=some q):(∃ (i:Nat) (v:Value),rv[i]?=some v/\v.ownBlock=some q)\/u.ownBlock=some q:=by
 obtain⟨i,v,h1,h2⟩:=hq;by_cases hi:i<rv.length
 . exact .inl ⟨i,v,by rwa [ztg hi]at h1,h2⟩
 have hl:=(zt4.1 h1).1;rw[zsY,ztb]at hl;obtain rfl:i=rv.length:=tO;rw[zth tO,zvX]at h1;obtain rfl:u=v:=tD;exact .inr h2
theorem qS (hI:VI Bs H w) (k k2:Nat) {rows:List (List α)} (h1:hget H k=some (RowsP enc e rv rows)) (h2:hget H k2=some (.row e 1 u m (r.map enc))) (hm:m=r.length) (hk:k ≠ k2):RowsOk enc e w (rv++[u]) (rows++[r]):=by
 subst hm;exact RowsOk.snoc (hI.at k h1) (hI.at k2 h2) fun g hg i v hv hY=>hI.sep h1 h2 hk (q:=g) ⟨i,v,hv,hY⟩ hg
theorem zaK {α β:Type} {f g:α->List β}:∀ {l:List α},(∀ x ∈ l,f x=g x)->l.flatMap f=l.flatMap g
 | [],_=>rfl
 | x::l,h=>by rw[zut,zut,h x (zsU ..),zaK fun y hy=>h y im]
end Go.GL
namespace Go.Proofs.YtckdhgbepmpgiaaGreat
open Go.GL Go.GL.Dom
theorem yK {l:List Int} (k:Nat) (hY:l.length<=1048576) (hl:SlR 1 zw D w v l):Calls prog 101 #[v] w (Ret fun r w'=>∃ y:Option Addr × Nat,r=.slice y.1 l.length y.2/\Hands H [] [(k,.row 3 1 (.slice y.1 l.length y.2) l.length (l.map zb))] w w'):=by
 refine(zf8 l v D w hl hY).mono ?_;rintro _ w' ⟨r,rfl,h1,h2,hk⟩;have e:l.flatMap zde=l.map zb:=by rw[List.map_eq_flatMap];rfl
 rw[e]at h1;obtain⟨ao,co,rfl⟩:=zD h1;refine⟨_,rfl,(ao,co),rfl,hk.mono fun q _ h=>h.elim,fun x hx=>?_,zvm _ _⟩;rw[zt8]at hx;subst hx;exact UY
def phC (hfs has:List Value) (p:Phn × Nat):List Value:=[.int .i64 p.1.var,.int .i64 p.1.ver,hfs[p.2]?.getD undef,has[p.2]?.getD undef]
theorem zna (h1:p.2<hY.length) (h2:p.2<has.length) (u a:Value):phC (hY++[u]) (has++[a]) p=phC hY has p:=by
 unfold phC;rw[ztg h1,ztg h2]
structure PlS (g:List Nd) (nv:Nat) (E:List (Nat × Nat)) (ofl:List Int) (ndc hps:List Value) (pcs:List (List Value)) (hfs:List Value) (frs:List (List Int)) (has:List Value) (als:List (List Int)):Prop where
 of:ofl=ofE nv E
 hl:hps.length=g.length
 cl:pcs.length=g.length
 nl:g.length*3<=ndc.length
 n0:∀ j,j<g.length->ndc[j*3]?=hps[j]?
 n1:∀ j,j<g.length->ndc[j*3+1]?=some (.slice none 0 0)
 n2:∀ j,j<g.length->ndc[j*3+2]?=some (.int .i64 (-1))
 pc:∀ j,j<g.length->pcs[j]?=some ((pwE nv g E j).flatMap (phC hfs has))
 fl:hfs.length=E.length
 fr:frs=E.map fun e=>zg g e.2
 al:has.length=E.length
 as_:als=E.map fun e=>List.replicate (zF g e.2).length 0
theorem PlS.snoc (h:PlS g nv E ofl ndc db pcs hY frs has als) {v:Nat} (hi:i<g.length) (x u a:Value) :
  PlS g nv (E++[(v,i)]) (ofl++[(v:Int)]) (ndc.set (i*3) x) (db.set i x) (pcs.set i ((pwE nv g E i).flatMap (phC hY has)++[.int .i64 (v:Int),.int .i64 (ofl.length:Nat),u,a])) (hY++[u]) (frs++[zg g i]) (has++[a]) (als++[List.replicate (zg g i).length 0]):=by
 have dc:=h.nl;have dg:=h.hl;have dh:=h.cl
 have da:∀ j,(pwE nv g E j).flatMap (phC (hY++[u]) (has++[a]))=(pwE nv g E j).flatMap (phC hY has):=fun j=>by
  refine zaK fun p hp=>?_;obtain⟨v',a',ha,rfl⟩:=mem_pwE.1 hp;have:=(zt4.1 ha).1;exact zna (show a'<_ by rw[h.fl];exact this) (show a'<_ by rw[h.al];exact this) u a
 refine⟨by rw[h.of,zlN],tD,tD,tD,fun j hj=>?_,fun j hj=>?_,fun j hj=>?_,fun j hj=>?_,by rw[zsY,zsY,h.fl];rfl,by rw[h.fr,zuV];rfl,by rw[zsY,zsY,h.al];rfl,by rw[h.as_,zuV];unfold zg;rw[zta];rfl⟩
 .
  by_cases e:j=i
  .
   subst e;rw[zuJ tO,zuJ tO]
  rw[zuI tO,zuI (fun e'=>e e'.symm)];exact h.n0 j hj
 . rw[zuI tO];exact h.n1 j hj
 . rw[zuI tO];exact h.n2 j hj
 rw[zgS,zus,da];by_cases e:j=i
 .
  subst e;rw[zt1 rfl,zuJ tO];congr 2;show _=phC _ _ _++[];unfold phC;dsimp only;rw[zu3,zth (by rw[h.fl];exact ztf _),zth (by rw[h.al];exact ztf _),h.fl,h.al,zvX,h.of,zat];rfl
 rw[zt0 (fun e'=>e e'.symm),zuI (fun e'=>e e'.symm),List.flatMap_nil,zu3];exact h.pc j hj
abbrev zjV (b gb bn cn nl:Nat) (ofv chv cuv:Value) (ofl:List Int) (ndc hps:List Value) (pcs:List (List Value)) (hfs:List Value) (frs:List (List Int)) (has:List Value) (als:List (List Int)):Hp :=
 [(900,.own b (rnm gb ofv (.slice (some ⟨bn,0,none⟩) nl cn) chv cuv) 123),(901,.row 3 1 ofv ofl.length (ofl.map zb)),(904,NodP bn ndc 59),(905,RowsCP 4 88 hps pcs),(906,RowsP zb 3 hfs frs),(909,RowsP zb 3 has als)]
theorem znb {v:Nat} (hY:yi g.length es 0=0) (h0:0<g.length):jr g.length es 0 (za9 f g g.length v)=0:=by
 unfold jr;rw[zt0 tO,zt1];rw[ztZ];intro x hx;rw[decide_eq_true_iff]
 obtain⟨z,rfl⟩:∃ z:Nat,x=(z:Int):=by
  unfold za9 at hx;rcases zt6.1 hx with rfl | hx
  . exact⟨0,rfl⟩
  obtain⟨z,_,rfl⟩:=zv8.1 hx;exact⟨z,rfl⟩
 rcases dfsI_mem.1 hx with rfl | ⟨h1,_⟩
 . omega
 omega
theorem znc {L:List Int} {n:Nat} (h:L.Pairwise (·<·)) (hm:∀ y ∈ L,0<=y/\y<(n:Int)):L.length<=n:=by
 have h1:(L.map Int.toNat).Pairwise (·<·):=by
  rw[zvl];refine h.imp_of_mem fun {a b} ha hb hY=>?_;have:=hm a ha;have:=hm b hb;omega
 have h2:=Dfs.nodup_le n _ (h1.imp fun h=>Nat.ne_of_lt h) (fun x hx=>by
  obtain⟨y,hy,rfl⟩:=zv8.1 hx;have:=hm y hy
  omega)
 rwa [zta]at h2
theorem zjW (nv:Nat) (g:List Nd) (E:List (Nat × Nat)) (i:Nat):(pwE nv g E i).length<=E.length:=by
 unfold pwE;refine zsW (List.length_filterMap_le _ _) ?_;rw[List.length_zipIdx];exact ztf _
def kE (v:Nat):Nat:=v*1000
theorem zjX (v:Nat):kE (v+1)=kE v+1000:=by unfold kE;omega
theorem zop {v:Nat} (h:v<=1000):kE v<=1000000:=by unfold kE;omega
theorem zlQ (f:Fl) (g:List Nd) (i v:Nat):0<(za9 f g i v).length:=by unfold za9;rw[ztj];omega
theorem zlR (n root:Int) (es:List (Int × Int)) (nodes:List Int) (ev nv:Value) (D D':Nat->Prop) (w:World) (da:SlR 2 xo D w ev es) (hnv:SlR 1 zw D' w nv nodes) (db:n<=1000) (dc:nodes.length<=1000) (hY:jr n es root nodes=0):Calls prog 100 #[.agg #[.int .i64 n,ev],.int .i64 root,nv] w (Ret fun v w'=>(∃ u,v=.tuple #[u,.int .i64 0]/\∃ Rw order pl T L,Known n.toNat root.toNat es Rw order pl T/\L.Pairwise (·<·)/\(∀ y:Int,y ∈ L ↔ ∃ b:Nat,y=(b:Int)/\ItS (xz Rw root.toNat) nodes b)/\SlR 1 zw (fun b=>w.heap.size<=b) w' u L)/\Ext w w'):=by
 refine(zfW n root es nodes ev nv D D' w da hnv db dc).mono ?_;rintro e w' ⟨v,rfl,u,rfl,_,h,hk⟩;exact⟨_,rfl,⟨u,by rw[hY],h hY⟩,hk⟩
theorem zg2 (ht:TreeG g Rw order pl T) (d6:Known g.length 0 es Rw order pl T) (dm:yi g.length es 0=0) (d7:∀ a b:Nat,((a:Int),(b:Int)) ∈ es->a<g.length) (hk:GOk f g) (_:DefOk f g) (dS:zF g 0=[]) (d8:0<g.length) (d9:g.length<=999) (eJ:f.vars.length<=1000) (ev:Value) (b gb bn cn:Nat) (ofv chv cuv:Value) (D:Nat->Prop) (W:World) (dT:SlR 2 xo D W ev es) (hG:GrO D W f g gb)
 {dh:List Value} (eb:PlS g f.vars.length [] ofl ndc dh pcs [] [] [] []) (hE:Held (zjV b gb bn cn g.length ofv chv cuv ofl ndc dh pcs [] [] [] []) W) (hY:∀ q,HS (zjV b gb bn cn g.length ofv chv cuv ofl ndc dh pcs [] [] [] []) q->¬ D q) :
  Calls prog 54 #[.pointer (some ⟨b,0,none⟩),.agg #[.int .i64 g.length,ev]] W (Ret fun r w'=>∃ y:List (Nat × Nat) × Value × List Int × List Value × List Value × List (List Value) × List Value × List (List Int) × List Value × List (List Int),(r=.int .i64 0/\PlcV f g (xz Rw 0) f.vars.length y.1/\PlS g f.vars.length y.1 y.2.2.1 y.2.2.2.1 y.2.2.2.2.1 y.2.2.2.2.2.1 y.2.2.2.2.2.2.1 y.2.2.2.2.2.2.2.1 y.2.2.2.2.2.2.2.2.1 y.2.2.2.2.2.2.2.2.2/\y.1.length<=kE f.vars.length)/\GBack (zjV b gb bn cn g.length ofv chv cuv ofl ndc dh pcs [] [] [] []) (zjV b gb bn cn g.length y.2.1 chv cuv y.2.2.1 y.2.2.2.1 y.2.2.2.2.1 y.2.2.2.2.2.1 y.2.2.2.2.2.2.1 y.2.2.2.2.2.2.2.1 y.2.2.2.2.2.2.2.2.1 y.2.2.2.2.2.2.2.2.2) W w'):=by
 obtain⟨v1,v2,v3,gv,sv,pv,dC,dD,hf,dU,_,dV⟩:=id hG;have dE:=hf.vars;obtain⟨avs,cvs,rfl⟩:=dE.form;have eK:=dE.max;obtain⟨ag,cg,rfl⟩:=dU.form;have eL:=dU.max;obtain⟨apr,cpr,rfl⟩:=dV.form;have ec:(zeM g).length=g.length:=by unfold zeM;rw[zta,zuS]
 obtain⟨aev,cev,rfl⟩:=dT.form
 have dF:∀ i,(zg g i).length<=999:=fun i=>by
  unfold zg zF;rw[zta];exact zsW (zuR _ _) (by rw[zuS];exact d9)
 refine zqr func54 O ntmps54 O (zrL [(900,.own b [.pointer (some ⟨gb,0,none⟩),ofv,.slice (some ⟨bn,0,none⟩) g.length cn,chv,cuv] 123),(901,.row 3 1 ofv ofl.length (ofl.map zb)),(904,NodP bn ndc 59),(905,RowsCP 4 88 dh pcs),(906,RowsP zb 3 [] ([]:List (List Int))),(909,RowsP zb 3 [] ([]:List (List Int)))] hE.1 hE.2 (zqO 0 900 0 O O (zrg 960 0 O O (fun h=>hY _ h dC) dD (Vs 2 O (V.box 3 O O (fun b3=>?_))))));refine Vs 10 O (zqO 17 960 0 O O (Vs 9 O (zrm (σ:=Nat × List (Nat × Nat) × Value × List Int × List Value × List Value × List (List Value) × List Value × List (List Int) × List Value × List (List Int)) [0,3,21,22] [3,960] [0,3] O (fun e ⟨v,E,ov,ol,nd,hp,pc,db,fr,ha,al⟩=>(4,.int .i64 0)::(23,.int .i64 v)::e) (fun e ⟨v,E,ov,ol,nd,hp,pc,db,fr,ha,al⟩=>(900,.own b [.pointer (some ⟨gb,0,none⟩),ov,.slice (some ⟨bn,0,none⟩) g.length cn,chv,cuv] 123)::(901,.row 3 1 ov ol.length (ol.map zb))::(904,NodP bn nd 59)::(905,RowsCP 4 88 hp pc)::(906,RowsP zb 3 db fr)::(909,RowsP zb 3 ha al)::e) (fun⟨v,E,ov,ol,nd,hp,pc,db,fr,ha,al⟩=>v<=f.vars.length/\PlcV f g (xz Rw 0) v E/\PlS g f.vars.length E ol nd hp pc db fr ha al/\E.length<=kE v) (fun⟨v,E,ov,ol,nd,hp,pc,db,fr,ha,al⟩=>f.vars.length - v) (0,[],ofv,ofl,ndc,dh,pcs,[],[],[],[]) j2 j3 j1 j1 j1 ⟨zt5 _,PlcV.start _ _ _,eb,zt5 _⟩ ?_)));rintro⟨v,E,ov,ol,nd,hp,pc,db,fr,ha,al⟩ ⟨hv,dA,dg,ed⟩;have eM:=zop (v:=v) tO;have dW:E.length<=kE (v+1):=by rw[zjX];omega
 refine Vs 6 O (zoC O (fun lv=>?_) (fun lv=>?_))
 .
  refine Vs 7 O (zrh 1000 0 v tO dE O O O (fun b_ d_ h_=>by have dG:=hY _ h_;first | omega | exact dG d_) (fun x eN eO eP dr ee dH ef dI=>?_));obtain rfl:=dI;refine zqQ 1000 tR22 ts142 O dH tO _ rfl O (Vs 1 O (V.alloc 6 tz142 O O (fun b6=>?_)));refine Vs 12 O (zoC O (fun kd=>?_) (fun kd=>?_))
  .
   have dJ:∀ i,¬ znT f g (xz Rw 0) v i:=by
    rintro i ⟨⟨x',dX,eh⟩,_⟩;rw[dr]at dX;obtain rfl:=Option.some.inj dX;exact kd eh
   refine Va 8 O tO (V.back ⟨v+1,E,ov,ol,nd,hp,pc,db,fr,ha,al⟩ j2 j3 ⟨tO,dA.skip dJ,dg,dW⟩ tR 0 O O)
  have dK:zoo f v:=⟨x,dr,tO⟩;refine Vs 4 O (V.bs 31 [(0,_)] tR27 ts3 tz3 tS O O tK (fun b31=>?_));refine Vs 10 O (zqO 35 960 0 O O (Vs 8 O (zsO 31 1 1 O O O tS (zrl 31 O (e':=.row 3 1 (.slice (some ⟨b31,0,none⟩) 1 1) (za9 f g 0 v).length ((za9 f g 0 v).map zb)) rfl (zrm (σ:=Nat × Value) [0,3,4,5,21,22,23,39] [3,900,901,904,905,906,909,960] [0,3] O (fun e ⟨j,u⟩=>(40,.int .i64 j)::(7,u)::e) (fun e ⟨j,u⟩=>(31,.row 3 1 u (za9 f g j v).length ((za9 f g j v).map zb))::e) (fun⟨j,u⟩=>j<=g.length) (fun⟨j,u⟩=>g.length - j) (0,.slice (some ⟨b31,0,none⟩) 1 1) j2 j3 j1 j1 j1 (zt5 _) ?_)))));rintro⟨j,u⟩ hj;have eQ:=zlO f g j v;refine Vs 6 O (zoC O (fun lj=>?_) (fun lj=>?_))
  .
   refine Vs 16 O (zqO 46 960 0 O O (Vs 1 O (zr2 call79 O (fun w hI=>jk f g hk j tO gb D w (hG.keep hI.k0 fun q hd _ h=>hY q h hd)) (Vs 4 O (zoC O (fun de=>?_) (fun de=>?_))))))
   .
    refine Vs 3 O (V.bs 53 [(0,_)] tR27 ts3 tz3 tS O O tK (fun b53=>?_));refine zqV 31 53 tu27 Tryz.el3 O tS O O tO tO (fun u31=>(Va 8 O tO (zrl 31 O (e':=.row 3 1 u31 (za9 f g (j+1) v).length ((za9 f g (j+1) v).map zb)) (by rw[zfg,zt1 de,zsY,zuV];rfl) (V.back ⟨j+1,u31⟩ j2 j3 tO tR 0 O O))))
   refine zrl 31 O (e':=.row 3 1 u (za9 f g (j+1) v).length ((za9 f g (j+1) v).map zb)) (by rw[zfg,zt0 de,zu3]) (Va 7 O tO (V.back ⟨j+1,u⟩ j2 j3 tO tR 0 O O))
  obtain rfl:j=g.length:=tO;refine zqX 31 O (zlQ f g g.length v) ?_;rintro bd cd rfl dB;refine Vs 13 O (zoC O (fun l1=>?_) (fun l1=>?_))
  .
   have dJ:∀ i,¬ znT f g (xz Rw 0) v i:=by
    rintro i ⟨_,⟨z,hz,e⟩,_⟩;exact zlP tO z hz e
   refine Va 8 O tO (V.back ⟨v+1,E,ov,ol,nd,hp,pc,db,fr,ha,al⟩ j2 j3 ⟨tO,dA.skip dJ,dg,dW⟩ tR 0 O O)
  have ei:=zjS (f:=f) (g:=g) (i:=g.length) (v:=v) tO;have ej:=znb (f:=f) (v:=v) dm d8;refine Vs 6 O (zr4 call100 O (fun w hI=>zlR g.length 0 es (za9 f g g.length v) _ _ D (fun _=>True) w (dT.keep qD hI.k0 fun q hd _ h=>hY q h hd) (zpI zb iA (hI.at 31 O) (fun _ _=>trivial)) tO tO ej) ?_);rintro r w1 w2 eR ek ⟨u2,rfl,Rw',o',pl',T',L,dt,dY,em,hL⟩ du;rw[ztc]at dt;have dZ:=zg1 d6 dt d7
  have dl:∀ y:Int,y ∈ L ↔ ∃ z:Nat,y=(z:Int)/\ItS (xz Rw 0) (za9 f g g.length v) z:=fun y=>by
   rw[em];exact⟨fun⟨z,e,h⟩=>⟨z,e,zff (fun a c=>(dZ a c).symm) h⟩,fun⟨z,e,h⟩=>⟨z,e,zff dZ h⟩⟩
  have eS:=znc (n:=g.length) dY fun y hy=>by
   obtain⟨z,rfl,hz⟩:=(dl y).1 hy;have:=(zgU ht dS hz).1;omega
  obtain⟨aL,cL,rfl⟩:=hL.form;have er:=hL.max;refine Vs 14 O (zoC O (fun c0=>?_) (fun c0=>?_))
  . exact absurd O c0
  refine Vs 10 O (zrm (σ:=Nat × Value × List Int × List Value × List Value × List (List Value) × List Value × List (List Int) × List Value × List (List Int)) [0,3,4,5,21,22,23,68,69] [3,960] [0,3] O (fun e ⟨k,ov,ol,nd,hp,pc,db,fr,ha,al⟩=>(70,.int .i64 k)::e) (fun e ⟨k,ov,ol,nd,hp,pc,db,fr,ha,al⟩=>(900,.own b [.pointer (some ⟨gb,0,none⟩),ov,.slice (some ⟨bn,0,none⟩) g.length cn,chv,cuv] 123)::(901,.row 3 1 ov ol.length (ol.map zb))::(904,NodP bn nd 59)::(905,RowsCP 4 88 hp pc)::(906,RowsP zb 3 db fr)::(909,RowsP zb 3 ha al)::e) (fun⟨k,ov,ol,nd,hp,pc,db,fr,ha,al⟩=>k<=L.length/\PlS g f.vars.length (zgT E v (L.take k)) ol nd hp pc db fr ha al) (fun⟨k,ov,ol,nd,hp,pc,db,fr,ha,al⟩=>L.length - k) (0,ov,ol,nd,hp,pc,db,fr,ha,al) j2 j3 j1 j1 j1 ⟨zt5 _,by rw[zvF];show PlS g _ (E++[]) ol nd hp pc db fr ha al;rw[zu3];exact dg⟩ ?_);rintro⟨k,ov,ol,nd,hp,pc,db,fr,ha,al⟩ ⟨eT,dc⟩;refine Vs 6 O (zoC O (fun lk=>?_) (fun lk=>?_))
  .
   refine Vs 6 O (zrh 2000 0 k tO hL O O O (fun b_ d_ h_=>by have dG:=du _ h_;first | omega | exact dG d_) (fun y eU eV eW dL dM dN ew dO=>?_));obtain rfl:=dO;refine zqQ 2000 tR27 ts3 O dN tO _ rfl O ?_;obtain⟨i,rfl,hJ⟩:=(dl y).1 dM;have hi:=(zgU ht dS hJ).1;have eX:=dF i
   have ez:(zgT E v (L.take k)).length<=1001000:=by
    unfold zgT;rw[zsY,zta,ztk];omega
   have eA:ol.length<=1003000:=by
    rw[dc.of,zat];omega
   have eC:=dc.nl;have eD:=dc.hl;have eE:=dc.cl;obtain⟨eY,eZ,fb,dw,dx,dy,dQ⟩:=dV.atD (zdv hi);obtain⟨vr,rfl,da⟩:=dQ;obtain⟨ar,nr,rfl⟩:=da.form;refine Vs 5 O (zrn (σ:=Value × (Option Addr × Nat) × Nat × Nat) [0,3,4,5,12,21,22,23,68,69,70] [3,904,905,906,909,960] [0,3] O (fun e ⟨ov2,cu2,ba,bp⟩=>(13,.pointer (some ⟨bp,0,none⟩))::e) (fun e ⟨ov2,cu2,ba,bp⟩=>(900,.own b [.pointer (some ⟨gb,0,none⟩),ov2,.slice (some ⟨bn,0,none⟩) g.length cn,chv,cuv] 123)::(901,.row 3 1 ov2 (ol++[(v:Int)]).length ((ol++[(v:Int)]).map zb))::(13,.own bp [.int .i64 v,.int .i64 (ol.length:Nat),.slice cu2.1 (zg g i).length cu2.2,.slice (some ⟨ba,0,none⟩) (zg g i).length (zg g i).length] 88)::(961,.row 3 1 (.slice cu2.1 (zg g i).length cu2.2) (zg g i).length ((zg g i).map zb))::(100,.row 3 1 (.slice (some ⟨ba,0,none⟩) (zg g i).length (zg g i).length) (zg g i).length (List.replicate (zg g i).length (.int .i64 0)))::e) (fun⟨ov2,cu2,ba,bp⟩=>True) j1 j1 ?_ ?_)
   .
    refine zsM (fun w=>Keep (HS (zjV b gb bn cn g.length ofv chv cuv ofl ndc dh pcs [] [] [] [])) W w/\w.cell? ⟨b,0,none⟩=some (.pointer (some ⟨gb,0,none⟩))) [29] O (Vx [0,1,2,4,5,6,11,15,16,17,22] tK O (zsN 7 O tK O (fun w hI=>⟨hI.k1,zsH (j:=0) (show Blk w b _ _ from hI.at 900 O) O rfl⟩) (fun w hS=>R.load isAgg94 O (v:=.pointer (some ⟨gb,0,none⟩)) hS.2) (Vx [8,9] tK O (zsN 10 O tK O (fun w hI=>⟨hI.k1,zsH (j:=0) (show Blk w b _ _ from hI.at 900 O) O rfl⟩) (fun w hS=>R.load tg89 O (v:=.slice apr (zeM g).length cpr) (hS.1.cells dD (fun h=>hY _ h dC) 5 _ O)) ?_))));refine zrx 12 O tK O (fun w=>zpf tR89 ts27 O O dw UZ) (zsN 13 O tK O (fun w hI=>⟨hI.k1,zsH (j:=0) (show Blk w b _ _ from hI.at 900 O) O rfl⟩) (fun w hS=>R.load tg27 O (v:=.slice ar (zg g i).length nr) J7) (zsN 18 O tK O (fun w hI=>⟨hI.k1,zsH (j:=0) (show Blk w b _ _ from hI.at 900 O) O rfl⟩) (fun w hS=>R.load isAgg94 O (v:=.pointer (some ⟨gb,0,none⟩)) hS.2) ?_));refine Vx [19,20] tK O (zsN 21 O tK O (fun w hI=>⟨hI.k1,zsH (j:=0) (show Blk w b _ _ from hI.at 900 O) O rfl⟩) (fun w hS=>R.load tg89 O (v:=.slice apr (zeM g).length cpr) (hS.1.cells dD (fun h=>hY _ h dC) 5 _ O)) (zrx 23 O tK O (fun w=>zpf tR89 ts27 O O dw UZ) (zsN 24 O tK O (fun w hI=>⟨hI.k1,zsH (j:=0) (show Blk w b _ _ from hI.at 900 O) O rfl⟩) (fun w hS=>R.load tg27 O (v:=.slice ar (zg g i).length nr) J7) ?_)));refine Vx [25] tK O (zsq 3 [26,28] tK ⟨zrO 3 [900,901] (Hn:=fun y:Value=>[(900,.own b [.pointer (some ⟨gb,0,none⟩),y,.slice (some ⟨bn,0,none⟩) g.length cn,chv,cuv] 123),(901,.row 3 1 y (ol++[(v:Int)]).length ((ol++[(v:Int)]).map zb))]) [(0,some (900,0)),(3,some (3,0)),(72,some (2000,0)),(75,some (900,0)),(78,some (900,0)),(79,some (900,0)),(80,some (900,0)),(89,some (900,0)),(90,some (900,0)),(91,some (900,0))] tc53 O O iA j1 (fun y_ w hI=>⟨hI.k1,zsH (j:=0) (show Blk w b _ _ from hI.at 900 O) O rfl⟩) ib ?_,zpx 26 100 tu27 Tryz.el3 O O tO tO (zs:=List.replicate (zg g i).length (.int .i64 0)) Ja tZ (fun b_ w hI=>⟨hI.k1,zsH (j:=0) (show Blk w b _ _ from hI.at 900 O) O rfl⟩) (fun b100=>?_),zqN 28 13 O O (fun _ _=>M.alloc tz88 O) (fun b_ w hI=>⟨hI.k1,zsH (j:=0) (show Blk w b _ _ from hI.at 900 O) O rfl⟩) (fun b13=>?_),True.intro⟩)
    .
     rintro _ ov2 rfl;refine zsq 14 [26,28] tK ⟨zrO 14 [] (Hn:=fun y:Option Addr × Nat=>[(961,.row 3 1 (.slice y.1 (zg g i).length y.2) (zg g i).length ((zg g i).map zb))]) [(0,some (900,0)),(3,some (3,0)),(72,some (2000,0)),(75,some (900,0)),(78,some (900,0)),(79,some (900,0)),(80,some (900,0)),(89,some (900,0)),(90,some (900,0)),(91,some (900,0))] tc101 O O iA j1 (fun y_ w hI=>⟨hI.k1,zsH (j:=0) (show Blk w b _ _ from hI.at 900 O) O rfl⟩) iD ?_,zpx 26 100 tu27 Tryz.el3 O O tO tO (zs:=List.replicate (zg g i).length (.int .i64 0)) Ja tZ (fun b_ w hI=>⟨hI.k1,zsH (j:=0) (show Blk w b _ _ from hI.at 900 O) O rfl⟩) (fun b100=>?_),zqN 28 13 O O (fun _ _=>M.alloc tz88 O) (fun b_ w hI=>⟨hI.k1,zsH (j:=0) (show Blk w b _ _ from hI.at 900 O) O rfl⟩) (fun b13=>?_),True.intro⟩
     .
      rintro _ ⟨au,cu⟩ rfl;refine zsq 26 [28] tK ⟨zpx 26 100 tu27 Tryz.el3 O O tO tO (zs:=List.replicate (zg g i).length (.int .i64 0)) Ja tZ (fun b_ w hI=>⟨hI.k1,zsH (j:=0) (show Blk w b _ _ from hI.at 900 O) O rfl⟩) (fun b100=>?_),zqN 28 13 O O (fun _ _=>M.alloc tz88 O) (fun b_ w hI=>⟨hI.k1,zsH (j:=0) (show Blk w b _ _ from hI.at 900 O) O rfl⟩) (fun b13=>?_),True.intro⟩
      .
       refine zrv 27 [Value.int IntKind.i64 0,Value.int IntKind.i64 0,Value.slice none 0 0,Value.slice none 0 0] [(0,1),(1,1),(2,1),(3,1)] [(0,_),(1,_),(2,_),(3,_)] O tK O O (fun _=>tK) (zsq 28 [] tK ⟨zqN 28 13 O O (fun _ _=>M.alloc tz88 O) (fun b_ w hI=>⟨hI.k1,zsH (j:=0) (show Blk w b _ _ from hI.at 900 O) O rfl⟩) (fun b13=>?_),True.intro⟩)
       . refine zrf 29 Tryz.szsOk O tK O YC
      refine zsq 26 [] tK ⟨zpx 26 100 tu27 Tryz.el3 O O tO tO (zs:=List.replicate (zg g i).length (.int .i64 0)) Ja tZ (fun b_ w hI=>⟨hI.k1,zsH (j:=0) (show Blk w b _ _ from hI.at 900 O) O rfl⟩) (fun b100=>?_),True.intro⟩
      . refine zrv 27 [Value.int IntKind.i64 0,Value.int IntKind.i64 0,Value.slice none 0 0,Value.slice none 0 0] [(0,1),(1,1),(2,1),(3,1)] [(0,_),(1,_),(2,_),(3,_)] O tK O O (fun _=>tK) Ue
     .
      refine zsq 14 [28] tK ⟨zrO 14 [] (Hn:=fun y:Option Addr × Nat=>[(961,.row 3 1 (.slice y.1 (zg g i).length y.2) (zg g i).length ((zg g i).map zb))]) [(0,some (900,0)),(3,some (3,0)),(72,some (2000,0)),(75,some (900,0)),(78,some (900,0)),(79,some (900,0)),(80,some (900,0)),(89,some (900,0)),(90,some (900,0)),(91,some (900,0))] tc101 O O iA j1 (fun y_ w hI=>⟨hI.k1,zsH (j:=0) (show Blk w b _ _ from hI.at 900 O) O rfl⟩) iD ?_,zqN 28 13 O O (fun _ _=>M.alloc tz88 O) (fun b_ w hI=>⟨hI.k1,zsH (j:=0) (show Blk w b _ _ from hI.at 900 O) O rfl⟩) (fun b13=>?_),True.intro⟩
      .
       rintro _ ⟨au,cu⟩ rfl;refine zrv 27 [Value.int IntKind.i64 0,Value.int IntKind.i64 0,Value.slice none 0 0,Value.slice none 0 0] [(0,1),(1,1),(2,1),(3,1)] [(0,_),(1,_),(2,_),(3,_)] O tK O O (fun _=>tK) (zsq 28 [] tK ⟨zqN 28 13 O O (fun _ _=>M.alloc tz88 O) (fun b_ w hI=>⟨hI.k1,zsH (j:=0) (show Blk w b _ _ from hI.at 900 O) O rfl⟩) (fun b13=>?_),True.intro⟩)
       . refine zrf 29 Tryz.szsOk O tK O YC
      refine zsq 14 [] tK ⟨zrO 14 [] (Hn:=fun y:Option Addr × Nat=>[(961,.row 3 1 (.slice y.1 (zg g i).length y.2) (zg g i).length ((zg g i).map zb))]) [(0,some (900,0)),(3,some (3,0)),(13,some (13,0)),(72,some (2000,0)),(75,some (900,0)),(78,some (900,0)),(79,some (900,0)),(80,some (900,0)),(89,some (900,0)),(90,some (900,0)),(91,some (900,0))] tc101 O O iA j1 (fun y_ w hI=>⟨hI.k1,zsH (j:=0) (show Blk w b _ _ from hI.at 900 O) O rfl⟩) iD ?_,True.intro⟩
      .
       rintro _ ⟨au,cu⟩ rfl;refine zrv 27 [Value.int IntKind.i64 0,Value.int IntKind.i64 0,Value.slice none 0 0,Value.slice none 0 0] [(0,1),(1,1),(2,1),(3,1)] [(0,_),(1,_),(2,_),(3,_)] O tK O O (fun _=>tK) Ue
     refine zsq 14 [26] tK ⟨zrO 14 [] (Hn:=fun y:Option Addr × Nat=>[(961,.row 3 1 (.slice y.1 (zg g i).length y.2) (zg g i).length ((zg g i).map zb))]) [(0,some (900,0)),(3,some (3,0)),(13,some (13,0)),(72,some (2000,0)),(75,some (900,0)),(78,some (900,0)),(79,some (900,0)),(80,some (900,0)),(89,some (900,0)),(90,some (900,0)),(91,some (900,0))] tc101 O O iA j1 (fun y_ w hI=>⟨hI.k1,zsH (j:=0) (show Blk w b _ _ from hI.at 900 O) O rfl⟩) iD ?_,zpx 26 100 tu27 Tryz.el3 O O tO tO (zs:=List.replicate (zg g i).length (.int .i64 0)) Ja tZ (fun b_ w hI=>⟨hI.k1,zsH (j:=0) (show Blk w b _ _ from hI.at 900 O) O rfl⟩) (fun b100=>?_),True.intro⟩
     .
      rintro _ ⟨au,cu⟩ rfl;refine zsq 26 [] tK ⟨zpx 26 100 tu27 Tryz.el3 O O tO tO (zs:=List.replicate (zg g i).length (.int .i64 0)) Ja tZ (fun b_ w hI=>⟨hI.k1,zsH (j:=0) (show Blk w b _ _ from hI.at 900 O) O rfl⟩) (fun b100=>?_),True.intro⟩
      . refine zrv 27 [Value.int IntKind.i64 0,Value.int IntKind.i64 0,Value.slice none 0 0,Value.slice none 0 0] [(0,1),(1,1),(2,1),(3,1)] [(0,_),(1,_),(2,_),(3,_)] O tK O O (fun _=>tK) Ue
     refine zsq 14 [] tK ⟨zrO 14 [] (Hn:=fun y:Option Addr × Nat=>[(961,.row 3 1 (.slice y.1 (zg g i).length y.2) (zg g i).length ((zg g i).map zb))]) [(0,some (900,0)),(3,some (3,0)),(13,some (13,0)),(72,some (2000,0)),(75,some (900,0)),(78,some (900,0)),(79,some (900,0)),(80,some (900,0)),(89,some (900,0)),(90,some (900,0)),(91,some (900,0))] tc101 O O iA j1 (fun y_ w hI=>⟨hI.k1,zsH (j:=0) (show Blk w b _ _ from hI.at 900 O) O rfl⟩) iD ?_,True.intro⟩
     .
      rintro _ ⟨au,cu⟩ rfl;refine zrv 27 [Value.int IntKind.i64 0,Value.int IntKind.i64 0,Value.slice none 0 0,Value.slice none 0 0] [(0,1),(1,1),(2,1),(3,1)] [(0,_),(1,_),(2,_),(3,_)] O tK O O (fun _=>tK) Ue
    .
     refine zsq 3 [28] tK ⟨zrO 3 [900,901] (Hn:=fun y:Value=>[(900,.own b [.pointer (some ⟨gb,0,none⟩),y,.slice (some ⟨bn,0,none⟩) g.length cn,chv,cuv] 123),(901,.row 3 1 y (ol++[(v:Int)]).length ((ol++[(v:Int)]).map zb))]) [(0,some (900,0)),(3,some (3,0)),(72,some (2000,0)),(75,some (900,0)),(78,some (900,0)),(79,some (900,0)),(80,some (900,0)),(89,some (900,0)),(90,some (900,0)),(91,some (900,0))] tc53 O O iA j1 (fun y_ w hI=>⟨hI.k1,zsH (j:=0) (show Blk w b _ _ from hI.at 900 O) O rfl⟩) ib ?_,zqN 28 13 O O (fun _ _=>M.alloc tz88 O) (fun b_ w hI=>⟨hI.k1,zsH (j:=0) (show Blk w b _ _ from hI.at 900 O) O rfl⟩) (fun b13=>?_),True.intro⟩
     .
      rintro _ ov2 rfl;refine zsq 14 [28] tK ⟨zrO 14 [] (Hn:=fun y:Option Addr × Nat=>[(961,.row 3 1 (.slice y.1 (zg g i).length y.2) (zg g i).length ((zg g i).map zb))]) [(0,some (900,0)),(3,some (3,0)),(72,some (2000,0)),(75,some (900,0)),(78,some (900,0)),(79,some (900,0)),(80,some (900,0)),(89,some (900,0)),(90,some (900,0)),(91,some (900,0))] tc101 O O iA j1 (fun y_ w hI=>⟨hI.k1,zsH (j:=0) (show Blk w b _ _ from hI.at 900 O) O rfl⟩) iD ?_,zqN 28 13 O O (fun _ _=>M.alloc tz88 O) (fun b_ w hI=>⟨hI.k1,zsH (j:=0) (show Blk w b _ _ from hI.at 900 O) O rfl⟩) (fun b13=>?_),True.intro⟩
      .
       rintro _ ⟨au,cu⟩ rfl;refine zrv 27 [Value.int IntKind.i64 0,Value.int IntKind.i64 0,Value.slice none 0 0,Value.slice none 0 0] [(0,1),(1,1),(2,1),(3,1)] [(0,_),(1,_),(2,_),(3,_)] O tK O O (fun _=>tK) (zsq 28 [] tK ⟨zqN 28 13 O O (fun _ _=>M.alloc tz88 O) (fun b_ w hI=>⟨hI.k1,zsH (j:=0) (show Blk w b _ _ from hI.at 900 O) O rfl⟩) (fun b13=>?_),True.intro⟩)
       . refine zrf 29 Tryz.szsOk O tK O YC
      refine zsq 14 [] tK ⟨zrO 14 [] (Hn:=fun y:Option Addr × Nat=>[(961,.row 3 1 (.slice y.1 (zg g i).length y.2) (zg g i).length ((zg g i).map zb))]) [(0,some (900,0)),(3,some (3,0)),(13,some (13,0)),(72,some (2000,0)),(75,some (900,0)),(78,some (900,0)),(79,some (900,0)),(80,some (900,0)),(89,some (900,0)),(90,some (900,0)),(91,some (900,0))] tc101 O O iA j1 (fun y_ w hI=>⟨hI.k1,zsH (j:=0) (show Blk w b _ _ from hI.at 900 O) O rfl⟩) iD ?_,True.intro⟩
      .
       rintro _ ⟨au,cu⟩ rfl;refine zrv 27 [Value.int IntKind.i64 0,Value.int IntKind.i64 0,Value.slice none 0 0,Value.slice none 0 0] [(0,1),(1,1),(2,1),(3,1)] [(0,_),(1,_),(2,_),(3,_)] O tK O O (fun _=>tK) Ue
     refine zsq 3 [] tK ⟨zrO 3 [900,901] (Hn:=fun y:Value=>[(900,.own b [.pointer (some ⟨gb,0,none⟩),y,.slice (some ⟨bn,0,none⟩) g.length cn,chv,cuv] 123),(901,.row 3 1 y (ol++[(v:Int)]).length ((ol++[(v:Int)]).map zb))]) [(0,some (900,0)),(3,some (3,0)),(13,some (13,0)),(72,some (2000,0)),(75,some (900,0)),(78,some (900,0)),(79,some (900,0)),(80,some (900,0)),(89,some (900,0)),(90,some (900,0)),(91,some (900,0))] tc53 O O iA j1 (fun y_ w hI=>⟨hI.k1,zsH (j:=0) (show Blk w b _ _ from hI.at 900 O) O rfl⟩) ib ?_,True.intro⟩
     .
      rintro _ ov2 rfl;refine zsq 14 [] tK ⟨zrO 14 [] (Hn:=fun y:Option Addr × Nat=>[(961,.row 3 1 (.slice y.1 (zg g i).length y.2) (zg g i).length ((zg g i).map zb))]) [(0,some (900,0)),(3,some (3,0)),(13,some (13,0)),(72,some (2000,0)),(75,some (900,0)),(78,some (900,0)),(79,some (900,0)),(80,some (900,0)),(89,some (900,0)),(90,some (900,0)),(91,some (900,0))] tc101 O O iA j1 (fun y_ w hI=>⟨hI.k1,zsH (j:=0) (show Blk w b _ _ from hI.at 900 O) O rfl⟩) iD ?_,True.intro⟩
      .
       rintro _ ⟨au,cu⟩ rfl;refine zrv 27 [Value.int IntKind.i64 0,Value.int IntKind.i64 0,Value.slice none 0 0,Value.slice none 0 0] [(0,1),(1,1),(2,1),(3,1)] [(0,_),(1,_),(2,_),(3,_)] O tK O O (fun _=>tK) Ue
    refine zsq 3 [26] tK ⟨zrO 3 [900,901] (Hn:=fun y:Value=>[(900,.own b [.pointer (some ⟨gb,0,none⟩),y,.slice (some ⟨bn,0,none⟩) g.length cn,chv,cuv] 123),(901,.row 3 1 y (ol++[(v:Int)]).length ((ol++[(v:Int)]).map zb))]) [(0,some (900,0)),(3,some (3,0)),(13,some (13,0)),(72,some (2000,0)),(75,some (900,0)),(78,some (900,0)),(79,some (900,0)),(80,some (900,0)),(89,some (900,0)),(90,some (900,0)),(91,some (900,0))] tc53 O O iA j1 (fun y_ w hI=>⟨hI.k1,zsH (j:=0) (show Blk w b _ _ from hI.at 900 O) O rfl⟩) ib ?_,zpx 26 100 tu27 Tryz.el3 O O tO tO (zs:=List.replicate (zg g i).length (.int .i64 0)) Ja tZ (fun b_ w hI=>⟨hI.k1,zsH (j:=0) (show Blk w b _ _ from hI.at 900 O) O rfl⟩) (fun b100=>?_),True.intro⟩
    .
     rintro _ ov2 rfl;refine zsq 14 [26] tK ⟨zrO 14 [] (Hn:=fun y:Option Addr × Nat=>[(961,.row 3 1 (.slice y.1 (zg g i).length y.2) (zg g i).length ((zg g i).map zb))]) [(0,some (900,0)),(3,some (3,0)),(13,some (13,0)),(72,some (2000,0)),(75,some (900,0)),(78,some (900,0)),(79,some (900,0)),(80,some (900,0)),(89,some (900,0)),(90,some (900,0)),(91,some (900,0))] tc101 O O iA j1 (fun y_ w hI=>⟨hI.k1,zsH (j:=0) (show Blk w b _ _ from hI.at 900 O) O rfl⟩) iD ?_,zpx 26 100 tu27 Tryz.el3 O O tO tO (zs:=List.replicate (zg g i).length (.int .i64 0)) Ja tZ (fun b_ w hI=>⟨hI.k1,zsH (j:=0) (show Blk w b _ _ from hI.at 900 O) O rfl⟩) (fun b100=>?_),True.intro⟩
     .
      rintro _ ⟨au,cu⟩ rfl;refine zsq 26 [] tK ⟨zpx 26 100 tu27 Tryz.el3 O O tO tO (zs:=List.replicate (zg g i).length (.int .i64 0)) Ja tZ (fun b_ w hI=>⟨hI.k1,zsH (j:=0) (show Blk w b _ _ from hI.at 900 O) O rfl⟩) (fun b100=>?_),True.intro⟩
      . refine zrv 27 [Value.int IntKind.i64 0,Value.int IntKind.i64 0,Value.slice none 0 0,Value.slice none 0 0] [(0,1),(1,1),(2,1),(3,1)] [(0,_),(1,_),(2,_),(3,_)] O tK O O (fun _=>tK) Ue
     refine zsq 14 [] tK ⟨zrO 14 [] (Hn:=fun y:Option Addr × Nat=>[(961,.row 3 1 (.slice y.1 (zg g i).length y.2) (zg g i).length ((zg g i).map zb))]) [(0,some (900,0)),(3,some (3,0)),(13,some (13,0)),(72,some (2000,0)),(75,some (900,0)),(78,some (900,0)),(79,some (900,0)),(80,some (900,0)),(89,some (900,0)),(90,some (900,0)),(91,some (900,0))] tc101 O O iA j1 (fun y_ w hI=>⟨hI.k1,zsH (j:=0) (show Blk w b _ _ from hI.at 900 O) O rfl⟩) iD ?_,True.intro⟩
     .
      rintro _ ⟨au,cu⟩ rfl;refine zrv 27 [Value.int IntKind.i64 0,Value.int IntKind.i64 0,Value.slice none 0 0,Value.slice none 0 0] [(0,1),(1,1),(2,1),(3,1)] [(0,_),(1,_),(2,_),(3,_)] O tK O O (fun _=>tK) Ue
    refine zsq 3 [] tK ⟨zrO 3 [900,901] (Hn:=fun y:Value=>[(900,.own b [.pointer (some ⟨gb,0,none⟩),y,.slice (some ⟨bn,0,none⟩) g.length cn,chv,cuv] 123),(901,.row 3 1 y (ol++[(v:Int)]).length ((ol++[(v:Int)]).map zb))]) [(0,some (900,0)),(3,some (3,0)),(13,some (13,0)),(72,some (2000,0)),(75,some (900,0)),(78,some (900,0)),(79,some (900,0)),(80,some (900,0)),(89,some (900,0)),(90,some (900,0)),(91,some (900,0))] tc53 O O iA j1 (fun y_ w hI=>⟨hI.k1,zsH (j:=0) (show Blk w b _ _ from hI.at 900 O) O rfl⟩) ib ?_,True.intro⟩
    .
     rintro _ ov2 rfl;refine zsq 14 [] tK ⟨zrO 14 [] (Hn:=fun y:Option Addr × Nat=>[(961,.row 3 1 (.slice y.1 (zg g i).length y.2) (zg g i).length ((zg g i).map zb))]) [(0,some (900,0)),(3,some (3,0)),(13,some (13,0)),(72,some (2000,0)),(75,some (900,0)),(78,some (900,0)),(79,some (900,0)),(80,some (900,0)),(89,some (900,0)),(90,some (900,0)),(91,some (900,0))] tc101 O O iA j1 (fun y_ w hI=>⟨hI.k1,zsH (j:=0) (show Blk w b _ _ from hI.at 900 O) O rfl⟩) iD ?_,True.intro⟩
     .
      rintro _ ⟨au,cu⟩ rfl;refine zrv 27 [Value.int IntKind.i64 0,Value.int IntKind.i64 0,Value.slice none 0 0,Value.slice none 0 0] [(0,1),(1,1),(2,1),(3,1)] [(0,_),(1,_),(2,_),(3,_)] O tK O O (fun _=>tK) Ue
   rintro⟨ov2,cu2,ba,bp⟩ -;refine zqO 13 13 0 O O ?_;obtain⟨dR,d5⟩:∃ z,hp[i]?=some z:=iC;have eF:=(dc.n0 i hi).trans d5;have eG:=dc.pc i hi;have fe:=zjW f.vars.length g (zgT E v (L.take k)) i;have eH:((pwE f.vars.length g (zgT E v (L.take k)) i).flatMap (phC db ha)).length=(pwE f.vars.length g (zgT E v (L.take k)) i).length*4:=zQ (c:=4) j1 _;refine zrl 100 O (e':=.row 3 1 (.slice (some ⟨ba,0,none⟩) (zg g i).length (zg g i).length) (zg g i).length ((List.replicate (zg g i).length (0:Int)).map zb)) (by rw[zv0]) (zs6 906 961 (e':=RowsP zb 3 (db++[Value.slice cu2.1 (zg g i).length cu2.2]) (fr++[zg g i])) [(0,some (900,0)),(3,some (3,0)),(13,some (13,0))] O O O (fun w hI=>qS hI 906 961 O O O tS) RowsP.loc (fun _ h=>h) UH (zs6 909 100 (e':=RowsP zb 3 (ha++[Value.slice (some ⟨ba,0,none⟩) (zg g i).length (zg g i).length]) (al++[List.replicate (zg g i).length 0])) [(0,some (900,0)),(3,some (3,0)),(13,some (13,0))] O O O (fun w hI=>qS hI 909 100 O O (by rw[zuT]) tS) RowsP.loc (fun _ h=>h) UH ?_));refine Vs 1 O (Vw [3,904,960,900,13] [20] O (Vd [0,1,2,3,4,5,6,7,8,9,10,11,15] 0 tK O O O (zrw 12 O tK O (fun w=>zpf tR28 ts59 O O O tO) (Vd [13] 0 tK O O O (zrC 14 O tK O 0 O O (fun w hI=>R.load tg56 O (v:=dR) (zsH (show Blk w bn _ _ from hI.at 904 O) eF tO)) (VD.bs 16 118 0 [(0,_)] tR56 ts88 tz88 tS O tK O O tK (fun b118=>?_)))))));refine zsG 17 905 118 0 i underlying56 Tryz.el88 O tS O tK O O O tX d5 eG (fun m hm=>tO) (fun u905 dz=>(zrw 18 O tK O (fun w=>zpf tR28 ts59 O O O tO) (Vd [19] 0 tK O O O (zsJ 20 904 (e':=NodP bn (nd.set (i*3) u905) 59) O tK O (NodP.loc) (fun _ h=>h) (fun w hI=>zsI ts56 (show Blk w bn _ _ from hI.at 904 O) O O dz tO tO) (VDx.done tK (Va 6 O tO ?_))))));refine V.back ⟨k+1,ov2,ol++[(v:Int)],nd.set (i*3) u905,hp.set i u905,_,_,_,_,_⟩ j2 j3 ⟨tO,by rw[zjT dL,ztc];exact dc.snoc hi u905 _ _⟩ tR 0 O O
  obtain rfl:k=L.length:=tO;rw[zsV]at dc;refine Va 10 O tO (V.back ⟨v+1,zgT E v L,ov,ol,nd,hp,pc,db,fr,ha,al⟩ j2 j3 ⟨tO,dA.step dY dK ei dl,dc,by rw[zjX];unfold zgT;rw[zsY,zta];omega⟩ tR 1 O O)
 obtain rfl:v=f.vars.length:=tO;refine Vs 11 O (zoT results54 O (fun w hI=>⟨_,rfl,(E,ov,ol,nd,hp,pc,db,fr,ha,al),⟨rfl,dA,dg,ed⟩,hI.back 0 O O O rfl⟩))
theorem zlS (hw:WkG f g Rw order pl T of1 pw) (da:Nat->Option Addr × Nat × Nat) (has:List Value) (fU:∀ j,j<g.length->∀ (q:Nat) p,(pw j)[q]?=some p->has[p.2]?=some (.slice (da p.2).1 (da p.2).2.1 (da p.2).2.2)) (dJ:Nat->Value) (b gb bn cn:Nat) (chv cuv:Value) (D:Nat->Prop) :
  ∀ (m k i:Nat) (ofv:Value) (ofl:List Int) (rv:List Value) (rows:List (List Int)) (ndc db:List Value) (ucs:List (List Value)) (als:List (List Int)) (W:World),PreW g T k m i->Deep T pl g.length m i->i<g.length->StW f g T of1 pw dJ k ofl ndc db ucs als->TopW f g T of1 pw i rows->rows.length=f.vars.length->rv.length=rows.length->(∀ r ∈ rows,r.length+m*1001<=100000000)->GrO D W f g gb->(∀ j,j<g.length->SlR 4 (RPw da) D W (dJ j) (pw j))->SlR 1 (RSl 1 zw) D W chv (chL T g.length) ->
  Held (zjM b gb bn cn g.length ofv chv cuv ofl rv rows ndc db ucs has als) W->(∀ q,D q->q<W.heap.size)->(∀ q,HS (zjM b gb bn cn g.length ofv chv cuv ofl rv rows ndc db ucs has als) q->¬ D q) ->
  Calls prog 55 #[.pointer (some ⟨b,0,none⟩),.int .i64 i] W (Ret fun r w'=>∃ y:Value × List Int × List Value × List Value × List Value × List (List Value) × List (List Int),(r=.tuple #[]/\y.2.2.1.length=rows.length/\StW f g T of1 pw dJ (k+(zfn T m i).length) y.2.1 y.2.2.2.1 y.2.2.2.2.1 y.2.2.2.2.2.1 y.2.2.2.2.2.2)/\GBack (zjM b gb bn cn g.length ofv chv cuv ofl rv rows ndc db ucs has als) (zjM b gb bn cn g.length y.1 chv cuv y.2.1 y.2.2.1 rows y.2.2.2.1 y.2.2.2.2.1 y.2.2.2.2.2.1 has y.2.2.2.2.2.2) W w'):=by
 intro m;induction m with
 | zero =>
  intro k i ofv ofl rv rows ndc db ucs als W _ dg hi;have:=dg.pos hi;omega
 | succ m ih =>
 intro k i ofv ofl rv rows ndc db ucs als W dK dg hi dh er dL fV fy hG hP ef hE hD hY;have fW:0<g.length:=tO;have dM:=dK.at;have dA:=jH hw.ht hw.hor fW;have eh:(xY g T).Nodup:=dA.nodup_iff.2 zvg;have fX:=zn6 f g T of1 k;rw[<- dh.of,dA.length_eq,zuS]at fX;have gX:=hw.small;have fY:=hw.ofs;have gY:=dh.nl;have ei:=hP i hi;obtain⟨ap,cp,fZ⟩:=ei.form;have gZ:=ei.max;have g9:=hw.len i hi;have dC:=hw.var i hi;have fA:=dh.n0 i hi;rw[fZ]at ei fA;obtain⟨hu,ew⟩:∃ z,db[i]?=some z:=⟨_,zsQ (by rw[dh.hl];exact hi)⟩;have f0:=(dh.n1 i hi).trans ew;have f4:=dh.n2 i hi;have fB:=zn3 eh dM
 have fC:ucs[i]?=some []:=by
  rw[dh.us i hi];unfold usK;rw[fB];rfl
 have k8:=(zt4.1 ew).1;have ma:=(zt4.1 fC).1;obtain⟨v1,v2,v3,gv,sv,pv,f5,f7,_,ez,_,_⟩:=id hG;obtain⟨ag,cg,rfl⟩:=ez.form;have mb:=ez.max;obtain⟨ach,cch,rfl⟩:=ef.form;have f8:=ef.max;have f9:(chL T g.length).length=g.length:=by unfold chL;rw[zta,zuS]
 have eA:∀ r ∈ rows,r.length<=100000000:=fun r hr=>by have:=fy r hr;omega
 have eC:∀ (l:List (Nat × Int)),l.length<=1001->∀ r ∈ yS rows l,r.length<=1000000000:=fun l hl r hr=>by
  have:=zlK l rows eA r hr;omega
 have dl:=er.phis hw.ht hw.hor hi (fun p hp=>by rw[dL];exact dC p hp) (hw.asc i hi);refine zsy func55 O ntmps55 O (zrL [(900,.own b [.pointer (some ⟨gb,0,none⟩),ofv,.slice (some ⟨bn,0,none⟩) g.length cn,.slice ach (chL T g.length).length cch,cuv] 123),(901,.row 3 1 ofv ofl.length (ofl.map zb)),(902,.row 27 1 cuv rv.length rv),(903,RowsP zb 3 rv rows),(904,NodP bn ndc 59),(907,RowsCP 2 85 db ucs),(909,RowsP zb 3 has als)] hE.1 hE.2 (zqO 0 900 0 O O (Vs 8 O (zqh O (fun w hI=>zpf tR28 ts59 O O O tO) (Vs 9 O (zqh O (fun w hI=>R.load tg56 O (v:=.slice ap (pw i).length cp) (zsH (show Blk w bn _ _ from hI.at 904 O) fA tO)) ?_))))));refine Vs 5 O (zqU 950 3 1 O (zrB 950 (e':=CloP b []) O (fun w hI=>fun c hc=>by cases hc) CloP.loc (fun _ h=>h) (fun q hq=>by obtain⟨c,hc,_⟩:=hq;cases hc) (zrl 903 O (e':=RowsP zb 3 rv (yS rows (za8 (pw i) 0))) rfl (zst (σ:=Nat × List Value × List Clo) (fun⟨t,rv',cls⟩=>⟨145,cls.map znS⟩) [0,1,4,26,27] [900,901,904,907,909] [0] O (fun e ⟨t,rv',cls⟩=>(28,.int .i64 t)::e) (fun e ⟨t,rv',cls⟩=>(902,.row 27 1 cuv rv'.length rv')::(903,RowsP zb 3 rv' (yS rows (za8 (pw i) t)))::(950,CloP b cls)::e) (fun⟨t,rv',cls⟩=>t<=(pw i).length/\rv'.length=rows.length/\cls.map (·.2.2)=((za8 (pw i) t).map (·.1)).reverse) (fun⟨t,rv',cls⟩=>(pw i).length - t) (0,rv,[]) O j2 j3 j1 j1 j1 ⟨zt5 _,fV,rfl⟩ ?_))));rintro⟨t,rv',cls⟩ ⟨gc,dw,dm⟩;refine Vs 6 O (zoC O (fun gf=>?_) (fun gf=>?_))
 .
  refine Vs 6 O (zrh 1000 0 t tO ei O O O iZ (fun p gh gl gq dr dx dD eD dE=>?_));obtain⟨eE,rfl,dy⟩:=dE;obtain⟨dN,dO,rfl⟩:=dy.form;refine zqQ 1000 tR56 ts88 O dD tO _ rfl O ?_;obtain⟨fD,fE⟩:=dC p dx;obtain⟨vn,dG⟩:∃ vn:Nat,p.1.var=(vn:Int):=⟨p.1.var.toNat,tO⟩
  have fF:(yS rows (za8 (pw i) t))[vn]?=some ((yS rows (za8 (pw i) t))[vn]?.getD []):=by
   have e:=zsQ (show vn<(yS rows (za8 (pw i) t)).length by rw[qR];omega);rw[e];rfl
  rw[dG];refine Vs 1 O (V.alloc 6 tz88 O O (fun b6=>?_));refine Vs 9 O (zrM [900,902,903] (Hn:=fun y:Nat × Nat × Value=>[(900,.own b [.pointer (some ⟨gb,0,none⟩),ofv,.slice (some ⟨bn,0,none⟩) g.length cn,.slice ach (chL T g.length).length cch,cuv] 123),(902,.row 27 1 cuv (rv'.set vn y.2.2).length (rv'.set vn y.2.2)),(903,RowsP zb 3 (rv'.set vn y.2.2) ((yS rows (za8 (pw i) t)).set vn ((yS rows (za8 (pw i) t))[vn]?.getD []++[p.1.ver]))),(905,.own y.1 [.pointer (some ⟨b,0,none⟩)] 121),(906,.own y.2.1 [.int .i64 vn] 3)]) [(0,some (900,0)),(6,some (6,0)),(30,some (1000,0)),(32,some (900,0)),(33,some (6,0)),(35,some (6,1))] call102 O iA j1 (fun w hI=>yX O O (zcS vn p.1.ver (yS rows (za8 (pw i) t)) rv' _ fF (eC (za8 (pw i) t) (by rw[zdM gc];omega) _ (zsR fF)) (by rw[qR];exact dw) b gb ofv (.slice (some ⟨bn,0,none⟩) g.length cn) _ cuv w (hI.held O O O))) ?_);rintro _ ⟨bx,by',u⟩ rfl;refine V.defer O (zs6 950 905 (e':=CloQ b cls bx) [(0,some (900,0))] O O O (fun w hI=>⟨hI.at 950 rfl,hI.at 905 rfl⟩) CloQ.loc (fun _ h=>h) (fun q hq=>hq) ?_)
  refine zs6 950 906 (e':=CloP b ((bx,by',vn)::cls)) [(0,some (900,0))] O O O (fun w hI=>CloOk.cons (c:=(bx,by',vn)) (hI.at 950 O).1 (hI.at 950 O).2 (hI.at 906 O)) CloP.loc (fun _ h=>h) (fun q hq=>by
   obtain⟨c,hc,h⟩:=hq;rcases zt6.1 hc with rfl | hc
   . exact h.imp (fun h=>.inr h) (fun h=>h)
   .
    exact .inl (.inl ⟨c,hc,h⟩)) ?_
  refine zrl 903 O (e':=RowsP zb 3 (rv'.set vn u) (yS rows (za8 (pw i) (t+1)))) (by rw[zfb dr,jR,dG];rfl) (Va 7 O tO (zsu ⟨t+1,rv'.set vn u,(bx,by',vn)::cls⟩ rfl j2 j3 ⟨tO,by rw[zuU];exact dw,by rw[zfb dr,zuV,zvs,<- dm,dG];rfl⟩ tR 0 O O))
 obtain rfl:t=(pw i).length:=tO;refine Vs 13 O (zr4 call81 O (fun w hI=>zeN f g hw.hk i hi gb D w (hG.keep hI.k0 fun q hd _ h=>hY q h hd)) ?_);rintro r2 w1 w2 mc gr eF dQ;have gs:=zlM hw.hk hi;have me:=eF.max;dsimp only at *;generalize dH:yS rows (za8 (pw i) (pw i).length)=rows1 at *;have gt:rows1.length=rows.length:=by rw[<- dH,qR]
 obtain⟨ard,crd,rfl⟩:=eF.form;refine Vs 4 O (zrl 904 O (e':=NodP bn (ndc.set (i*3+1) hu) 59) (by rw[set_same f0]) (zrl 907 O (e':=RowsCP 2 85 (db.set i hu) (ucs.set i (((rdV f g i).take 0).flatMap fun v=>zlI (v,zdJ f g T of1 (phW pw) i v)))) (by rw[set_same ew,zvF,List.flatMap_nil,set_same fC]) (Vs 1 O (zrm (σ:=Nat × Value) [0,1,4,44,45] [900,901,902,903,909,950] [0] O (fun e ⟨t,u⟩=>(46,.int .i64 t)::e) (fun e ⟨t,u⟩=>(904,NodP bn (ndc.set (i*3+1) u) 59)::(907,RowsCP 2 85 (db.set i u) (ucs.set i (((rdV f g i).take t).flatMap fun v=>zlI (v,zdJ f g T of1 (phW pw) i v))))::e) (fun⟨t,u⟩=>t<=(rdV f g i).length) (fun⟨t,u⟩=>(rdV f g i).length - t) (0,hu) j2 j3 j1 j1 j1 (zt5 _) ?_))));rintro⟨t,u⟩ ht;refine Vs 6 O (zoC O (fun lt=>?_) (fun lt=>?_))
 .
  refine Vs 6 O (zrh 2000 0 t tO eF O O O (fun b_ d_ h_=>by have dc:=dQ _ h_;first | omega | exact dc d_) (fun v mf mg mh eG eH eI gw eJ=>?_));obtain rfl:=eJ;refine zqQ 2000 tR27 ts3 O eI tO _ rfl O ?_;obtain⟨fD,fE⟩:=hw.df.rd i v eH;obtain⟨vn,rfl⟩:∃ vn:Nat,v=(vn:Int):=⟨v.toNat,tO⟩;obtain⟨rr,dz⟩:∃ r,rows1[vn]?=some r:=iC;obtain⟨_,eK⟩:=dl vn rr dz
  have ml:(((rdV f g i).take t).flatMap fun v=>zlI (v,zdJ f g T of1 (phW pw) i v)).length=t*2:=by
   refine(zQ (c:=2) j1 _).trans ?_;rw[ztk,Nat.min_eq_left tO]
  refine Vs 4 O (Vw [900,904,2000] [14] O (Vd [0,1,2,3,5,6,7] 0 tK O O O (zrC 4 O tK O 0 O O (fun w hI=>R.load isAgg57 O (v:=u) (zsH (show Blk w bn _ _ from hI.at 904 O) (zuJ tO) tO)) ?_)));refine zr3 8 0 call103 O tK O O (fun w hI=>zf4 vn rows1 rr (zdJ f g T of1 (phW pw) i vn) dz eK b gb _ _ _ _ (fun _=>True) w (Blk.cells (hI.at 900 O)) (zgR tO (hI.at 902 O) (hI.at 903 O))) (zru 9 [Value.int IntKind.i64 0,Value.int IntKind.i64 0] [(0,1),(1,1)] [(0,_),(1,_)] O tK O O (fun _=>tK) (VD.bs 10 60 0 [(0,_)] tR57 ts85 tz85 tS O tK O O tK (fun b60=>?_)));refine zsG 11 907 60 0 i underlying57 Tryz.el85 O tS O tK O O O tX (zuJ tO) (zuJ tO) (fun m hm=>tO) (fun u907 dR=>?_);refine Vd [12,13] 0 tK O O O (zsJ 14 904 (e':=NodP bn ((ndc.set (i*3+1) u).set (i*3+1) u907) 59) O tK O (NodP.loc) (fun _ h=>h) (fun w hI=>zsI sizeOf57 (show Blk w bn _ _ from hI.at 904 O) O O dR tO JW) (VDx.done tK (Vs 2 O (zrl 904 O (e':=NodP bn (ndc.set (i*3+1) u907) 59) (by rw[zvv]) (zrl 907 O (e':=RowsCP 2 85 (db.set i u907) (ucs.set i (((rdV f g i).take (t+1)).flatMap fun v=>zlI (v,zdJ f g T of1 (phW pw) i v)))) (by rw[zvv,zvv,ze eG,zus];rfl) ?_)))));refine Va 4 O tO (V.back ⟨t+1,u907⟩ j2 j3 tO tR 0 O O)
 obtain rfl:t=(rdV f g i).length:=tO;refine zrl 907 O (e':=RowsCP 2 85 (db.set i u) (ucs.set i (((rdV f g i).map fun v=>(v,zdJ f g T of1 (phW pw) i v)).flatMap zlI))) (by rw[zsV,zuv]) (Vs 13 O (zr2 call79 O (fun w hI=>jk f g hw.hk i hi gb D w (hG.keep hI.k1 fun q hd _ h=>hY q h hd)) (Vs 3 O (zsv (σ:=Value × List Int × List Value × List Clo) (fun⟨ov,ol,rv2,cls2⟩=>⟨145,cls2.map znS⟩) [0,1] [907,909] [0] O (fun e ⟨ov,ol,rv2,cls2⟩=>e) (fun e ⟨ov,ol,rv2,cls2⟩=>(900,.own b [.pointer (some ⟨gb,0,none⟩),ov,.slice (some ⟨bn,0,none⟩) g.length cn,.slice ach (chL T g.length).length cch,cuv] 123)::(901,.row 3 1 ov ol.length (ol.map zb))::(902,.row 27 1 cuv rv2.length rv2)::(903,RowsP zb 3 rv2 (yS rows (zdN f g T of1 (pw i) i)))::(904,NodP bn ((ndc.set (i*3+1) u).set (i*3+2) (.int .i64 (dfW f g T of1 i))) 59)::(950,CloP b cls2)::e) (fun⟨ov,ol,rv2,cls2⟩=>ol=(if 0<=yr f g i then ofl++[yr f g i] else ofl)/\rv2.length=rows.length/\cls2.map (·.2.2)=((zdN f g T of1 (pw i) i).map (·.1)).reverse) j1 j1 ?_ ?_))))
 .
  refine Vs 6 O (zoC O (fun hd=>?_) (fun hd=>?_))
  .
   obtain⟨dn,eL⟩:∃ dn:Nat,yr f g i=(dn:Int):=⟨(yr f g i).toNat,tO⟩;obtain⟨_,dS,_⟩:=hw.df.dfn i hi hd;have fG:=(zt4.1 dS).1;have fH:dfW f g T of1 i=((ofl.length:Nat):Int):=by rw[zn4 eh dM hd,dh.of]
   obtain⟨rr,dz⟩:∃ r,rows1[dn]?=some r:=iC;refine V.eq 9 (v:=.int .i64 (dn:Int)) O (by rw[eL]) (Vs 5 O (zrM [900,901] (Hn:=fun y:Value=>[(900,.own b [.pointer (some ⟨gb,0,none⟩),y,.slice (some ⟨bn,0,none⟩) g.length cn,.slice ach (chL T g.length).length cch,cuv] 123),(901,.row 3 1 y (ofl++[(dn:Int)]).length ((ofl++[(dn:Int)]).map zb))]) [(0,some (900,0)),(65,some (900,0)),(66,some (900,0)),(67,some (900,0)),(74,some (900,0))] tc53 O iA j1 (fun w hI=>yX O O (yh dn ofl tO b gb ofv _ _ cuv w (hI.held O O O))) ?_));rintro _ ov2 rfl;refine Vs 2 O (zs3 904 (e':=NodP bn ((ndc.set (i*3+1) u).set (i*3+2) (.int .i64 (ofl.length:Nat))) 59) O (NodP.loc) (fun _ h=>h) (fun w hI=>zsI ts3 (show Blk w bn _ _ from hI.at 904 O) O O O tO JW) (Vs 8 O (zqh O (fun w hI=>R.load tg3 O (v:=.int .i64 (ofl.length:Nat)) (zsH (show Blk w bn _ _ from hI.at 904 O) (zuJ JW) tO)) ?_)));refine zrM [900,902,903] (Hn:=fun y:Nat × Nat × Value=>[(900,.own b [.pointer (some ⟨gb,0,none⟩),ov2,.slice (some ⟨bn,0,none⟩) g.length cn,.slice ach (chL T g.length).length cch,cuv] 123),(902,.row 27 1 cuv (rv'.set dn y.2.2).length (rv'.set dn y.2.2)),(903,RowsP zb 3 (rv'.set dn y.2.2) (rows1.set dn (rr++[((ofl.length:Nat):Int)]))),(905,.own y.1 [.pointer (some ⟨b,0,none⟩)] 121),(906,.own y.2.1 [.int .i64 dn] 3)]) [(0,some (900,0)),(65,some (900,0)),(66,some (900,0)),(67,some (900,0)),(74,some (900,0)),(79,some (900,0))] call102 O iA j1 (fun w hI=>yX O O (zcS dn (ofl.length:Nat) rows1 rv' rr dz (eC _ (by rw[zdM (ztf _)];omega) rr (dH ▸ zsR dz)) tO b gb ov2 _ _ cuv w (hI.held O O O))) ?_;rintro _ ⟨bx,by',u3⟩ rfl;refine V.defer O (zs6 950 905 (e':=CloQ b cls bx) [(0,some (900,0))] O O O (fun w hI=>⟨hI.at 950 rfl,hI.at 905 rfl⟩) CloQ.loc (fun _ h=>h) (fun q hq=>hq) ?_)
   refine zs6 950 906 (e':=CloP b ((bx,by',dn)::cls)) [(0,some (900,0))] O O O (fun w hI=>CloOk.cons (c:=(bx,by',dn)) (hI.at 950 O).1 (hI.at 950 O).2 (hI.at 906 O)) CloP.loc (fun _ h=>h) (fun q hq=>by
    obtain⟨c,hc,h⟩:=hq;rcases zt6.1 hc with rfl | hc
    . exact h.imp (fun h=>.inr h) (fun h=>h)
    .
     exact .inl (.inl ⟨c,hc,h⟩)) ?_
   have dT:zdN f g T of1 (pw i) i=za8 (pw i) (pw i).length++[(dn,((ofl.length:Nat):Int))]:=by
    unfold zdN;rw[zt1 hd,fH,eL];rfl
   refine zrl 903 O (e':=RowsP zb 3 (rv'.set dn u3) (yS rows (zdN f g T of1 (pw i) i))) (by rw[dT,jR,dH];unfold jt;rw[dz];rfl) (zrl 904 O (e':=NodP bn ((ndc.set (i*3+1) u).set (i*3+2) (.int .i64 (dfW f g T of1 i))) 59) (by rw[fH]) (Vs 1 O (zsw ⟨ov2,ofl++[(dn:Int)],rv'.set dn u3,(bx,by',dn)::cls⟩ rfl j2 j3 ⟨by rw[zt1 hd,eL],by rw[zuU];exact dw,by rw[dT,zuV,zvs,<- dm];rfl⟩ 0 O O)))
  have dT:zdN f g T of1 (pw i) i=za8 (pw i) (pw i).length:=by
   unfold zdN;rw[zt0 hd,zu3]
  have eM:(ndc.set (i*3+1) u)[i*3+2]?=some (.int .i64 (dfW f g T of1 i)):=by
   rw[zuI tO,f4,znR hd];unfold dsK;rw[fB];rfl
  refine zrl 903 O (e':=RowsP zb 3 rv' (yS rows (zdN f g T of1 (pw i) i))) (by rw[dT,dH]) (zrl 904 O (e':=NodP bn ((ndc.set (i*3+1) u).set (i*3+2) (.int .i64 (dfW f g T of1 i))) 59) (by rw[set_same eM]) (Vs 1 O (zsw ⟨ofv,ofl,rv',cls⟩ rfl j2 j3 ⟨by rw[zt0 hd],dw,by rw[dT,<- dm]⟩ 0 O O)))
 rintro⟨ov,ol,rv2,cls2⟩ ⟨eN,gx,dU⟩
 have dB:∀ (u:Nat) r,(yS rows (zdN f g T of1 (pw i) i))[u]?=some r->r ≠ []/\zas r=some (zca f g T of1 (phW pw) i u):=by
  unfold zdN;by_cases hd:0<=yr f g i
  .
   obtain⟨_,dS,_⟩:=hw.df.dfn i hi hd;have fG:=(zt4.1 dS).1;rw[zt1 hd,jR,dH];exact TopW.out dl (by show yr f g i=((yr f g i).toNat:Int);omega) (by show (yr f g i).toNat<_;omega)
  rw[zt0 hd,zu3,dH];exact TopW.same dl tO
 generalize ej:yS rows (zdN f g T of1 (pw i) i)=rows2 at *;have gy:rows2.length=rows.length:=by rw[<- ej,qR]
 refine zrg 960 1 O O (fun h=>hY _ h f5) f7 (Vs 8 O (zqO 89 960 0 O O (Vs 4 O (zrh 3000 1 i tO ez O O O iZ (fun x mm mn mp eO eP eQ gz eR=>?_)))));obtain rfl:=eR;refine zqQ 3000 tR34 ts65 O eQ tO _ rfl O ?_;have fI:=yg eO;refine Vs 1 O (zr4 call76 O (fun w hI=>zgA x w) ?_);rintro r3 w3 w4 mq gA eS dV;obtain⟨asu,csu,rfl⟩:=eS.form;have gB:=eS.max;refine Vs 5 O (zrm (σ:=Nat × List (List Int)) [0,1,96,97] [900,901,902,903,904,907,950,960] [0] O (fun e ⟨t,al⟩=>(98,.int .i64 t)::e) (fun e ⟨t,al⟩=>(909,RowsP zb 3 has al)::e) (fun⟨t,al⟩=>t<=(jF x).length/\AlP f g T of1 pw k (fun j _=>(j:Int) ∈ (jF x).take t) al) (fun⟨t,al⟩=>(jF x).length - t) (0,als) j2 j3 j1 j1 j1 ⟨zt5 _,(AlP.start dh).imp (fun j q=>tZ)⟩ ?_);rintro⟨t,al⟩ ⟨mr,fJ⟩;refine Vs 6 O (zoC O (fun lt=>?_) (fun lt=>?_))
 .
  refine Vs 6 O (zrh 4000 0 t tO eS O O O (fun b_ d_ h_=>by have dc:=dV _ h_;first | omega | exact dc d_) (fun y mt mu mv eT dW eU gC eV=>?_));obtain rfl:=eV;refine zqQ 4000 tR27 ts3 O eU tO _ rfl O ?_;obtain⟨mw,gD⟩:=mem_succ.1 dW;have my:=hw.pr.to x eP y dW;obtain⟨yn,rfl⟩:∃ yn:Nat,y=(yn:Int):=⟨y.toNat,tO⟩;have dI:yn<g.length:=tO;have fK:i ∈ zF g yn:=pred_mem.2 ⟨hi,by rw[fI];exact gD⟩;have ek:=hP yn dI;obtain⟨apy,cpy,gE⟩:=ek.form;have gF:=ek.max
  have fL:((ndc.set (i*3+1) u).set (i*3+2) (.int .i64 (dfW f g T of1 i)))[yn*3]?=some (dJ yn):=by
   rw[zuI tO,zuI tO];exact dh.n0 yn dI
  rw[gE]at ek fL;refine Vs 12 O (zqh O (fun w hI=>zpf tR28 ts59 O O O tO) (Vs 1 O (zqh O (fun w hI=>R.load tg56 O (v:=.slice apy (pw yn).length cpy) (zsH (show Blk w bn _ _ from hI.at 904 O) fL tO)) (Vs 5 O (zrm (σ:=Nat × List (List Int)) [0,1,96,97,98,110,111] [900,901,902,903,904,907,950,960] [0] O (fun e ⟨q,al2⟩=>(112,.int .i64 q)::e) (fun e ⟨q,al2⟩=>(909,RowsP zb 3 has al2)::e) (fun⟨q,al2⟩=>q<=(pw yn).length/\AlP f g T of1 pw k (fun j q'=>(j:Int) ∈ (jF x).take t\/(j=yn/\q'<q)) al2) (fun⟨q,al2⟩=>(pw yn).length - q) (0,al) j2 j3 j1 j1 j1 ⟨zt5 _,fJ.imp (fun j q'=>tZ)⟩ ?_)))));rintro⟨q,al2⟩ ⟨hq,dX⟩;refine Vs 6 O (zoC O (fun lq=>?_) (fun lq=>?_))
  .
   refine Vs 6 O (zrh 5000 2 q tO ek O O O iZ (fun p gh gl gq dr dx dD eD dE=>?_));obtain⟨eE,rfl,dy⟩:=dE;obtain⟨dN,dO,rfl⟩:=dy.form;refine zqQ 5000 tR56 ts88 O dD tO _ rfl O ?_;obtain⟨row,dY,eW,eX,fM⟩:=dX.step hw.dis eh dM dI fK dr;have dF:=fU yn dI q p dr;obtain⟨fD,fE⟩:=hw.var yn dI p dx;obtain⟨vn,dG⟩:∃ vn:Nat,p.1.var=(vn:Int):=⟨p.1.var.toNat,tO⟩;obtain⟨rr,dz⟩:∃ r,rows2[vn]?=some r:=iC;obtain⟨_,eK⟩:=dB vn rr dz;have dZ:=hw.frm yn dI p dx;have eY:(i:Int) ∈ p.1.frm:=by rw[dZ];exact zv8.2 ⟨i,fK,rfl⟩
   have eZ:p.1.frm.idxOf (i:Int)=(zF g yn).idxOf i:=by rw[dZ];exact zlL
   refine zqI (p:=∃ ao ch,Value.slice (da p.2).1 (da p.2).2.1 (da p.2).2.2=.slice ao row.length ch/\(0<row.length->∃ ga,ao=some ⟨ga,0,none⟩)) (fun w hI=>za3 (show RowsOk _ _ _ _ _ from hI.at 909 O) dF dY) (fun d5=>?_);obtain⟨ao,ch,fN,gG⟩:=d5;obtain⟨ga,rfl⟩:=gG tO;rw[fN]at dF
   have mz:row.length<=10000:=by
    rw[eW];unfold zF;exact zsW (zuR _ _) (by rw[zuS];omega)
   rw[dG]at fM;refine Vs 1 O (V.alloc 13 tz88 O O (fun b13=>?_));refine Vs 3 O (zrl 13 O (e':=.own b13 [.int .i64 (vn:Int),.int .i64 p.1.ver,.slice dN p.1.frm.length dO,.slice (some ⟨ga,0,none⟩) row.length ch] 88) (by rw[<- dG,<- fN]) (Vw [900,960,5000,13] [11] O (Vd [0,1,2,3,4,6,7,8] 0 tK O O O (zr3 5 0 call91 O tK O O (fun w hI=>(by have h_:=zcK p.1.frm i _ _ w (dy.keep zc hI.k2 fun q hd _ h=>hY q h hd) eY;rw[eZ]at h_;exact h_)) (zr3 9 0 call103 O tK O O (fun w hI=>zf4 vn rows2 rr (zca f g T of1 (phW pw) i vn) dz eK b gb _ _ _ _ (fun _=>True) w (Blk.cells (hI.at 900 O)) (zgR tO (hI.at 902 O) (hI.at 903 O))) ?_)))));refine zrw 10 O tK O (fun w=>zpf tR27 ts3 O O O tO) (zs4 11 909 0 (e':=RowsP zb 3 has (al2.set p.2 (row.set ((zF g yn).idxOf i) (zca f g T of1 (phW pw) i vn)))) O tK O O RowsP.loc (fun _ h=>h) (fun w hI=>zs9 ts3 (hI.at 909 O) dF dY eX O O O) (VD.done tK (Vs 2 O ?_)))
   have gH:∀ j q':Nat,(((j:Int) ∈ (jF x).take t\/(j=yn/\q'<q))\/(j=yn/\q'=q)) ↔ ((j:Int) ∈ (jF x).take t\/(j=yn/\q'<q+1)):=fun j q'=>by
    constructor
    .
     rintro ((h | ⟨h1,h2⟩) | ⟨h1,h2⟩)
     . exact .inl h
     . exact .inr ⟨h1,tO⟩
     exact .inr ⟨h1,tO⟩
    rintro (h | ⟨h1,h2⟩)
    . exact .inl (.inl h)
    rcases zvR q' q with h3 | h3
    . exact .inl (.inr ⟨h1,h3⟩)
    exact .inr ⟨h1,tO⟩
   refine Va 4 O tO (V.back ⟨q+1,al2.set p.2 (row.set ((zF g yn).idxOf i) (zca f g T of1 (phW pw) i vn))⟩ j2 j3 ⟨tO,fM.imp gH⟩ tR 0 O O)
  obtain rfl:q=(pw yn).length:=tO
  have gI:∀ j q':Nat,q'<(pw j).length->(((j:Int) ∈ (jF x).take t\/(j=yn/\q'<(pw yn).length)) ↔ (j:Int) ∈ (jF x).take (t+1)):=fun j q' gJ=>by
   rw[ze eT,zt9,zt8];constructor
   .
    rintro (h | ⟨rfl,_⟩)
    . exact .inl h
    exact .inr O
   rintro (h | h)
   . exact .inl h
   obtain rfl:j=yn:=tO;exact .inr ⟨rfl,gJ⟩
  refine Va 10 O tO (V.back ⟨t+1,al2⟩ j2 j3 ⟨tO,dX.imp2 gI⟩ tR 0 O O)
 obtain rfl:t=(jF x).length:=tO
 have d6:=dh.next_of eh dM hi (u:=u) (fJ.done dM (fun j q hj hm hq=>by
  rw[zsV];obtain⟨h1,h2⟩:=pred_mem.1 hm;rw[fI]at h2
  exact mem_succ.2 ⟨tO,h2⟩))
 rw[<- eN]at d6;refine Vs 12 O (zrh 6000 2 i tO ef O O O iZ (fun cs gK gL gM d7 fO d8 fP d9=>?_));obtain⟨fQ,rfl,dt⟩:=d9;obtain⟨fR,fS,rfl⟩:=dt.form;refine zqQ 6000 tR89 ts27 O d8 tO _ rfl O ?_;have eb:cs=(chT T i).map fun c:Nat=>(c:Int):=Option.some.inj (d7.symm.trans (zn7 hi));have fb:cs.length=(chT T i).length:=by rw[eb,zta]
 have gN:=dt.max;refine Vs 6 O (zrm (σ:=Nat × Value × List Int × List Value × List Value × List Value × List (List Value) × List (List Int)) [0,135,136] [950,960] [0] O (fun e ⟨s,ov3,ol3,rv3,nd3,du,uc3,al3⟩=>(137,.int .i64 s)::e) (fun e ⟨s,ov3,ol3,rv3,nd3,du,uc3,al3⟩=>(900,.own b [.pointer (some ⟨gb,0,none⟩),ov3,.slice (some ⟨bn,0,none⟩) g.length cn,.slice ach (chL T g.length).length cch,cuv] 123)::(901,.row 3 1 ov3 ol3.length (ol3.map zb))::(902,.row 27 1 cuv rv3.length rv3)::(903,RowsP zb 3 rv3 rows2)::(904,NodP bn nd3 59)::(907,RowsCP 2 85 du uc3)::(909,RowsP zb 3 has al3)::e) (fun⟨s,ov3,ol3,rv3,nd3,du,uc3,al3⟩=>s<=cs.length/\rv3.length=rows2.length/\StW f g T of1 pw dJ (k+1+(((chT T i).take s).flatMap (zfn T m)).length) ol3 nd3 du uc3 al3) (fun⟨s,ov3,ol3,rv3,nd3,du,uc3,al3⟩=>cs.length - s) (0,ov,ol,rv2,_,_,_,al) j2 j3 j1 j1 j1 ⟨zt5 _,tO,d6⟩ ?_);rintro⟨s,ov3,ol3,rv3,nd3,du,uc3,al3⟩ ⟨hs,fe,ec⟩;refine Vs 6 O (zoC O (fun ls=>?_) (fun ls=>?_))
 .
  refine Vs 6 O (zrh 7000 2 s tO dt O O O iZ (fun c mA mB mC ed gO fg gP fm=>?_));obtain rfl:=fm;refine zqQ 7000 tR27 ts3 O fg tO _ rfl O ?_
  obtain⟨cn',fp,rfl⟩:∃ cn':Nat,(chT T i)[s]?=some cn'/\(cn':Int)=c:=by
   rw[eb,zt7]at ed;exact zw4.1 ed
  have fq:=zsR fp
  have gQ:cn'<g.length:=by
   have:=(chT_mem.1 fq).1;rw[hw.ht.sol.len]at this;exact this
  refine Vs 7 O (zrM [900,901,902,903,904,907,909] (Hn:=fun y:Value × List Int × List Value × List Value × List Value × List (List Value) × List (List Int)=>[(900,.own b [.pointer (some ⟨gb,0,none⟩),y.1,.slice (some ⟨bn,0,none⟩) g.length cn,.slice ach (chL T g.length).length cch,cuv] 123),(901,.row 3 1 y.1 y.2.1.length (y.2.1.map zb)),(902,.row 27 1 cuv y.2.2.1.length y.2.2.1),(903,RowsP zb 3 y.2.2.1 rows2),(904,NodP bn y.2.2.2.1 59),(907,RowsCP 2 85 y.2.2.2.2.1 y.2.2.2.2.2.1),(909,RowsP zb 3 has y.2.2.2.2.2.2)]) [(0,some (900,0)),(139,some (7000,0)),(141,some (900,0))] call55 O iA j1 (fun w hI=>yX O O (ih _ cn' ov3 ol3 rv3 rows2 nd3 du uc3 al3 w (dK.child fp) (dg.child hw.ht fq) gQ ec (TopW.child hw.ht fq dB) tO fe (fun r hr=>zjQ (zdN f g T of1 (pw i) i) rows (fun r hr=>by have:=fy r hr;have:=zgQ f g T of1 (pw i) i;omega) r (by rw[ej];exact hr)) (hG.keep hI.k2 fun q hd _ h=>hY q h hd) (fun j hj=>(hP j hj).keep (zjL da) hI.k2 fun q hd _ h=>hY q h hd) (ef.keep (zO zc) hI.k2 fun q hd _ h=>hY q h hd) (hI.held O O O) (fun q hd=>by have:=hD q hd;have h3:W.heap.size<=w.heap.size:=(hI.k2).size;omega) (hI.offE 2 O O hD hY))) ?_);rintro _ ⟨ov4,ol4,rv4,nd4,gR,uc4,al4⟩ ⟨rfl,ft,fu⟩;refine Va 7 O tO (V.back ⟨s+1,ov4,ol4,rv4,nd4,gR,uc4,al4⟩ j2 j3 ⟨tO,ft,by rw[ze fp,zus,zsY];simp only[zut,List.flatMap_nil,zu3];rw[<- zvG];exact fu⟩ tR 0 O O)
 obtain rfl:s=cs.length:=tO
 have dm:(((chT T i).take cs.length).flatMap (zfn T m)).length+1=(zfn T (m+1) i).length:=by
  rw[fb,zsV];show _=(i::(chT T i).flatMap (zfn T m)).length;rw[ztj]
 refine Vs 4 O (zsx fun w hI tmps=>?_);have gS:GBack (zjM b gb bn cn g.length ofv (.slice ach (chL T g.length).length cch) cuv ofl rv rows ndc db ucs has als) ([(900,.own b (rnm gb ov3 (.slice (some ⟨bn,0,none⟩) g.length cn) (.slice ach (chL T g.length).length cch) cuv) 123),(902,.row 27 1 cuv rv3.length rv3),(903,RowsP zb 3 rv3 rows2)]++[(901,.row 3 1 ov3 ol3.length (ol3.map zb)),(904,NodP bn nd3 59),(907,RowsCP 2 85 du uc3),(909,RowsP zb 3 has al3)]) W w:=hI.back 2 rfl rfl rfl rfl;have em:Held ((950,CloP b cls2)::zhK b gb ov3 (.slice (some ⟨bn,0,none⟩) g.length cn) (.slice ach (chL T g.length).length cch) cuv rv3 rows2) w:=hI.held rfl rfl rfl;have ee:CloOk b w cls2:=(em.1 _ (zsU ..)).1;refine zlH (fn:=Tryz.f55) O b gb ov3 (.slice (some ⟨bn,0,none⟩) g.length cn) (.slice ach (chL T g.length).length cch) cuv rows (zdN f g T of1 (pw i) i) (fun p hp=>?_) (fun q r hr=>eC _ (by have:=zgQ f g T of1 (pw i) i;have:=List.length_take_le q (zdN f g T of1 (pw i) i);rw[ztk];omega) r hr) w (fun q=>HS (zhK b gb ov3 (.slice (some ⟨bn,0,none⟩) g.length cn) (.slice ach (chL T g.length).length cch) cuv rv3 rows2) q\/w.heap.size<=q) (fun q hq=>.inr hq) (fun rv5 w5 fw gT gU gV=>?_) (zdN f g T of1 (pw i) i).length cls2 rv3 w (ztf _) (by rw[zsV];exact dU) tO (by rw[zsV,ej];exact⟨fun x hx=>em.1 x (zsT _ hx),(zvj.1 em.2).2⟩) ee (fun c hc=>?_) iv (by rw[zsV,ej];exact fun x hx=>.inl hx)
 .
  unfold zdN at hp;rcases zt9.1 hp with hp | hp
  .
   unfold za8 at hp;rw[zsV]at hp;obtain⟨p',gW,rfl⟩:=zv8.1 hp;have:=dC p' gW;show p'.1.var.toNat<_;omega
  split at hp
  .
   rename_i hd;obtain⟨_,dS,_⟩:=hw.df.dfn i hi hd;have fG:=(zt4.1 dS).1;rw[zt8]at hp;subst hp;show (yr f g i).toNat<_;omega
  cases hp
 .
  refine⟨.tuple #[],rfl,(ov3,ol3,rv5,nd3,du,uc3,al3),⟨rfl,fw,?_⟩,(gS.join ⟨gU.mono fun q hq h=>h.resolve_right tO,gT,fun x hx q hq=>gV q ⟨x,hx,hq⟩⟩).perm zon⟩;rw[<- dm,zvH _ 1,<- zvG];exact ec
 have hb:=ee c hc;have fT:=(zvj.1 em.2).1;refine⟨?_,?_⟩
 .
  rintro (⟨x,hx,hq⟩ | hq)
  . exact fT x hx _ ⟨c,hc,.inl rfl⟩ hq
  have:=hb.1.lt;omega
 rintro (⟨x,hx,hq⟩ | hq)
 . exact fT x hx _ ⟨c,hc,.inr rfl⟩ hq
 have:=hb.2.lt;omega
open Go.GL
inductive Pth (G:List Nd):Nat->Nat->Prop
 | refl (i:Nat):Pth G i i
 | step {i j k:Nat} {x:Nd}:G[i]?=some x->((j:Int)=x.next\/(j:Int)=x.other)->Pth G j k->Pth G i k
theorem Pth.trans {G:List Nd} (h:Pth G i j) (h':Pth G j k):Pth G i k:=by
 induction h with
 | refl=>exact h'
 | step hx he _ ih=>exact .step hx he (ih h')
theorem Pth.one {G:List Nd} (hx:G[i]?=some x) (h:(j:Int)=x.next\/(j:Int)=x.other):Pth G i j:=.step hx h (.refl _)
structure LayP (G:List Nd) (n W e:Nat):Prop where
 fr:∀ j,j<W->Pth G n (n+j)
 to:∀ j,j<W->Pth G (n+j) e
 bk:∀ (j:Nat) x,j<W->G[n+j]?=some x->∀ t:Nat,(t:Int)=x.next\/(t:Int)=x.other->t<=n+j->t=e\/∃ y,G[t]?=some y/\y.kind=5
theorem LayP.append {G:List Nd} {n W1 W2 e e':Nat} (h1:LayP G n W1 e') (h2:LayP G (n+W1) W2 e) (hw:1<=W1) (he:e'=n+W1/\1<=W2\/e'=e/\W2=0):LayP G n (W1+W2) e:=by
 have da:∀ j,j<W1->Pth G (n+j) e:=fun j hj=>by
  rcases he with⟨he,h⟩ | ⟨he,_⟩
  . exact(h1.to j hj).trans (he ▸ h2.to 0 h)
  exact he ▸ h1.to j hj
 refine⟨fun j hj=>?_,fun j hj=>?_,fun j x hj hx t ht hY=>?_⟩
 .
  by_cases h:j<W1
  . exact h1.fr j h
  have h3:=h1.to 0 tO;rcases he with⟨he,_⟩ | ⟨_,h4⟩
  .
   have h5:=h2.fr (j - W1) tO;rw[show n+W1+(j - W1)=n+j by omega]at h5;exact h3.trans (he ▸ h5)
  omega
 .
  by_cases h:j<W1
  . grind
  have h5:=h2.to (j - W1) tO
  grind
 by_cases h:j<W1
 .
  rcases h1.bk j x h hx t ht hY with h3 | h3
  . omega
  grind
 have e1:n+j=n+W1+(j - W1):=tO;rw[e1]at hx hY;exact h2.bk (j - W1) x tO hx t ht hY
theorem znd (l:List St):plainL l=true->∀ (a n e:Nat) (G:List Nd),CtxG G n (layL l a n e)->LayP G n (widL l) e:=by
 induction l using zqD with
 | h l ih =>
 intro hp
 have key:∀ r:List St,(∀ x ∈ r,x ∈ l)->∀ (a n e:Nat) (G:List Nd),CtxG G n (layL r a n e)->LayP G n (widL r) e:=by
  intro r;induction r with
  | nil=>intro _ a n e G _;exact⟨fun j hj=>by simp[widL]at hj,fun j hj=>by simp[widL]at hj,fun j x hj=>by simp[widL]at hj⟩
  | cons s r ihr =>
   intro hm a n e G hG;have hs:=yM hp s (hm s (zsU ..));have dh:=hs;rw[s.plainB_eq,ztz,ztz]at hs;have h1:=(ih s (hm s (zsU ..))).1 hs.1.2;have h2:=(ih s (hm s (zsU ..))).2 hs.2;have hw:=s.wid_eq;rw[layL]at hG;rw[widL]
   have da:(s.lay a n (if r.isEmpty then e else n+s.wid)).length=s.wid:=by
    have h1:=zA [s] (by rw[plainL,dh];rfl) a n (if r.isEmpty then e else n+s.wid);simpa[layL,widL] using h1
   have hR:=ihr (fun y hy=>hm y im) _ (n+s.wid) e G (hG.right tO)
   have dc:(if r.isEmpty then e else n+s.wid)=n+s.wid/\1<=widL r\/(if r.isEmpty then e else n+s.wid)=e/\widL r=0:=by
    cases hre:r.isEmpty
    . exact .inl ⟨tZ,qb hre⟩
    refine .inr ⟨tZ,?_⟩;rw[zuO]at hre;rw[hre];rfl
   replace hG:=hG.left;generalize (if r.isEmpty then e else n+s.wid)=e' at hG dc da;refine LayP.append ?_ hR tO dc;clear dc hR;rw[s.lay_eq]at hG da;split at hG
   .
    rename_i a3;rw[zt0 ix]at hw;have dl:=zA s.thn hs.1.2 (a+1) (n+1) e';have hx:=hG.head;have t1:=h1 _ _ _ G hG.tail.left;have t2:=h2 _ _ _ G (hG.tail.right tO)
    have c1:s.thn.isEmpty=true/\widL s.thn=0\/s.thn.isEmpty=false/\1<=widL s.thn:=by
     cases ht:s.thn.isEmpty
     . exact .inr ⟨rfl,qb ht⟩
     rw[zuO]at ht;rw[ht];exact .inl JI
    have c2:s.els.isEmpty=true/\widL s.els=0\/s.els.isEmpty=false/\1<=widL s.els:=by
     cases ht:s.els.isEmpty
     . exact .inr ⟨rfl,qb ht⟩
     rw[zuO]at ht;rw[ht];exact .inl JI
    have hn:(s.thn.isEmpty=true->Pth G n e')/\(s.thn.isEmpty=false->Pth G n (n+1)):=⟨fun h=>Pth.one hx (.inl tD),fun h=>Pth.one hx (.inl tD)⟩;have ho:(s.els.isEmpty=false->Pth G n (n+1+widL s.thn)):=fun h=>Pth.one hx (.inr tD);refine⟨fun j hj=>?_,fun j hj=>?_,fun j x hj hY t ht db=>?_⟩
    .
     by_cases j0:j=0
     . subst j0;exact .refl _
     by_cases dg:j<=widL s.thn
     .
      have h3:=t1.fr (j - 1) tO;rw[show n+1+(j - 1)=n+j by omega]at h3;exact(hn.2 (c1.resolve_left tO).1).trans h3
     have h3:=t2.fr (j - 1 - widL s.thn) tO;rw[show n+1+widL s.thn+(j - 1 - widL s.thn)=n+j by omega]at h3;exact(ho (c2.resolve_left tO).1).trans h3
    .
     by_cases j0:j=0
     .
      subst j0;rcases c1 with c1 | c1
      . grind
      exact(hn.2 c1.1).trans (t1.to 0 c1.2)
     by_cases dg:j<=widL s.thn
     .
      have h3:=t1.to (j - 1) tO
      grind
     have h3:=t2.to (j - 1 - widL s.thn) tO
     grind
    by_cases j0:j=0
    .
     subst j0;rw[zvL,hx]at hY;cases hY;dsimp only at ht;refine .inl ?_;rcases ht with ht | ht<;>split at ht<;>omega
    by_cases dg:j<=widL s.thn
    .
     have e1:n+j=n+1+(j - 1):=tO;rw[e1]at hY db;exact t1.bk (j - 1) x tO hY t ht db
    have e1:n+j=n+1+widL s.thn+(j - 1 - widL s.thn):=tO;rw[e1]at hY db;exact t2.bk (j - 1 - widL s.thn) x tO hY t ht db
   rename_i a3;split at hG
   .
    rename_i a4;rw[zt1 a4]at hw;rw[zt0 a3,zt1 a4,ztj,ztj,zA _ hs.1.2]at da;have hx:=hG.head;have hy:=hG.tail.head;have t1:=h1 _ _ _ G hG.tail.tail
    have c1:s.thn.isEmpty=true/\widL s.thn=0\/s.thn.isEmpty=false/\1<=widL s.thn:=by
     cases ht:s.thn.isEmpty
     . exact .inr ⟨rfl,qb ht⟩
     grind
    have p1:Pth G n (n+1):=Pth.one hx (.inl rfl);have p2:Pth G (n+1) e':=Pth.one hy (.inr rfl);have p3:s.thn.isEmpty=false->Pth G (n+1) (n+2):=fun h=>Pth.one hy (.inl tD);refine⟨fun j hj=>?_,fun j hj=>?_,fun j x hj hY t ht db=>?_⟩
    .
     match j with
     | 0=>exact .refl _
     | 1=>exact p1
     | j+2 =>
      have h3:=t1.fr j tO;rw[show n+2+j=n+(j+2) by omega]at h3;exact p1.trans ((p3 (c1.resolve_left tO).1).trans h3)
    .
     match j with
     | 0=>exact p1.trans p2
     | 1=>exact p2
     | j+2 =>
      have h3:=t1.to j tO;rw[show n+2+j=n+(j+2) by omega]at h3;exact h3.trans p2
    match j with
    | 0 =>
     rw[zvL,hx]at hY;cases hY;dsimp only at ht;omega
    | 1 =>
     rw[hy]at hY;cases hY;dsimp only at ht;rcases ht with ht | ht
     . grind
     omega
    | j+2 =>
     have e1:n+(j+2)=n+2+j:=tO;rw[e1]at hY db;rcases t1.bk j x tO hY t ht db with h3 | h3
     . grind
     grind
   rename_i a4;rw[zt0 a3,zt0 a4,ztb]at da;have hx:=hG.head;refine⟨fun j hj=>?_,fun j hj=>?_,fun j x hj hY t ht db=>?_⟩
   .
    obtain rfl:j=0:=tO;exact .refl _
   .
    obtain rfl:j=0:=tO;exact Pth.one hx (.inl O)
   grind
 exact key l (fun x h=>h)
theorem Valid.ways (V:Valid f):(∀ i,i<(zd f).length->Pth (zd f) 0 i/\Pth (zd f) i ((zd f).length - 1))/\∀ (i:Nat) x,(zd f)[i]?=some x->∀ t:Nat,(t:Int)=x.next\/(t:Int)=x.other->t<=i->∃ y,(zd f)[t]?=some y/\y.kind=5:=by
 have da:=yw f V.plain;have db:=zA f.body V.plain 0 1 (1+widL f.body)
 have hG:CtxG (zd f) 1 (layL f.body 0 1 (1+widL f.body)):=by
  intro i x hx;have hi:=(zt4.1 hx).1;unfold zd;rw[show 1+i=i+1 by omega,zuA,ztg hi];exact hx
 have hL:=znd f.body V.plain 0 1 (1+widL f.body) (zd f) hG;have h0:(zd f)[0]?=some (⟨0,-1,1,-1⟩:Nd):=rfl
 have hE:(zd f)[1+widL f.body]?=some (⟨1,-1,-1,-1⟩:Nd):=by
  unfold zd;rw[List.getElem?_cons,zt0 tO,zth tO,db,show 1+widL f.body - 1 - widL f.body=0 by omega];rfl
 have p0:Pth (zd f) 0 1:=Pth.one h0 (.inl rfl)
 have pe:Pth (zd f) 1 (1+widL f.body):=by
  by_cases hw:widL f.body=0
  . rw[hw];exact .refl _
  exact hL.to 0 tO
 refine⟨fun i hi=>?_,fun i x hx t ht hY=>?_⟩
 .
  rw[show (zd f).length - 1=1+widL f.body by omega];by_cases i0:i=0
  . subst i0;exact⟨.refl _,p0.trans pe⟩
  by_cases ie:i=1+widL f.body
  . subst ie;exact⟨p0.trans pe,.refl _⟩
  have a1:=hL.fr (i - 1) tO;have a2:=hL.to (i - 1) tO;rw[show 1+(i - 1)=i by omega]at a1 a2;exact⟨p0.trans a1,a2⟩
 have hi:=(zt4.1 hx).1;by_cases i0:i=0
 . grind
 by_cases ie:i=1+widL f.body
 . grind
 rw[show i=1+(i - 1) by omega]at hx hY;rcases hL.bk (i - 1) x tO hx t ht hY with h | h
 . omega
 exact h
structure NdOk (n i:Int) (x:Nd):Prop where
 k0:i=0->x.kind=0
 k1:i=n - 1->x.kind=1
 k2:0<i/\i<n - 1->2<=x.kind/\x.kind<=5
 n0:i=n - 1->x.next=-1
 n1:i<n - 1->1<=x.next/\x.next<=n - 1
 o1:x.kind=3\/x.kind=5->1<=x.other/\x.other<=n - 1
 o0:¬ (x.kind=3\/x.kind=5)->x.other=-1
 a0:i=0\/i=n - 1->x.at_=-1
 a1:0<i/\i<n - 1->0<=x.at_
structure Formed (g:List Nd):Prop where
 lo:2<=g.length
 hi:g.length<=2050
 ok:∀ (j:Nat) x,g[j]?=some x->NdOk g.length j x
theorem zhO {n:Int} (hY:∀ (j:Nat) x,j<i->g[j]?=some x->NdOk n j x) (he:g[i]?=some x) (h:NdOk n i x):∀ (j:Nat) y,j<i+1->g[j]?=some y->NdOk n j y:=by
 grind
theorem zcd (k n:Int) (c:Nat) (w:World) (hB:Blk w c [.int .i64 n] 3) :
  Calls prog 141 #[.int .i64 k,.pointer (some ⟨c,0,none⟩)] w (Ret fun r w'=>r=.bool (decide (1<=k/\k<n))/\Ext w w'):=by
 have hE:=Keep.refl (fun _=>False) w;refine zqr func141 O ntmps141 O (Gs 10 O (G.sp 6 O (fun h1=>?_) (fun h1=>?_)))
 . refine Gs 1 O (zqk O tg3 (hB.cells 0 _ O) (Gs 6 O (zoS results141 O ⟨_,rfl,tD,hE⟩)))
 refine Gs 8 O (zoS results141 O ⟨_,rfl,tD,hE⟩)
theorem zfh (g:List Nd) (gv:Value) (D:Nat->Prop) (W:World) (hg:SlR 4 RNd D W gv g) :
  Calls prog 97 #[.agg #[gv]] W (Ret fun r w'=>(∃ b:Bool,r=.bool b/\(b=true ↔ Formed g))/\Ext W w'):=by
 obtain⟨ag,cg,rfl⟩:=hg.form;have dm:=hg.max;refine zqq func97 O ntmps97 O (V.inn (Vs 2 O (V.box 1 O O (fun b1=>?_))));refine Vs 8 O (V.alloc 3 tz3 O O (fun b3=>?_));refine Vs 9 O (zq9 15 O (fun a1=>?_) (fun a1=>?_))
 . refine Vs 13 O (zoT tr97 O (fun w hI=>⟨_,rfl,⟨_,rfl,⟨fun h=>by (cases h),fun h=>by have:=h.lo;omega⟩⟩,hI.k0⟩))
 refine Vs 5 O (zoC O (fun a2=>?_) (fun a2=>?_))
 . refine Vs 7 O (zoT tr97 O (fun w hI=>⟨_,rfl,⟨_,rfl,⟨fun h=>by (cases h),fun h=>by have:=h.hi;omega⟩⟩,hI.k0⟩))
 refine Vs 18 O (zrm (σ:=Nat) [3,4,21,22] [3] [3] O (fun e i=>(23,.int .i64 i)::e) (fun e i=>e) (fun i=>i<=g.length/\∀ (j:Nat) x,j<i->g[j]?=some x->NdOk g.length j x) (fun i=>g.length - i) 0 j2 j3 j1 j1 j1 ⟨zt5 _,fun j x h=>absurd h (zvW _)⟩ ?_);rintro i ⟨hi,da⟩;refine Vs 6 O (zoC O (fun dh=>?_) (fun dh=>?_))
 .
  refine Vs 7 O (zri 1000 0 i tO hg O O O (fun x dr dt du db dl dc dg=>?_));obtain rfl:=dg;refine zqQ 1000 tR34 ts65 O dc tO _ rfl O ?_;have hY:¬ NdOk g.length i x->(false=true ↔ Formed g):=fun h=>⟨fun h=>by (cases h),fun hF=>absurd (hF.ok i x db) h⟩;refine Vs 1 O (V.alloc 6 tz65 O O (fun b6=>?_));refine Vs 5 O (zrn (σ:=Unit) [3,4,5,6,21,22,23] [3,6] [3,6] O (fun e u=>(7,.bool (decide (x.kind=0\/x.kind=1)))::e) (fun e u=>e) (fun u=>True) j1 j1 ?_ ?_)
  .
   refine Vs 5 O (zq9 31 O (fun k1_=>?_) (fun k1_=>?_))
   . refine Vs 6 O (zoQ () Uu j3 trivial 0 O O)
   refine Vs 6 O (zoQ () Uu j3 trivial 0 O O)
  rintro u _;refine Vs 2 O (zrn (σ:=Unit) [3,4,5,6,7,21,22,23] [3,6] [3,6] O (fun e u=>(8,.bool (decide (x.kind=3\/x.kind=5)))::e) (fun e u=>e) (fun u=>True) j1 j1 ?_ ?_)
  .
   refine Vs 5 O (zq9 39 O (fun k1_=>?_) (fun k1_=>?_))
   . refine Vs 6 O (zoQ () Uu j3 trivial 0 O O)
   refine Vs 6 O (zoQ () Uu j3 trivial 0 O O)
  rintro u _;refine Vs 2 O (zrn (σ:=Unit) [3,4,5,6,7,8,21,22,23] [3,6] [3,6] O (fun e u=>(9,.bool (decide (0<=x.kind/\x.kind<=5)))::e) (fun e u=>e) (fun u=>True) j1 j1 ?_ ?_)
  .
   refine Vs 3 O (zq9 45 O (fun k1_=>?_) (fun k1_=>?_))
   . refine Vs 14 O (zoQ () Uu j3 trivial 0 O O)
   refine Vs 3 O (zq9 48 O (fun k2_=>?_) (fun k2_=>?_))
   . refine Vs 11 O (zoQ () Uu j3 trivial 0 O O)
   refine Vs 5 O (zq9 53 O (fun k3_=>?_) (fun k3_=>?_))
   . refine Vs 6 O (zoQ () Uu j3 trivial 0 O O)
   refine Vs 6 O (zoQ () Uu j3 trivial 0 O O)
  rintro u _;refine Vs 3 O (zrn (σ:=Unit) [3,4,6,7,8,21,22,23] [3,6] [3,6] O (fun e u=>(58,.bool (decide (¬ (0<=x.kind/\x.kind<=5)\/¬ ((i:Int)=0 ↔ x.kind=0)\/¬ ((i:Int)=(g.length:Int) - 1 ↔ x.kind=1))))::e) (fun e u=>e) (fun u=>True) j1 j1 ?_ ?_)
  .
   refine Vs 3 O (zqh O (fun w hI=>zpQ O j6) (Vs 3 O (zoC O (fun k1_=>?_) (fun k1_=>?_))))
   . refine Vs 1 O (zoQ () Uu j3 trivial 0 O O)
   refine Vs 11 O (zoC O (fun k2_=>?_) (fun k2_=>?_))
   . refine Vs 1 O (zoQ () Uu j3 trivial 0 O O)
   refine Va 11 O tO (zoQ () Uu j3 trivial 0 O O)
  rintro u _;refine Vs 1 O (zoC O (fun c1=>?_) (fun c1=>?_))
  . refine Vs 12 O iE
  refine Vs 1 O (zrn (σ:=Unit) [3,4,6,8,21,22,23] [3,6] [3,6] O (fun e u=>(75,.bool (decide (((x.kind=0\/x.kind=1)/\x.at_ ≠ -1)\/(¬ (x.kind=0\/x.kind=1)/\x.at_<0))))::e) (fun e u=>e) (fun u=>True) j1 j1 ?_ ?_)
  .
   refine Vs 4 O (zq9 77 O (fun k1_=>?_) (fun k1_=>?_))
   .
    refine Vs 7 O (zoC O (fun k2_=>?_) (fun k2_=>?_))
    . refine Vs 1 O (zoQ () Un j3 trivial 0 O O)
    refine Vs 2 O (zqh O (fun w hI=>zpQ O j6) (Vs 1 O (zq9 84 O (fun k3_=>?_) (fun k3_=>?_))))
    . refine Vs 6 O (zoQ () Un j3 trivial 0 O O)
    refine Vs 6 O (zoQ () Un j3 trivial 0 O O)
   refine Vs 10 O (zqh O (fun w hI=>zpQ O j6) (Vs 1 O (zq9 84 O (fun k2_=>?_) (fun k2_=>?_))))
   . refine Vs 6 O (zoQ () Un j3 trivial 0 O O)
   refine Vs 6 O (zoQ () Un j3 trivial 0 O O)
  rintro u _;refine Vs 1 O (zoC O (fun c2=>?_) (fun c2=>?_))
  . refine Vs 12 O iE
  refine Vs 1 O (zrn (σ:=Unit) [3,4,6,8,21,22,23] [3,6] [3,6] O (fun e u=>(89,.bool (decide ((x.kind=1/\x.next ≠ -1)\/(x.kind ≠ 1/\¬ (1<=x.next/\x.next<(g.length:Int))))))::e) (fun e u=>e) (fun u=>True) j1 j1 ?_ ?_)
  .
   refine Vs 6 O (zq9 93 O (fun k1_=>?_) (fun k1_=>?_))
   .
    refine Vs 7 O (zoC O (fun k2_=>?_) (fun k2_=>?_))
    . refine Vs 1 O (zoQ () Un j3 trivial 0 O O)
    refine Vs 5 O (zq9 101 O (fun k3_=>?_) (fun k3_=>?_))
    . refine Vs 3 O (zrI call141 O (fun w hI=>zcd x.next g.length b3 w (hI.at 3 O)) YJ)
    refine Vs 8 O (zoQ () Un j3 trivial 0 O O)
   refine Vs 13 O (zq9 101 O (fun k2_=>?_) (fun k2_=>?_))
   . refine Vs 3 O (zrI call141 O (fun w hI=>zcd x.next g.length b3 w (hI.at 3 O)) YJ)
   refine Vs 8 O (zoQ () Un j3 trivial 0 O O)
  rintro u _;refine Vs 1 O (zoC O (fun c3=>?_) (fun c3=>?_))
  . refine Vs 12 O iE
  refine Vs 1 O (zrn (σ:=Unit) [3,4,21,22,23] [3] [3] O (fun e u=>(108,.bool (decide (((x.kind=3\/x.kind=5)/\¬ (1<=x.other/\x.other<(g.length:Int)))\/(¬ (x.kind=3\/x.kind=5)/\x.other ≠ -1))))::e) (fun e u=>e) (fun u=>True) j1 j1 ?_ ?_)
  .
   refine Vs 4 O (zq9 110 O (fun k1_=>?_) (fun k1_=>?_))
   .
    refine Vs 3 O (zrI call141 O (fun w hI=>zcd x.other g.length b3 w (hI.at 3 O)) (zqh O (fun w hI=>zpQ O j6) (Vs 4 O (zoC O (fun k2_=>?_) (fun k2_=>?_)))))
    . refine Vs 1 O (zoQ () Un j3 trivial 0 O O)
    refine Vs 2 O (zqh O (fun w hI=>zpQ O j6) (Vs 1 O (zq9 119 O (fun k3_=>?_) (fun k3_=>?_))))
    . refine Vs 6 O (zoQ () Un j3 trivial 0 O O)
    refine Vs 6 O (zoQ () Un j3 trivial 0 O O)
   refine Vs 12 O (zqh O (fun w hI=>zpQ O j6) (Vs 1 O (zq9 119 O (fun k2_=>?_) (fun k2_=>?_))))
   . refine Vs 6 O (zoQ () Un j3 trivial 0 O O)
   refine Vs 6 O (zoQ () Un j3 trivial 0 O O)
  rintro u _;refine Vs 1 O (zoC O (fun c4=>?_) (fun c4=>?_))
  . refine Vs 12 O iE
  refine Va 8 O tO (V.back (i+1) j2 j3 ⟨tO,zhO da db ⟨tO,tO,tO,tO,tO,tO,tO,tO,tO⟩⟩ tR 0 O O)
 refine Vs 11 O (zoT tr97 O (fun w hI=>⟨_,rfl,⟨_,rfl,⟨fun _=>⟨tO,tO,fun j x hx=>da j x (by have:=(zt4.1 hx).1;omega) hx⟩,fun _=>rfl⟩⟩,hI.k0⟩))
theorem zhP (n:Int) (es:List (Int × Int)) (ev:Value) (D:Nat->Prop) (w:World) (da:SlR 2 xo D w ev es) (hY:es.length<=1048576) (hb:∀ e ∈ es,bd e):Calls prog 143 #[.int .i64 n,ev] w (Ret fun u w'=>(∃ s a c,zaJ es s/\u=.agg #[.int .i64 n,.slice a (List.length s) c]/\SlR 2 xo (fun b=>w.heap.size<=b) w' (.slice a s.length c) s)/\Ext w w'):=by
 refine(zf6 n es ev D w da hY hb).mono fun e w'=>?_;rintro⟨_,rfl,s,v,h1,rfl,h2,h3⟩;obtain⟨a,c,rfl⟩:=h2.form;exact⟨_,rfl,⟨s,a,c,h1,rfl,h2⟩,h3⟩
theorem zfi (n:Int) (es:List (Int × Int)) (ev:Value) (D:Nat->Prop) (W:World) (hY:SlR 2 xo D W ev es) :
  Calls prog 98 #[.agg #[.int .i64 n,ev]] W (Ret fun r w'=>(∃ m a s c,r=.tuple #[.agg #[.int .i64 m,.slice a (List.length s) c],.int .i64 (Gr.check n es)]/\(Gr.check n es ≠ 0->m=0/\a=none/\c=0/\s=[])/\(Gr.check n es=0->m=n/\zaJ es s)/\SlR 2 xo (fun b=>W.heap.size<=b) w' (.slice a s.length c) s)/\Ext W w'):=by
 obtain⟨ae,ce,rfl⟩:=hY.form;refine zqq func98 O ntmps98 O (V.inn (Vs 2 O (V.box 1 O O (fun b1=>?_))));refine V.alloc 2 tz126 O O (fun b2=>(Vs 7 O (zr2 call142 O (fun w hI=>zgh n es _ D w (Tr1 hI.k0 hY)) (Vs 9 O (zoC O (fun c0=>?_) (fun c0=>?_))))))
 . refine Vs 2 O (zrt [Value.int IntKind.i64 0,Value.slice none 0 0] [(0,1),(1,1)] [] O O (fun _=>tK) (Vs 7 O (zp5 results98 tg126 ts126 O O O O (fun w hI=>⟨_,rfl,⟨0,none,[],0,rfl,fun _=>⟨rfl,rfl,rfl,rfl⟩,fun h=>absurd h c0,SlR.nil⟩,hI.k0⟩))))
 have h0:Gr.check n es=0:=tO
 have hb:es.length<=1048576/\∀ e ∈ es,bd e:=by
  unfold Gr.check at h0;split at h0
  . cases h0
  split at h0
  . cases h0
  split at h0
  .
   rename_i h1 h2 h3;refine⟨tO,fun e he=>?_⟩;have:=ztZ.1 h3 e he;unfold Gr.okE at this;simp at this;unfold bd;omega
  cases h0
 refine Vs 8 O (zr4 call143 O (fun w hI=>zhP n es _ D w (Tr1 hI.k0 hY) hb.1 hb.2) ?_);rintro rr w1 w2 da db ⟨s,a,c,hs,rfl,dc⟩ dg;have dh:W.heap.size<=w1.heap.size:=da.k0.size;refine Vs 5 O (V.dat 900 0 O O O (dc) (fun b hb _ hs=>tD) (zp5 results98 tg126 ts126 O O O O (fun w hI=>⟨_,rfl,⟨n,a,s,c,tD,fun h=>absurd h0 h,fun _=>⟨rfl,hs⟩,(hI.at 900 O).1.wide zU (fun b hb=>tO)⟩,hI.k1⟩)))
def zgV (i:Int) (to:Int):List (Int × Int):=if 0<=to then [(i,to)] else []
def xw (g:List Nd) (k:Nat):List (Int × Int):=(List.range k).flatMap fun i:Nat=>zgV i (xb g i).next++zgV i (xb g i).other
theorem zhQ (h:g[k]?=some x):xw g (k+1)=xw g k++(zgV k x.next++zgV k x.other):=by
 unfold xw;rw[zvp,zus,zuw,jj h]
theorem zdP (i to:Int):(zgV i to).length<=1:=by unfold zgV;split<;>simp
theorem zce (g:List Nd):∀ k,(xw g k).length<=2*k
 | 0=>by simp[xw]
 | k+1=>by
  have:=zce g k;have h1:=zdP k (xb g k).next;have h2:=zdP k (xb g k).other;unfold xw at this ⊢;rw[zvp,zus,zuw,zsY,zsY];omega
def inL (g:List Nd) (i:Nat) (x:Nd) (q:Nat):List (Int × Int):=xw g i++(List.range q).flatMap fun j=>zgV i (edk x j)
theorem zne (g:List Nd) (i:Nat) (x:Nd) (q:Nat):(inL g i x q).length<=2*i+q:=by
 have:=zce g i
 have key:∀ q,((List.range q).flatMap fun j=>zgV i (edk x j)).length<=q:=by
  intro q;induction q with
  | zero=>simp
  | succ q ih =>
   have h1:=zdP i (edk x q);rw[zvp,zus,zuw,zsY];omega
 have:=key q;unfold inL;rw[zsY];omega
theorem zlT (g:List Nd) (i:Nat) (x:Nd):inL g i x 0=xw g i:=by simp[inL]
theorem zlU (g:List Nd) (i:Nat) (x:Nd) (q:Nat):inL g i x (q+1)=inL g i x q++zgV i (edk x q):=by
 unfold inL;rw[zvp,zus,zuw,zu2]
theorem znf (h:g[i]?=some x):inL g i x 2=xw g (i+1):=by
 rw[zhQ h];unfold inL;simp[zvp,edk]
theorem zg3 (g:List Nd) (gv:Value) (D:Nat->Prop) (W:World) (hg:SlR 4 RNd D W gv g) :
  Calls prog 51 #[.agg #[gv]] W (Ret fun r w'=>(∃ m a s c e,r=.tuple #[.agg #[.int .i64 m,.slice a (List.length s) c],.int .i64 e]/\(¬ Formed g->e=1/\m=0/\s=[])/\(Formed g->e=Gr.check g.length (xw g g.length)/\(e ≠ 0->m=0/\s=[])/\(e=0->m=g.length/\zaJ (xw g g.length) s))/\SlR 2 xo (fun b=>W.heap.size<=b) w' (.slice a s.length c) s)/\Ext W w'):=by
 obtain⟨ag,cg,rfl⟩:=hg.form;have dz:=hg.max;refine zqq func51 O ntmps51 O (V.inn (Vs 2 O (V.box 1 O O (fun b1=>?_))));refine V.alloc 2 tz126 O O (fun b2=>(Vs 7 O (zr4 call97 O (fun w hI=>zfh g _ D w (Tr1 hI.k0 hg)) ?_)));rintro rr w1 w2 dA dl ⟨b,rfl,hb⟩ dm;refine zqh O (fun w hI=>zpQ O j6) (Vs 2 O (V.bool O (fun q=>?_) (fun q=>?_)))
 .
  have dr:¬ Formed g:=fun h=>by rw[hb.2 h]at q;cases q
  refine Vs 2 O (zrt [Value.int IntKind.i64 0,Value.slice none 0 0] [(0,1),(1,1)] [] O O (fun _=>tK) (Vs 6 O (zp5 results51 tg126 ts126 O O O O (fun w hI=>⟨_,rfl,⟨0,none,[],0,1,rfl,fun _=>⟨rfl,rfl,rfl⟩,fun h=>absurd h dr,SlR.nil⟩,hI.k1⟩))))
 have hF:Formed g:=hb.1 (by simpa using q);have dB:=hF.lo;have dC:=hF.hi;refine Vs 7 O (zrt [Value.int IntKind.i64 0,Value.slice none 0 0] [(0,1),(1,1)] [(0,_)] O O (fun _=>tK) (V.alloc 4 tz126 O O (fun b4=>?_)));refine Vs 5 O (zqU 900 169 2 O (Vs 8 O (zrm (σ:=Nat × Value) [2,4,18,19] [2] [2,4] O (fun e ⟨i,rv⟩=>(20,.int .i64 i)::e) (fun e ⟨i,rv⟩=>(4,.own b4 [.int .i64 g.length,rv] 126)::(900,.row 169 2 rv (xw g i).length ((xw g i).flatMap qT))::e) (fun⟨i,rv⟩=>i<=g.length) (fun⟨i,rv⟩=>g.length - i) (0,_) j2 j3 j1 j1 j1 (zt5 _) ?_)));rintro⟨i,rv⟩ hi;refine Vs 6 O (zoC O (fun dt=>?_) (fun dt=>?_))
 .
  refine Vs 7 O (zri 1000 1 i tO hg O O O (fun x dD dE dF dc du dg dh=>?_));obtain rfl:=dh;refine zqQ 1000 tR34 ts65 O dg tO _ rfl O ?_;have hr:=znf dc;refine zrl 900 O (e':=.row 169 2 rv (inL g i x 0).length ((inL g i x 0).flatMap qT)) (by rw[zlT]) (Vs 1 O (V.alloc 6 tz65 O O (fun b6=>?_)));refine Vs 10 O (V.bs 29 [(0,_),(1,_)] tR27 ts3 tz3 tS O O tK (fun b29=>?_));refine Vs 5 O (zrm (σ:=Nat × Value) [2,4,5,18,19,20,29,30] [2,29] [2,4] O (fun e ⟨q,rv⟩=>(31,.int .i64 q)::e) (fun e ⟨q,rv⟩=>(4,.own b4 [.int .i64 g.length,rv] 126)::(900,.row 169 2 rv (inL g i x q).length ((inL g i x q).flatMap qT))::e) (fun⟨q,rv⟩=>q<=2) (fun⟨q,rv⟩=>2 - q) (0,rv) j2 j3 j1 j1 j1 tO ?_);rintro⟨q,rv⟩ hq;have dG:=zne g i x q;have db:=zlU g i x q;refine Vs 6 O (zoC O (fun dw=>?_) (fun dw=>?_))
  .
   refine Vs 6 O (zqh O (fun w hI=>zpf tR27 ts3 O O O tO) (zqh O (fun w hI=>R.load tg3 O (zmH (hI.at 29 O) tO)) (Vs 9 O (zoC O (fun hz=>?_) (fun hz=>?_)))))
   .
    rw[show zgV i (edk x q)=[((i:Int),edk x q)] from zt1 hz]at db;refine Vs 5 O (zrt [Value.int IntKind.i64 0,Value.int IntKind.i64 0] [(0,1),(1,1)] [(0,_),(1,_)] O O (fun _=>tK) (V.bs 42 [(0,_)] tR124 ts169 tz169 tS O O tK (fun b42=>?_)));refine zqV 900 42 tu124 Tryz.el169 O tS O O tO tO (fun u900=>(Vs 1 O (zqX 900 O tO ?_)));rintro b9 c9 rfl hY;refine Va 8 O tO (zrl 900 O (e':=.row 169 2 (.slice (some ⟨b9,0,none⟩) ((inL g i x q).length+1) c9) (inL g i x (q+1)).length ((inL g i x (q+1)).flatMap qT)) (by rw[db,zsY,zus];rfl) (V.back ⟨q+1,_⟩ j2 j3 tO tR 0 O O))
   rw[show zgV i (edk x q)=[] from zt0 hz,zu3]at db;refine zrl 900 O (e':=.row 169 2 rv (inL g i x (q+1)).length ((inL g i x (q+1)).flatMap qT)) (by rw[db]) (Va 7 O tO (V.back ⟨q+1,rv⟩ j2 j3 tO tR 0 O O))
  obtain rfl:q=2:=tO;refine zrl 900 O (e':=.row 169 2 rv (xw g (i+1)).length ((xw g (i+1)).flatMap qT)) (by rw[hr]) (Va 10 O tO (V.back ⟨i+1,rv⟩ j2 j3 tO tR 0 O O))
 obtain rfl:i=g.length:=tO;refine Vs 8 O (zr4 call98 O (fun w hI=>zfi g.length (xw g g.length) rv (fun _=>True) w (zpJ tO qT yx UR (hI.at 900 O) (fun _ _=>trivial))) ?_);rintro rr w3 w4 dx dy ⟨m,a,s,c,rfl,h1,h2,hs⟩ da;have dH:W.heap.size<=w3.heap.size:=dx.k1.size;refine Vs 7 O (V.dat 901 0 O O O (hs) (fun b hb _ hs=>by have:=da b hs;omega) (zp5 results51 tg126 ts126 O O O O (fun w hI=>⟨_,rfl,⟨m,a,s,c,_,rfl,fun h=>absurd hF h,fun _=>⟨rfl,fun he=>⟨(h1 he).1,(h1 he).2.2.2⟩,h2⟩,(hI.at 901 O).1.wide zU (fun b hb=>tO)⟩,hI.k2⟩)))
theorem Formed.edge (h:Formed g) (hx:g[i]?=some x):∀ to,to=x.next\/to=x.other->0<=to->to<g.length:=by
 have h1:=h.ok i x hx;have hi:=(zt4.1 hx).1;have:=h.lo;intro to ht h0;rcases ht with rfl | rfl
 .
  by_cases e:(i:Int)=g.length - 1
  . have:=h1.n0 e;omega
  have:=h1.n1 tO;omega
 by_cases e:x.kind=3\/x.kind=5
 . have:=h1.o1 e;omega
 have:=h1.o0 e;omega
theorem zgW (hg:∀ (i:Nat) x,g[i]?=some x->∀ to,to=x.next\/to=x.other->0<=to->to<g.length) {e:Int × Int} (h:e ∈ xw g g.length):(0<=e.1/\e.1<g.length)/\0<=e.2/\e.2<g.length:=by
 unfold xw at h;obtain⟨j,hj,he⟩:=zv5.1 h;rw[zvc]at hj;have hx:g[j]?=some g[j]:=zsQ hj;have h1:=hg j _ hx;rw[jj hx]at he;unfold zgV at he;rcases zt9.1 he with he | he<;>(split at he<;>simp at he;subst he;rename_i h0;dsimp only)
 . grind
 grind
theorem zfj (hl:g.length<=2050) (hg:∀ (i:Nat) x,g[i]?=some x->∀ to,to=x.next\/to=x.other->0<=to->to<g.length):Gr.check g.length (xw g g.length)=0:=by
 have:=zce g g.length;unfold Gr.check;rw[zt0 tO,zt0 tO,zt1];rw[ztZ];intro e he;have:=zgW hg he;unfold Gr.okE
 grind
theorem zng (l:List St):∀ (a n e N:Nat),1<=n->1<=e->n+widL l<=N->e<N->∀ x ∈ layL l a n e,(2<=x.kind/\x.kind<=5)/\(1<=x.next/\x.next<N)/\(x.kind=3\/x.kind=5->1<=x.other/\x.other<N)/\(¬ (x.kind=3\/x.kind=5)->x.other=-1)/\0<=x.at_:=by
 induction l using zqD with
 | h l ih =>
 have key:∀ r:List St,(∀ x ∈ r,x ∈ l)->∀ (a n e N:Nat),1<=n->1<=e->n+widL r<=N->e<N->∀ x ∈ layL r a n e,(2<=x.kind/\x.kind<=5)/\(1<=x.next/\x.next<N)/\(x.kind=3\/x.kind=5->1<=x.other/\x.other<N)/\(¬ (x.kind=3\/x.kind=5)->x.other=-1)/\0<=x.at_:=by
  intro r;induction r with
  | nil=>intro _ a n e N _ _ _ _ x hx;simp[layL]at hx
  | cons s r ihr =>
   intro hm a n e N db da hN he x hx;have h1:=(ih s (hm s (zsU ..))).1;have h2:=(ih s (hm s (zsU ..))).2;have hw:=s.wid_eq;simp only[widL]at hN;rw[layL,zt9]at hx;rcases hx with hx | hx
   .
    have hY:1<=(if r.isEmpty then e else n+s.wid)/\(if r.isEmpty then e else n+s.wid)<N:=by
     cases hr:r.isEmpty
     . have:=qb hr;simp;omega
     simp;omega
    generalize (if r.isEmpty then e else n+s.wid)=e' at hx hY;rw[s.lay_eq]at hx;split at hx
    .
     rename_i a3;rw[zt0 ix]at hw;rw[zt6,zt9]at hx;rcases hx with rfl | hx | hx
     .
      dsimp only
      have c1:∀ z:Bool,(z=false->1<=widL s.thn)->1<=(if z then (e':Int) else (n+1:Nat))/\(if z then (e':Int) else (n+1:Nat))<N:=by
       intro z hz;cases z
       . have:=hz rfl;simp;omega
       simp;omega
      have c2:∀ z:Bool,(z=false->1<=widL s.els)->1<=(if z then (e':Int) else (n+1+widL s.thn:Nat))/\(if z then (e':Int) else (n+1+widL s.thn:Nat))<N:=by
       intro z hz;cases z
       . have:=hz rfl;simp;omega
       simp;omega
      exact⟨tO,c1 _ qb,fun _=>c2 _ qb,fun h=>absurd (.inl O) h,tO⟩
     . exact h1 _ _ _ N tO tO tO hY.2 x hx
     exact h2 _ _ _ N tO tO tO hY.2 x hx
    split at hx
    .
     rename_i a4;rw[zt1 a4]at hw;rw[zt6,zt6]at hx;rcases hx with rfl | rfl | hx
     .
      dsimp only;exact⟨tO,tO,fun h=>tO,fun _=>rfl,tO⟩
     .
      dsimp only;refine⟨tO,?_,fun _=>tO,fun h=>absurd (.inr O) h,tO⟩;cases hr:s.thn.isEmpty
      . have:=qb hr;simp;omega
      simp;omega
     exact h1 _ _ _ N tO tO tO tO x hx
    rw[zt8]at hx;subst hx;dsimp only;exact⟨tO,tO,fun h=>tO,fun _=>rfl,tO⟩
   exact ihr (fun y hy=>hm y im) _ _ _ N tO da tO he x hx
 exact key l (fun x h=>h)
theorem zcW (V:Valid f):Formed (zd f):=by
 have hY:=yw f V.plain;have da:=zA f.body V.plain 0 1 (1+widL f.body);have db:=V.ssize;have dc:=xi f.body;refine⟨tO,tO,fun j x hx=>?_⟩;have hj:=(zt4.1 hx).1;unfold zd at hx;rw[List.getElem?_cons]at hx;split at hx
 .
  rename_i j0;cases hx;exact⟨fun _=>rfl,fun h=>tO,fun h=>tO,fun h=>tO,fun _=>tD,fun h=>tD,fun _=>rfl,fun _=>rfl,fun h=>tO⟩
 rename_i j0;by_cases hl:j - 1<widL f.body
 .
  rw[ztg tO]at hx;obtain⟨h1,h2,h3,h4,h5⟩:=zng f.body 0 1 (1+widL f.body) (zd f).length tO tO tO tO x (zsR hx);exact⟨fun h=>tO,fun h=>tO,fun _=>h1,fun h=>tO,fun _=>tO,fun h=>tO,h4,fun h=>tO,fun _=>h5⟩
 rw[zth tO,da,show j - 1 - widL f.body=0 by omega]at hx;cases hx;exact⟨fun h=>tO,fun _=>rfl,fun h=>tO,fun _=>rfl,fun h=>tO,fun h=>tD,fun _=>rfl,fun _=>rfl,fun h=>tO⟩
theorem zgX (hx:g[a]?=some x) (h:(b:Int)=x.next\/(b:Int)=x.other):((a:Int),(b:Int)) ∈ xw g g.length:=by
 unfold xw;refine zv5.2 ⟨a,zvc.2 (zt4.1 hx).1,?_⟩;rw[jj hx,zt9];unfold zgV;rcases h with h | h
 . grind
 grind
theorem zjY {e:Int × Int} (h:e ∈ xw g g.length):∃ (a b:Nat) (x:Nd),e=((a:Int),(b:Int))/\g[a]?=some x/\((b:Int)=x.next\/(b:Int)=x.other):=by
 unfold xw at h;obtain⟨j,hj,he⟩:=zv5.1 h;rw[zvc]at hj;have hx:g[j]?=some g[j]:=zsQ hj;rw[jj hx]at he;unfold zgV at he;rcases zt9.1 he with he | he<;>(split at he<;>simp at he;rename_i h0)
 . exact⟨j,(g[j]).next.toNat,_,tD,hx,.inl (Int.toNat_of_nonneg h0)⟩
 exact⟨j,(g[j]).other.toNat,_,tD,hx,.inr (Int.toNat_of_nonneg h0)⟩
end Go.Proofs.YtckdhgbepmpgiaaGreat
namespace Go.GL
theorem zsP {n:Fm} {pos:Pos} (k:Nat) (hn:(hget H k,qv H k)=(some (.row t kk (.slice (some ⟨b,0,none⟩) m c) m xs),none)) (h:∀ sp:List Value,m<=c/\c<=9223372036854775807->V P n Q ks pos env A (hset H k (NodP b (xs++sp) t)) Bs):V P n Q ks pos env A H Bs:=by
 simp only[Prod.mk.injEq]at hn;intro hA w hI;obtain⟨sp,h1,h2,h3,h4⟩:=xp (show w.ownsRow 0 t kk (.slice (some ⟨b,0,none⟩) m c) m xs from hI.at k hn.1);exact h sp ⟨h2,h3⟩ (hA.res hn.1 hn.2) w (hI.set hn.1 iv h1 NodP.loc (fun _ h=>h) fun q hq=>⟨.inl JE,hI.low _ (zn hn.1) q JE⟩)
theorem VI.offP {E:Hp} (hI:VI Bs H w) (hE:E.map (fun x=>hget H x.1)=E.map (fun x=>some x.2)) (k:Nat) {F:Nat->Prop} {p:World->Prop} (hk:hget H k=some (.dat F p)):∀ q,HS E q->¬ F q:=by
 rintro q ⟨x,hx,hq⟩ hf;exact hI.froz _ (zn hk) _ (zn (Has.of hE x hx)) q hf hq
theorem VI.lowE {E:Hp} (hI:VI Bs H w) (hE:E.map (fun x=>hget H x.1)=E.map (fun x=>some x.2)):∀ q,HS E q->q<w.heap.size:=fun q hq=>by
 obtain⟨x,hx,hq⟩:=zfO hE hq;exact hI.low x hx q hq
theorem VI.offS {E:Hp} (hI:VI Bs H w) (hE:(E++E').map (fun x=>hget H x.1)=(E++E').map (fun x=>some x.2)) (hu:qa ((E++E').map (·.1))=true):∀ q,HS E q->¬ HS E' q:=by
 rintro q ⟨x,hx,hq⟩ ⟨y,hy,hY⟩;exact(zvi.1 (hI.pick (Has.of hE) hu).apart).2.2 x hx y hy q hq hY
end Go.GL
namespace Go.Proofs.YtckdhgbepmpgiaaGreat
open Go.GL Go.GL.Dom
theorem GrO.wide {D':Nat->Prop} (h:GrO D w f g b) (hD:∀ q,D q->D' q):GrO D' w f g b:=by
 obtain⟨v1,v2,v3,gv,sv,pv,h0,h1,h2,h3,h4,h5⟩:=h;exact⟨v1,v2,v3,gv,sv,pv,hD b h0,h1,⟨h2.vars.wide yG hD,h2.hatches.wide yH hD,h2.body.wide zf hD⟩,h3.wide zo hD,h4.wide zf hD,h5.wide (zO zc) hD⟩
theorem Valid.local (V:Valid f) {s:St} (hs:s ∈ preL f.body) (ha:s.act=0\/s.act=5):∃ x,f.vars[s.var.toNat]?=some x/\x.kind=0:=by
 obtain⟨last,h⟩:=zeE f.body true (yz V.ok).2.2.2.1 s hs;obtain⟨h1,h2,h3,_,_⟩:=ql h
 have hl:xq f.vars s.var=true:=by
  unfold zG at h3;rcases ha with ha | ha<;>(simp[ha,qL]at h3;simp[h3])
 unfold xq at hl;split at hl
 . grind
 cases hl
theorem zg4 {vs:List Vr} (t:Tm):zx vs false t=true->∀ v ∈ xM t,0<=v/\v<(vs.length:Int):=by
 induction t using zqB with
 | h t ih =>
  intro h v hv;rw[yN,ztz,ztz]at h;rw[kY,zt9]at hv;rcases hv with hv | hv
  .
   split at hv
   .
    rename_i e;rw[zt8]at hv;subst hv;have h1:=h.1.2;unfold zR at h1
    grind
   cases hv
  obtain⟨k,hk,hv⟩:=mentL_mem.1 hv;exact ih k hk (zX h.2 hk) v hv
theorem Valid.defLoc (V:Valid f) (j:Nat) (h:zdr f (xb (zd f) j)=true):∃ x,f.vars[(yj f (xb (zd f) j).at_).var.toNat]?=some x/\x.kind=0:=by
 have hk:(xb (zd f) j).kind=2:=by
  unfold zdr at h
  grind
 have ha:(yj f (xb (zd f) j).at_).act=0\/(yj f (xb (zd f) j).at_).act=5:=by
  unfold zdr at h
  grind
 cases hx:(zd f)[j]? with
 | none =>
  unfold xb at hk;rw[ztc,hx]at hk;cases hk
 | some x =>
  rw[yg hx]at hk ha ⊢;have h0:=V.gOk.at hx (.inl hk);exact V.local (zsR (jP h0.1 h0.2.1)) ha
theorem Valid.defOk (V:Valid f):DefOk f (zd f):=by
 refine⟨fun j hj hd=>?_,fun j=>?_,fun j v hv=>?_⟩
 .
  unfold yr at hd ⊢;by_cases e:zdr f (xb (zd f) j)=true
  . rw[zt1 e];exact V.defLoc j e
  grind
 .
  unfold yr;by_cases e:zdr f (xb (zd f) j)=true
  .
   rw[zt1 e]
   have hk:(xb (zd f) j).kind=2/\((yj f (xb (zd f) j).at_).act=0\/(yj f (xb (zd f) j).at_).act=5):=by
    unfold zdr at e
    grind
   cases hx:(zd f)[j]? with
   | none =>
    have hY:=hk.1;unfold xb at hY;rw[ztc,hx]at hY;cases hY
   | some x =>
    rw[yg hx]at hk ⊢;have h0:=V.gOk.at hx (.inl hk.1);have:=(V.step _ (zsR (jP h0.1 h0.2.1))).1.var hk.2;omega
  grind
 unfold rdV rdN at hv;split at hv
 .
  rename_i hb;have da:=of_decide_eq_true hb;rw[Gr.compactL_mem,kX]at hv;cases hx:(zd f)[j]? with
  | none =>
   have:(xb (zd f) j).kind=1:=by unfold xb;rw[ztc,hx];rfl
   omega
  | some x =>
   rw[yg hx]at hv da;have h0:=V.gOk.at hx tO;exact zg4 _ (V.step _ (zsR (jP h0.1 h0.2.1))).1.formed v hv
 cases hv
theorem Valid.pred0 (V:Valid f):zF (zd f) 0=[]:=by
 apply zuh.2;intro y hy;obtain⟨h1,h2⟩:=pred_mem.1 hy;have hx:=zsQ h1;rw[yg hx]at h2;rcases h2 with h2 | h2
 . have:=(V.away hx).1 _ (.inl rfl);omega
 have:=(V.away hx).1 _ (.inr rfl);omega
theorem zjZ (hs:zaJ (xw g g.length) es) (_:b<g.length):((a:Int),(b:Int)) ∈ es ↔ a ∈ zF g b:=by
 rw[hs.2.1,pred_mem];constructor
 .
  intro h;obtain⟨a',b',x,e,hx,h2⟩:=zjY h;have e1:(a:Int)=(a':Int):=congrArg Prod.fst e;have e2:(b:Int)=(b':Int):=congrArg Prod.snd e;obtain rfl:a=a':=tO;obtain rfl:b=b':=tO;rw[yg hx];exact⟨(zt4.1 hx).1,h2.imp Eq.symm Eq.symm⟩
 rintro⟨ha,h2⟩;have hx:=zsQ ha;rw[yg hx]at h2;exact zgX hx (h2.imp Eq.symm Eq.symm)
theorem zdQ (hg:Formed g) (hs:zaJ (xw g g.length) es) (h:((a:Int),(b:Int)) ∈ es):a<g.length/\b<g.length:=by
 have:=zgW (fun i x hx=>hg.edge hx) ((hs.2.1 _).1 h);omega
theorem Valid.treeG (V:Valid f) (hs:zaJ (xw (zd f) (zd f).length) es) (h:Known (zd f).length 0 es Rw order pl T):TreeG (zd f) Rw order pl T:=by
 have hF:=zcW V;have da:∀ a b:Nat,((a:Int),(b:Int)) ∈ es->a<(zd f).length:=fun a b h=>(zdQ hF hs h).1;have hY:∀ a b:Nat,Dfs.Edge Rw a b ↔ ((a:Int),(b:Int)) ∈ es:=zcc h.succ da;refine⟨fun a b hb=>by rw[hY,zjZ hs hb],fun i hi=>?_,fun i hr=>?_,h.sol,h.ord,h.place⟩
 .
  have hp:=(V.ways.1 i hi).1
  have main:∀ {a b:Nat},Pth (zd f) a b->Dfs.Reach Rw 0 a->Dfs.Reach Rw 0 b:=fun {a b} hp=>by
   induction hp with
   | refl=>exact id
   | @step i j k x hx he _ ih=>exact fun hr=>ih (.step hr ((hY i j).2 ((hs.2.1 _).2 (zgX hx he))))
  exact main hp .refl
 cases hr with
 | refl=>exact h.hroot
 | step _ he=>exact(zdQ hF hs ((hY _ _).1 he)).2
def chK (T:List Int) (n k:Nat):List (List Int):=(List.range n).map fun i:Nat=>((List.range k).filter fun c=>decide (T[c]?=some (i:Int))).map fun c:Nat=>(c:Int)
theorem zdR (T:List Int) (n k:Nat):(chK T n k).length=n:=by unfold chK;rw[zta,zuS]
theorem zlV (T:List Int) (n:Nat):chK T n 0=List.replicate n []:=by
 unfold chK;exact(List.map_const' (l:=List.range n) (b:=([]:List Int))).trans tD
theorem znh (T:List Int) (n:Nat):chK T n T.length=chL T n:=rfl
theorem zdS {n:Nat} (h:i<n):(chK T n k)[i]?=some (((List.range k).filter fun c=>decide (T[c]?=some (i:Int))).map fun c:Nat=>(c:Int)):=by unfold chK;rw[zt7,zuE h];rfl
theorem zgY {n:Nat} {u:Int} (hk:T[k]?=some u):chK T n (k+1)=if 0<=u/\u<n then (chK T n k).set u.toNat ((((List.range k).filter fun c=>decide (T[c]?=some ((u.toNat:Nat):Int))).map fun c:Nat=>(c:Int))++[(k:Int)]) else chK T n k:=by
 apply zul;intro i;by_cases hi:i<n
 .
  have hR:(chK T n (k+1))[i]?=some ((((List.range k).filter fun c=>decide (T[c]?=some (i:Int))).map fun c:Nat=>(c:Int))++if u=(i:Int) then [(k:Int)] else []):=by
   rw[zdS hi,zvp,zum,zuV];congr 2;by_cases e:u=(i:Int)
   . rw[zt1 e,zuo (by rw[hk,e];simp)];rfl
   rw[zt0 e,zun (by rw[hk];simpa using e)];rfl
  rw[hR];by_cases e:u=(i:Int)
  .
   subst e;rw[zt1 rfl,zt1 tO,ztc,zuJ (by rw[zdR];exact hi)]
  rw[zt0 e,zu3];split
  . rw[zuI tO,zdS hi]
  rw[zdS hi]
 rw[zte (by rw[zdR];omega)];split
 . rw[zte (by rw[zuU,zdR];omega)]
 rw[zte (by rw[zdR];omega)]
def ndk:Nat->List Value
 | 0=>[]
 | k+1=>ndk k++[.slice none 0 0,.slice none 0 0,.int .i64 (-1)]
theorem zg5:∀ k,(ndk k).length=k*3
 | 0=>rfl
 | k+1=>by rw[ndk,zsY,zg5 k];simp;omega
theorem zg6 (h:j<k) (sp:List Value):(ndk k++sp)[j*3]?=some (.slice none 0 0)/\(ndk k++sp)[j*3+1]?=some (.slice none 0 0)/\(ndk k++sp)[j*3+2]?=some (.int .i64 (-1)):=by
 induction k generalizing sp with
 | zero=>omega
 | succ k ih =>
  have hl:=zg5 k;rw[ndk,zu2];by_cases e:j<k
  . grind
  obtain rfl:j=k:=tO;refine⟨?_,?_,?_⟩<;>(rw[zth tO,hl])
  . grind
  . grind
  grind
def zgZ (has:List Value) (a:Nat):Option Addr × Nat × Nat:=match has[a]? with
 | some (.slice ao m c)=>(ao,m,c)
 | _=>(none,0,0)
theorem zk0 {rows:List (List α)} (h:RowsOk enc e w has rows) (ha:a<has.length):has[a]?=some (.slice (zgZ has a).1 (zgZ has a).2.1 (zgZ has a).2.2):=by
 have hv:=zsQ ha;have hr:=zsQ (show a<rows.length by rw[<- h.len];exact ha);obtain⟨ao,c,e1,_⟩:=za3 h hv hr;unfold zgZ;rw[hv,e1]
theorem zk1 {al2:List (List Int)} {ep e1 e2:TypeId} (db:PlS g nv E ofl ndc da pcs hY frs has als) (h5:RowsC 4 ep w da pcs) (h6:RowsOk zb e1 w hY frs) (h9:RowsOk zb e2 w has al2) (dl:∀ (i:Nat) v q,da[i]?=some v->v.ownBlock=some q->D q) (dm:∀ (i:Nat) v q,hY[i]?=some v->v.ownBlock=some q->D q) (hj:j<g.length):SlR 4 (RPw (zgZ has)) D w (da[j]?.getD undef) (pwE nv g E j):=by
 obtain⟨u,hu⟩:∃ u,da[j]?=some u:=⟨_,zsQ (by rw[db.hl];exact hj)⟩;obtain⟨m,hm⟩:=h5.row j u _ hu (db.pc j hj);rw[hu]
 have dc:∀ x ∈ pwE nv g E j,(RPw (zgZ has)) D w x (phC hY has x):=fun x hx=>by
  obtain⟨v,a,ha,rfl⟩:=mem_pwE.1 hx;have dh:=(zt4.1 ha).1;have e9:=zk0 h9 (show a<has.length by rw[db.al];exact dh);obtain⟨fh,dg⟩:∃ u,hY[a]?=some u:=⟨_,zsQ (by rw[db.fl];exact dh)⟩;have dr:frs[a]?=some (zg g j):=by rw[db.fr,zt7,ha];rfl
  refine⟨fh,?_,zpI zb iA (h6.row a fh _ dg dr) (fun q hq=>dm a fh q dg hq)⟩;unfold phC;dsimp only;rw[dg,e9];rfl
 exact zpJ tS (phC hY has) j1 dc hm (fun q hq=>dl j u q hu hq)
theorem zcf {n:Nat} (h:(List.replicate n (Value.slice none 0 0))[i]?=some v) (hq:v.ownBlock=some q):False:=by
 rw[zuF]at h;split at h
 . cases h;cases hq
 cases h
theorem zk2 (n:Nat):RowsOk enc e w (List.replicate n (.slice none 0 0)) (List.replicate n ([]:List α)):=by
 refine⟨tD,fun i v r hv hr=>?_,fun i j vi vj q _ hi _ hq=>(zcf hi hq).elim⟩;rw[zuF]at hv hr;split at hv
 .
  rename_i h;rw[zt1 h]at hr;cases hv;cases hr;exact qF _ _ _
 cases hv
theorem zfk (n:Nat):RowsC kk e w (List.replicate n (.slice none 0 0)) (List.replicate n []):=by
 refine⟨tD,fun i v r hv hr=>?_,fun i j vi vj q _ hi _ hq=>(zcf hi hq).elim⟩;rw[zuF]at hv hr;split at hv
 .
  rename_i h;rw[zt1 h]at hr;cases hv;cases hr;exact⟨0,qF _ _ _⟩
 cases hv
theorem PlS.start {sp:List Value}:PlS g nv [] (ofE nv []) (ndk g.length++sp) (List.replicate g.length (.slice none 0 0)) (List.replicate g.length []) [] [] [] []:=by
 refine⟨rfl,zuT,zuT,by rw[zsY,zg5];omega,fun j hj=>?_,fun j hj=>(zg6 hj sp).2.1,fun j hj=>(zg6 hj sp).2.2,fun j hj=>?_,rfl,rfl,rfl,rfl⟩
 . rw[(zg6 hj sp).1,zuF,zt1 hj]
 rw[zuF,zt1 hj];rfl
theorem PlS.stW (h:PlS g nv E ofl ndc hY pcs da frs has als):StW f g T (ofE nv E) (pwE nv g E) (fun j=>hY[j]?.getD undef) 0 ofl ndc (List.replicate g.length (.slice none 0 0)) (List.replicate g.length []) als:=by
 refine⟨by rw[zly];exact h.of,zuT,zuT,h.nl,fun j hj=>?_,fun j hj=>?_,fun j hj=>?_,fun j hj=>?_,fun j hj q p hp=>?_⟩
 .
  rw[h.n0 j hj];have:=zsQ (show j<hY.length by rw[h.hl];exact hj);rw[this];rfl
 . rw[h.n1 j hj,zuF,zt1 hj]
 . rw[h.n2 j hj,zlA]
 . rw[zuF,zt1 hj,zlC];rfl
 obtain⟨v,a,ha,rfl⟩:=mem_pwE.1 (zsR hp);rw[h.as_,zt7,ha,zlE];rfl
def rgI (v:Nat):List Int:=(List.range v).map fun v:Nat=>(v:Int)
theorem zni (v:Nat):(rgI v).length=v:=by unfold rgI;rw[zta,zuS]
theorem zb5 (v:Nat):rgI (v+1)=rgI v++[(v:Int)]:=by unfold rgI;rw[zvp,zuV];rfl
theorem znU (nv:Nat):ofE nv []=rgI nv:=by unfold ofE rgI;exact zu3 _
def cuI (v:Nat):List (List Int):=(List.range v).map fun v:Nat=>[(v:Int)]
theorem zk3 (v:Nat):(cuI v).length=v:=by unfold cuI;rw[zta,zuS]
theorem zb6 (v:Nat):cuI (v+1)=cuI v++[[(v:Int)]]:=by unfold cuI;rw[zvp,zuV];rfl
theorem znj (nv:Nat):TopW f g T of1 pw 0 (cuI nv):=fun v r hr=>by
 unfold cuI at hr;rw[zt7]at hr;obtain⟨z,hz,rfl⟩:=zw4.1 hr;have hl:=(zt4.1 hz).1;rw[zuE tD]at hz;obtain rfl:=Option.some.inj hz;exact⟨tZ,rfl⟩
theorem zk4 (nv:Nat):∀ r ∈ cuI nv,r.length=1:=fun r hr=>by
 unfold cuI at hr
 grind
theorem znV (h:RightF f g s (rdV f g)):(LP s g.length).length+f.vars.length=s.of_.length:=by
 have h1:=zny h.toFormF;have hp:(LP s g.length).Perm (qo f g s):=zvn.2 fun a=>zgw h.len h.nod a;have:=hp.length_eq;omega
theorem zlW (n root:Int) (es:List (Int × Int)) (ev:Value) (D:Nat->Prop) (w:World) (hY:SlR 2 xo D w ev es) (hc:yi n es root=0):Calls prog 52 #[.agg #[.int .i64 n,ev],.int .i64 root] w (Ret fun v w'=>(∃ u,v=.tuple #[u,.int .i64 0]/\∃ Rw order pl T,Known n.toNat root.toNat es Rw order pl T/\SlR 1 zw (fun b=>w.heap.size<=b) w' u T)/\Ext w w'):=by
 refine(zmV n root es ev D w hY).mono ?_;rintro e w' ⟨v,rfl,u,rfl,_,h,hk⟩;exact⟨_,rfl,⟨u,tD,h hc⟩,hk⟩
theorem zk5 {n:Nat} (h:Known n 0 es Rw order pl T) (hY:∀ i,Dfs.Reach Rw 0 i->i<n):order.length<=n:=Dfs.nodup_le n _ h.ord.nodup fun x hx=>hY x ((h.ord.mem x).1 hx)
theorem zhR (hg:Formed g) (hs:zaJ (xw g g.length) es):yi g.length es 0=0:=by
 have h1:=zfj hg.hi (fun i x hx=>hg.edge hx);obtain⟨h2,h3,h4,h5⟩:=Gr.check_zero h1;have h0:=hg.lo;unfold yi
 have hc:Gr.check g.length es=0:=by
  unfold Gr.check;rw[zt0 tO,zt0 (by have:=hs.2.2;omega),zt1];rw[ztZ]at h5 ⊢;exact fun e he=>h5 e ((hs.2.1 e).1 he)
 omega
end Go.Proofs.YtckdhgbepmpgiaaGreat
