/-
  Contracts and the mathematics that the proof needs. Nothing here is a claim.
-/
import Derived.Test.YtbkhagigkglgoaaGreatDoorKV5
namespace Go.Proofs.YtbkhagigkglgoaaGreatDoor
open Go.GL
structure AcB (a : Ac) : Prop where
 ll : a.left.length <= 5000
 al : a.asked.length <= 100000
 ql : ∀ p ∈ a.asked, p.2.length <= 17592186044416
theorem zeF {f : Fl} {pub : List Int} {o : Ob} {l : List Int} {i : Nat} {x : Int} (hx : l[i]? = some x) : yF f pub o (l.take (i + 1)) = yF f pub o (l.take i) ++ (if obN f pub x = o then [x] else []) := by
 unfold yF
 rw [zg hx, List.filter_append]
 congr 1
 by_cases e : obN f pub x = o <;> simp [e]
theorem zfW (f : Fl) (pub : List Int) (o : Ob) (l : List Int) : (yF f pub o l).length <= l.length := List.length_filter_le _ _
abbrev quE (q : Qu) (y : Option Addr × Nat × (Nat -> Prop)) : HE := DaP RQu y.2.2 q [.int .i64 q.1, .slice y.1 q.2.length y.2.1]
theorem zi8 {H : Hp} {f : FuncId} {args : Array Value} {q : Qu} {w : World} (k : Nat) (hc : Calls Tryz.prog f args w (Ret fun r w' => (∃ u, r = .agg #[.int .i64 q.1, u] /\ SlR 1 zz (fun b => w.heap.size <= b) w' u q.2) /\ Ext w w')) :
  Calls Tryz.prog f args w (Ret fun r w' => ∃ y : Option Addr × Nat × (Nat -> Prop), r = .agg #[.int .i64 q.1, .slice y.1 q.2.length y.2.1] /\ Hands H [] [(k, quE q y)] w w') := by
 refine hc.mono ?_
 rintro _ w' ⟨_, rfl, ⟨ov, rfl, hd⟩, hk⟩
 obtain ⟨ao, co, rfl⟩ := hd.form
 refine ⟨_, rfl, (ao, co, fun b => w.heap.size <= b /\ b < w'.heap.size), rfl, hk.mono fun q _ h => h.elim, fun x hx => ?_, List.pairwise_singleton _ _⟩
 rw [zni] at hx
 subst hx
 exact ⟨⟨_, rfl, hd.narrow (by omega) yi⟩, DaP.loc, fun _ h => h, fun q hq => ⟨.inr hq.1, hq.2⟩⟩
theorem owf {α : Type} {R : Rel α} {e : TypeId} {kk : Nat} {F : Nat -> Prop} {w : World} {v : Value} {l : List α} (h : (OwP e kk R F v l).holds w) : ∃ ao c, v = .slice ao l.length c := by
 obtain ⟨ao, c, h, _⟩ := OwH.form (show OwH e kk R F w v l from h)
 exact ⟨ao, c, h⟩
theorem ku (a : Ac) (hB : AcB a) (f : Fl) (vd : Valid f) (q : Qu) (hql : q.2.length <= 17592186044416) (n : Int) (hsn : 0 <= a.spent * n /\ a.spent * n <= 1048576) (o : Ob) (u1 u2 v1 v2 v3 qv ov : Value) (D D1 D2 D3 : Nat -> Prop) (W : World) (ha : RAc D W a u1 u2) (hf : RFl D1 W f v1 v2 v3) (hq : SlR 1 zz D2 W qv q.2) (ho : SlR 1 zz D3 W ov o.1) :
  Calls Tryz.prog 55 #[.agg #[.int .i64 a.mode, .int .i64 a.budget, .int .i64 a.spent, u1, u2], .agg #[v1, v2, v3], .agg #[.int .i64 q.1, qv], .int .i64 n, .agg #[ov, .int .i64 o.2]] W (Ret fun r w' => (∃ r1 r2, r = .agg #[.int .i64 a.mode, .int .i64 a.budget, .int .i64 (a.spent * n), r1, r2] /\ RAc (fun b => W.heap.size <= b) w' (zaZ a f q n o) r1 r2) /\ Ext W w') := by
 have hl := ha.left
 have hqs := ha.asked
 obtain ⟨a1, c1, rfl⟩ := hl.form
 obtain ⟨a2, c2, rfl⟩ := hqs.form
 obtain ⟨aq, cq, rfl⟩ := hq.form
 obtain ⟨ao, co, rfl⟩ := ho.form
 have hb1 := hB.ll
 have hb2 := hB.al
 have hml := hl.max
 have hmq := hqs.max
 refine G.in5 Tryz.func55 O Tryz.ntmps55 O (zlC ?_)
 refine Vs 2 O ?_
 refine V.box 5 O O (fun b5 => ?_)
 refine V.box 6 O O (fun b6 => ?_)
 refine V.box 7 O O (fun b7 => ?_)
 refine V.box 9 O O (fun b9 => ?_)
 refine V.alloc 10 tz37 O O (fun b10 => ?_)
 refine Va 12 O (by omega) ?_
 refine zme [Value.int IntKind.i64 0, Value.int IntKind.i64 0, Value.int IntKind.i64 0, Value.slice none 0 0, Value.slice none 0 0] [(0, 1), (1, 1), (2, 1), (3, 1), (4, 1)] [(0, _), (1, _), (2, _)] O O (fun _ => by kernel_rfl) ?_
 refine V.alloc 11 tz37 O O (fun b11 => ?_)
 refine Vs 12 O ?_
 refine zlN 900 3 1 O ?_
 refine Vs 1 O ?_
 refine zm5 (σ := Nat × Value) [5, 6, 7, 9, 10, 11, 26, 27] [5, 6, 7, 9, 10] [5, 6, 7, 9, 10, 11] O (fun e ⟨i, v⟩ => (28, .int .i64 i) :: e) (fun e ⟨i, v⟩ => (11, .own b11 [.int .i64 a.mode, .int .i64 a.budget, .int .i64 (a.spent * n), v, .slice none 0 0] 37) :: (900, .row 3 1 v (yF f q.2 o (a.left.take i)).length ((yF f q.2 o (a.left.take i)).map ze)) :: e) (fun ⟨i, v⟩ => i <= a.left.length) (fun ⟨i, v⟩ => a.left.length - i) ((0, .slice none 0 0)) (zkZ O) (zl0 O) (fun _ => rfl) (fun _ => rfl) (fun _ => rfl) (znf _) ?_
 rintro ⟨i, v⟩ hi
 show V _ _ _ _ _ ((28, .int .i64 i) :: _) _ ((11, .own b11 [.int .i64 a.mode, .int .i64 a.budget, .int .i64 (a.spent * n), v, .slice none 0 0] 37) :: (900, .row 3 1 v (yF f q.2 o (a.left.take i)).length ((yF f q.2 o (a.left.take i)).map ze)) :: _) _
 have hlo := zfW f q.2 o (a.left.take i)
 rw [znt] at hlo
 refine Vs 6 O ?_
 refine zjo O (fun hlt => ?_) (fun hlt => ?_)
 ·
  refine Vs 6 O ?_
  obtain ⟨x, he_x, hm_x⟩ := gE_ a.left (i) (by omega)
  obtain ⟨b_x, o_x, c_x, ha_x, _, hc_x, hR_x⟩ := hl.at he_x
  obtain rfl := hR_x
  refine zm1 1000 0 O O hc_x ?_
  refine zlK 1000 tR31 ts3 O ha_x (by omega) (_) (rfl) O ?_
  have hto := zeF (f := f) (pub := q.2) (o := o) he_x
  refine Vs 5 O ?_
  refine Vw [5, 6, 7, 9, 10, 11, 1000] [] O ?_
  refine Vd [0, 1, 2, 3, 5] 0 (by kernel_rfl) O O O ?_
  refine zmo 4 0 [] (Hn := fun y : Option Addr × Nat × (Nat -> Prop) => [(905, obE (obN f q.2 x) y)]) [(5, some (5, 0)), (6, some (6, 0)), (7, some (7, 0)), (9, some (9, 0)), (10, some (10, 0)), (11, some (11, 0)), (30, some (1000, 0)), (33, some (7, 1))] Tryz.call49 O (by kernel_rfl) O O (fun _ => rfl) (fun _ _ => rfl) (fun _ => rfl) (fun w hI => zhV 905 (qi f vd q.2 x v1 v2 v3 _ D1 D2 w (Tr1 hI.k0 hf) (Tr1 hI.k0 hq))) ?_
  rintro _ ⟨ax, cx, G⟩ rfl
  refine zlU 6 0 Tryz.call54 O (by kernel_rfl) O O (fun w hI => xN (obN f q.2 x) o _ _ G D3 w (zfI (hI.at 905 O)) (Tr1 hI.k0 ho)) ?_
  refine Vd [7] 0 (by kernel_rfl) O O O ?_
  refine VD.done (by kernel_rfl) ?_
  refine Vs 1 O ?_
  refine zjo O (fun c => ?_) (fun c => ?_)
  ·
   rw [znb (cmpOb_iff.1 c)] at hto
   refine Vs 4 O ?_
   refine zm8 43 [(0, _)] tR31 ts3 tz3 (by decide) O O (by kernel_rfl) (fun b43 => ?_)
   refine zlO 900 43 tu31 Tryz.el3 O (by decide) O O (by omega) (by omega) (fun u900 => ?_)
   refine Vs 1 O ?_
   refine zlQ 900 O (by omega) ?_
   rintro bq cq2 rfl hcap_900
   refine Va 8 O (by omega) ?_
   refine zm4 900 O (e' := .row 3 1 (.slice (some ⟨bq, 0, none⟩) ((yF f q.2 o (a.left.take i)).length + 1) cq2) (yF f q.2 o (a.left.take (i + 1))).length ((yF f q.2 o (a.left.take (i + 1))).map ze)) (by rw [hto, zn8, List.map_append]; rfl) ?_
   refine zjz (⟨i + 1, _⟩) (zkZ O) (zl0 O) (by omega) (by first | omega | (dsimp only; omega)) 0 O O
  ·
   rw [zna (fun e => c (cmpOb_iff.2 e)), List.append_nil] at hto
   refine zm4 900 O (e' := .row 3 1 v (yF f q.2 o (a.left.take (i + 1))).length ((yF f q.2 o (a.left.take (i + 1))).map ze)) (by rw [hto]) ?_
   refine Va 7 O (by omega) ?_
   refine zjz (⟨i + 1, v⟩) (zkZ O) (zl0 O) (by omega) (by first | omega | (dsimp only; omega)) 0 O O
 ·
  obtain rfl : i = a.left.length := by omega
  rw [zn5] at *
  refine Vs 14 O ?_
  refine zlD (fun w hI => qH (show w.ownsRow 0 3 1 v _ _ from hI.at 900 O)) ?_
  rintro ⟨av, cv, rfl⟩
  refine zlN 901 33 2 O ?_
  refine zmh 901 (e' := OwP 33 2 RQu (fun _ => False) (.slice none 0 0) []) O (fun w hI => OwH.nil) OwP.loc (fun _ h => h) (fun q hq => hq.elim id False.elim) ?_
  refine Vs 1 O ?_
  refine zm5 (σ := Nat × Option Addr × Nat × (Nat -> Prop)) [5, 7, 10, 11, 48, 49] [5, 7, 10] [5, 7, 10, 11] O (fun e ⟨j, aj, cj, F⟩ => (50, .int .i64 j) :: e) (fun e ⟨j, aj, cj, F⟩ => (11, .own b11 [.int .i64 a.mode, .int .i64 a.budget, .int .i64 (a.spent * n), .slice av (yF f q.2 o a.left).length cv, .slice aj (a.asked.take j).length cj] 37) :: (900, .row 3 1 (.slice av (yF f q.2 o a.left).length cv) (yF f q.2 o a.left).length ((yF f q.2 o a.left).map ze)) :: (901, OwP 33 2 RQu F (.slice aj (a.asked.take j).length cj) (a.asked.take j)) :: e) (fun ⟨j, aj, cj, F⟩ => j <= a.asked.length) (fun ⟨j, aj, cj, F⟩ => a.asked.length - j) ((0, none, 0, fun _ => False)) (zkZ O) (zl0 O) (fun _ => rfl) (fun _ => rfl) (fun _ => rfl) (znf _) ?_
  rintro ⟨j, aj, cj, F⟩ hj
  show V _ _ _ _ _ ((50, .int .i64 j) :: _) _ ((11, .own b11 [.int .i64 a.mode, .int .i64 a.budget, .int .i64 (a.spent * n), .slice av (yF f q.2 o a.left).length cv, .slice aj (a.asked.take j).length cj] 37) :: (900, .row 3 1 (.slice av (yF f q.2 o a.left).length cv) (yF f q.2 o a.left).length ((yF f q.2 o a.left).map ze)) :: (901, OwP 33 2 RQu F (.slice aj (a.asked.take j).length cj) (a.asked.take j)) :: _) _
  have hjl : (a.asked.take j).length = j := by rw [znt]; omega
  refine Vs 6 O ?_
  refine zjo O (fun hlt2 => ?_) (fun hlt2 => ?_)
  ·
   refine Vs 6 O ?_
   obtain ⟨p, he_p, hm_p⟩ := gE_ a.asked (j) (by omega)
   obtain ⟨b_p, o_p, c_p, ha_p, _, hc_p, hR_p⟩ := hqs.at he_p
   obtain ⟨v1_p, rfl, hs_p⟩ := hR_p
   obtain ⟨a1_p, n1_p, rfl⟩ := hs_p.form
   refine zm1 2000 0 O O hc_p ?_
   refine zlK 2000 tR24 ts33 O ha_p (by omega) (_) (rfl) O ?_
   have hpl := hB.ql p hm_p
   have htj := zg he_p
   refine Vs 1 O ?_
   refine V.alloc 15 tz33 O O (fun b15 => ?_)
   refine Vs 3 O ?_
   refine Vw [5, 7, 10, 11, 2000, 15] [7] O ?_
   refine Vd [0, 1, 2] 0 (by kernel_rfl) O O O ?_
   refine zmo 3 0 [] (Hn := fun y : Option Addr × Nat × (Nat -> Prop) => [(906, quE p y)]) [(5, some (5, 0)), (7, some (7, 0)), (10, some (10, 0)), (11, some (11, 0)), (15, some (15, 0)), (52, some (2000, 0)), (54, some (11, 4))] Tryz.call69 O (by kernel_rfl) O O (fun _ => rfl) (fun _ _ => rfl) (fun _ => rfl) (fun w hI => zi8 906 (zaQ p hpl _ D w (Tr1 hI.k0 hs_p))) ?_
   rintro _ ⟨ax, cx, G⟩ rfl
   refine zm9 4 58 0 [(0, _)] tR24 ts33 tz33 (by decide) O (by kernel_rfl) O O (by kernel_rfl) (fun b58 => ?_)
   refine zmw 5 0 [901, 906] (Hn := fun u => [(901, OwP 33 2 RQu (fun q => F q \/ G q) u (a.asked.take j ++ [p]))]) (u := fun u => u) [(5, some (5, 0)), (7, some (7, 0)), (10, some (10, 0)), (11, some (11, 0)), (15, some (15, 0)), (52, some (2000, 0)), (54, some (11, 4))] O (by kernel_rfl) O O (fun _ => rfl) (fun _ => rfl) (fun _ => rfl) (fun w hI => zmx 901 906 58 hI O O O O tu24 Tryz.el33 O (by decide) O O O (fun D x cs h => zfw D x cs h) (by omega) (by omega)) (fun u901 => ?_)
   refine zlE (p := ∃ ao c, u901 = .slice ao (a.asked.take j ++ [p]).length c) (fun w hI => owf (hI.at 901 O)) (fun hu => ?_)
   obtain ⟨an, cn, rfl⟩ := hu
   refine Vd [6] 0 (by kernel_rfl) O O O ?_
   refine Vl 7 O (by kernel_rfl) O ?_
   refine VDx.done (by kernel_rfl) ?_
   refine Va 6 O (by omega) ?_
   rw [<- htj] at *
   refine zjz (⟨j + 1, an, cn, fun q => F q \/ G q⟩) (zkZ O) (zl0 O) (by omega) (by first | omega | (dsimp only; omega)) 0 O O
  ·
   obtain rfl : j = a.asked.length := by omega
   rw [zn5] at *
   refine Vs 10 O ?_
   refine zlT Tryz.call83 O (fun w hI => zcU a q _ _ _ _ _ _ D D2 w (Tr1 hI.k0 ha) (Tr1 hI.k0 hq)) ?_
   refine zlh O (fun w hI => zkJ O (by first | exact za | rfl)) ?_
   refine Vs 2 O ?_
   refine zjo O (fun b0 => ?_) (fun b0 => ?_)
   ·
    have hA : zaZ a f q n o = ⟨a.mode, a.budget, a.spent * n, yF f q.2 o a.left, a.asked ++ [q]⟩ := by unfold zaZ; rw [zna b0]
    rw [hA]
    refine Vw [5, 7, 10, 11] [7] O ?_
    refine Vd [0, 1, 2] 0 (by kernel_rfl) O O O ?_
    refine zmo 3 0 [] (Hn := fun y : Option Addr × Nat × (Nat -> Prop) => [(906, quE q y)]) [(5, some (5, 0)), (7, some (7, 0)), (10, some (10, 0)), (11, some (11, 0)), (66, some (11, 4))] Tryz.call69 O (by kernel_rfl) O O (fun _ => rfl) (fun _ _ => rfl) (fun _ => rfl) (fun w hI => zi8 906 (zaQ q hql _ D2 w (Tr1 hI.k0 hq))) ?_
    rintro _ ⟨ax, cx, G⟩ rfl
    refine zm9 4 70 0 [(0, _)] tR24 ts33 tz33 (by decide) O (by kernel_rfl) O O (by kernel_rfl) (fun b70 => ?_)
    refine zmw 5 0 [901, 906] (Hn := fun u => [(901, OwP 33 2 RQu (fun q => F q \/ G q) u (a.asked ++ [q]))]) (u := fun u => u) [(5, some (5, 0)), (7, some (7, 0)), (10, some (10, 0)), (11, some (11, 0)), (66, some (11, 4))] O (by kernel_rfl) O O (fun _ => rfl) (fun _ => rfl) (fun _ => rfl) (fun w hI => zmx 901 906 70 hI O O O O tu24 Tryz.el33 O (by decide) O O O (fun D x cs h => zfw D x cs h) (by omega) (by omega)) (fun u901 => ?_)
    refine zlE (p := ∃ ao c, u901 = .slice ao (a.asked ++ [q]).length c) (fun w hI => owf (hI.at 901 O)) (fun hu => ?_)
    obtain ⟨an, cn, rfl⟩ := hu
    refine Vd [6] 0 (by kernel_rfl) O O O ?_
    refine Vl 7 O (by kernel_rfl) O ?_
    refine VDx.done (by kernel_rfl) ?_
    refine Vs 8 O ?_
    refine zjQ Tryz.results55 tg37 ts37 O O O (fun w hI => ⟨_, rfl, ⟨_, _, rfl, ⟨zkx ze (fun _ _ => rfl) (hI.at 900 O) (fun b hb => hI.own 900 0 O O b hb), (show OwH _ _ _ _ _ _ _ from hI.at 901 O).sl (by omega) (fun q hq => hI.own 901 0 O O q hq)⟩⟩, hI.k0⟩)
   ·
    have hA : zaZ a f q n o = ⟨a.mode, a.budget, a.spent * n, yF f q.2 o a.left, a.asked⟩ := by unfold zaZ; rw [znb (zn9.1 b0)]
    rw [hA]
    refine Vs 9 O ?_
    refine zjQ Tryz.results55 tg37 ts37 O O O (fun w hI => ⟨_, rfl, ⟨_, _, rfl, ⟨zkx ze (fun _ _ => rfl) (hI.at 900 O) (fun b hb => hI.own 900 0 O O b hb), (show OwH _ _ _ _ _ _ _ from hI.at 901 O).sl (by omega) (fun q hq => hI.own 901 0 O O q hq)⟩⟩, hI.k0⟩)
end Go.Proofs.YtbkhagigkglgoaaGreatDoor
namespace Go.GL
theorem zmU {P : Program} {fn : Func} {R : Ending -> World -> Prop} {n : Nat} {env : Env} {A : Tgs} {H : Hp} {Bs : yc} {p s1 s2 q s3 : Tmp} {ty ty2 : TypeId} {k off z k2 off2 z2 : Nat} {cs l cs2 l2 : List Value} {x1 x2 x3 : Value} (h : fn.results = #[.cell p ty, .tmp s1, .tmp s2, .cell q ty2, .tmp s3]) (ht : ∀ w, (isAgg ty).run P w = .ok true w) (hz : ∀ w, (sizeOf ty).run P w = .ok z w) (ht2 : ∀ w, (isAgg ty2).run P w = .ok true w) (hz2 : ∀ w, (sizeOf ty2).run P w = .ok z2 w)
  (hn : (tgt A p, get env s1, get env s2, tgt A q, get env s3) = (some (k, off), some x1, some x2, some (k2, off2), some x3)) (hc : qs H k = some cs) (hs : zhb z off cs = some l) (hc2 : qs H k2 = some cs2) (hs2 : zhb z2 off2 cs2 = some l2) (hR : ∀ w, VI Bs H w -> R (.returned (.tuple #[.agg l.toArray, x1, x2, .agg l2.toArray, x3])) w) : V P n (bodyPost P fn R) [] (.e .ret) env A H Bs := fun hA w hw => by
 simp only [Prod.mk.injEq] at hn
 obtain ⟨n1, n2, n3, n4, n5⟩ := hn
 obtain ⟨a, h1, h2⟩ := kV hA hw n1 hc hs ht hz
 obtain ⟨b, h3, h4⟩ := kV hA hw n4 hc2 hs2 ht2 hz2
 intro a' ha
 have g1 := ha.get p _ h1
 have g2 := ha.get s1 _ n2
 have g3 := ha.get s2 _ n3
 have g4 := ha.get q _ h3
 have g5 := ha.get s3 _ n5
 refine bodyPost_ret (v := .tuple #[.agg l.toArray, x1, x2, .agg l2.toArray, x3]) ?_ ha.defs (hR w hw)
 simp [results, h, Array.getD_eq_getD_getElem?, g1, g2, g3, g4, g5, asAddr, h2, h4]
theorem RAc.narrow {D : Nat -> Prop} {w : World} {a : Ac} {v1 v2 : Value} (h : RAc D w a v1 v2) : RAc (fun b => D b /\ b < w.heap.size) w a v1 v2 := ⟨h.left.narrow (by omega) yi, h.asked.narrow (by omega) zcE⟩
theorem VI.hs {Bs : yc} {H : Hp} {w W : World} (hI : VI Bs H w) (hp : (W, fun _ => False) ∈ Bs) {q : Nat} (h : HS H q) : W.heap.size <= q := by
 obtain ⟨x, hx, hq⟩ := h
 exact ((hI.base _ hp).2 x hx q hq).elim False.elim id
end Go.GL
namespace Go.Proofs.YtbkhagigkglgoaaGreatDoor
open Go.GL
def zge (m b n : Int) : Int := if ¬ (m = 0 \/ m = 1) then 1 else if b < 1 \/ 1048576 < b \/ n < 1 \/ 4096 < n then 3 else 0
def qE (n : Nat) : List Int := (List.range n).map fun i : Nat => (i : Int)
def zgf (m b n : Int) : Ac := if zge m b n = 0 then ⟨m, b, 1, qE n.toNat, []⟩ else ac0
theorem zeG {n i : Nat} (h : i < n) : (qE n)[i]? = some (i : Int) := by simp [qE, List.getElem?_range h]
theorem zeH (n : Nat) : (qE n).length = n := by simp [qE]
theorem ziI (m b n : Int) (W : World) : Calls Tryz.prog 14 #[.int .i64 m, .int .i64 b, .int .i64 n] W (Ret fun r w' => (∃ r1 r2, r = .tuple #[.agg #[.int .i64 (zgf m b n).mode, .int .i64 (zgf m b n).budget, .int .i64 (zgf m b n).spent, r1, r2], .int .i64 (zge m b n)] /\ RAc (fun q => W.heap.size <= q) w' (zgf m b n) r1 r2 /\ (zge m b n ≠ 0 -> r1 = .slice none 0 0 /\ r2 = .slice none 0 0)) /\ Ext W w') := by
 refine zls Tryz.func14 O Tryz.ntmps14 O (zlC ?_)
 refine Vs 2 O ?_
 refine V.alloc 6 tz37 O O (fun b6 => ?_)
 refine Vs 5 O ?_
 refine zm6 (σ := Unit) [0, 1, 2, 6] [6] [6] O (fun e u => (15, .bool (decide (¬ (m = 0 \/ m = 1)))) :: e) (fun e u => e) (fun u => True) (fun _ => rfl) (fun _ => rfl) ?_ ?_
 ·
  refine Vs 4 O ?_
  refine zld 12 O (fun k1_ => ?_) (fun k1_ => ?_)
  ·
   refine Vs 4 O ?_
   refine zjE (()) (Sub.cons (by first | exact yI (by omega) | exact yJ (by omega) | exact yK (by omega)) (zkZ O)) (zl0 O) (trivial) 0 O O
  ·
   refine Vs 4 O ?_
   refine zjE (()) (Sub.cons (by first | exact yI (by omega) | exact yJ (by omega) | exact yK (by omega)) (zkZ O)) (zl0 O) (trivial) 0 O O
 rintro u _
 refine Vs 1 O ?_
 refine zjo O (fun c1 => ?_) (fun c1 => ?_)
 ·
  have hc : zge m b n = 1 := znb c1
  have ha : zgf m b n = ac0 := zna (by rw [hc]; decide)
  refine Vs 2 O ?_
  refine zme [Value.int IntKind.i64 0, Value.int IntKind.i64 0, Value.int IntKind.i64 0, Value.slice none 0 0, Value.slice none 0 0] [(0, 1), (1, 1), (2, 1), (3, 1), (4, 1)] [] O O (fun _ => by kernel_rfl) ?_
  refine Vs 6 O ?_
  refine zjT Tryz.results14 tg37 ts37 O O O O (fun w hI => ⟨_, rfl, ⟨_, _, by rw [hc, ha]; rfl, by rw [ha]; exact ⟨SlR.nil, SlR.nil⟩, fun _ => ⟨rfl, rfl⟩⟩, hI.k0⟩)
 ·
  refine Vs 4 O ?_
  refine zm6 (σ := Unit) [0, 1, 2, 6] [6] [6] O (fun e u => (30, .bool (decide (b < 1 \/ 1048576 < b \/ n < 1 \/ 4096 < n))) :: e) (fun e u => e) (fun u => True) (fun _ => rfl) (fun _ => rfl) ?_ ?_
  ·
   refine Vs 4 O ?_
   refine zld 19 O (fun k1_ => ?_) (fun k1_ => ?_)
   ·
    refine Vs 12 O ?_
    refine zjE (()) (Sub.cons (by first | exact yI (by omega) | exact yJ (by omega) | exact yK (by omega)) (zkZ O)) (zl0 O) (trivial) 0 O O
   ·
    refine Vs 4 O ?_
    refine zld 23 O (fun k2_ => ?_) (fun k2_ => ?_)
    ·
     refine Vs 8 O ?_
     refine zjE (()) (Sub.cons (by first | exact yI (by omega) | exact yJ (by omega) | exact yK (by omega)) (zkZ O)) (zl0 O) (trivial) 0 O O
    ·
     refine Vs 4 O ?_
     refine zld 27 O (fun k3_ => ?_) (fun k3_ => ?_)
     ·
      refine Vs 4 O ?_
      refine zjE (()) (Sub.cons (by first | exact yI (by omega) | exact yJ (by omega) | exact yK (by omega)) (zkZ O)) (zl0 O) (trivial) 0 O O
     ·
      refine Vs 4 O ?_
      refine zjE (()) (Sub.cons (by first | exact yI (by omega) | exact yJ (by omega) | exact yK (by omega)) (zkZ O)) (zl0 O) (trivial) 0 O O
  rintro u _
  refine Vs 1 O ?_
  refine zjo O (fun c2 => ?_) (fun c2 => ?_)
  ·
   have hc : zge m b n = 3 := by unfold zge; rw [zna c1, znb c2]
   have ha : zgf m b n = ac0 := zna (by rw [hc]; decide)
   refine Vs 2 O ?_
   refine zme [Value.int IntKind.i64 0, Value.int IntKind.i64 0, Value.int IntKind.i64 0, Value.slice none 0 0, Value.slice none 0 0] [(0, 1), (1, 1), (2, 1), (3, 1), (4, 1)] [] O O (fun _ => by kernel_rfl) ?_
   refine Vs 6 O ?_
   refine zjT Tryz.results14 tg37 ts37 O O O O (fun w hI => ⟨_, rfl, ⟨_, _, by rw [hc, ha]; rfl, by rw [ha]; exact ⟨SlR.nil, SlR.nil⟩, fun _ => ⟨rfl, rfl⟩⟩, hI.k0⟩)
  ·
   have hc : zge m b n = 0 := by unfold zge; rw [zna c1, zna c2]
   have ha : zgf m b n = ⟨m, b, 1, qE n.toNat, []⟩ := znb hc
   obtain ⟨k, rfl⟩ : ∃ k : Nat, n = (k : Int) := ⟨n.toNat, by omega⟩
   rw [znl] at ha
   have hrl := zeH k
   refine Vs 6 O ?_
   refine zme [Value.int IntKind.i64 0, Value.int IntKind.i64 0, Value.int IntKind.i64 0, Value.slice none 0 0, Value.slice none 0 0] [(0, 1), (1, 1), (2, 1), (3, 1), (4, 1)] [(0, _), (1, _), (2, _)] O O (fun _ => by kernel_rfl) ?_
   refine V.alloc 8 tz37 O O (fun b8 => ?_)
   refine Vs 10 O ?_
   refine zlN 900 3 1 O ?_
   refine Vs 1 O ?_
   refine zm5 (σ := Nat × Value) [6, 8, 35] [6] [6, 8] O (fun e ⟨i, v⟩ => (36, .int .i64 i) :: e) (fun e ⟨i, v⟩ => (8, .own b8 [.int .i64 m, .int .i64 b, .int .i64 1, v, .slice none 0 0] 37) :: (900, .row 3 1 v i (((qE k).take i).map ze)) :: e) (fun ⟨i, v⟩ => i <= k) (fun ⟨i, v⟩ => k - i) ((0, .slice none 0 0)) (zkZ O) (zl0 O) (fun _ => rfl) (fun _ => rfl) (fun _ => rfl) (znf _) ?_
   rintro ⟨i, v⟩ hi
   show V _ _ _ _ _ ((36, .int .i64 i) :: _) _ ((8, .own b8 [.int .i64 m, .int .i64 b, .int .i64 1, v, .slice none 0 0] 37) :: (900, .row 3 1 v i (((qE k).take i).map ze)) :: _) _
   refine Vs 6 O ?_
   refine zjo O (fun hlt => ?_) (fun hlt => ?_)
   ·
    have zo := zeG (n := k) (i := i) (by omega)
    refine Vs 14 O ?_
    refine zm8 42 [(0, _)] tR31 ts3 tz3 (by decide) O O (by kernel_rfl) (fun b42 => ?_)
    refine zlO 900 42 tu31 Tryz.el3 O (by decide) O O (by omega) (by omega) (fun u900 => ?_)
    refine Vs 1 O ?_
    refine zlQ 900 O (by omega) ?_
    rintro bq cq rfl hcap_900
    refine Va 8 O (by omega) ?_
    refine zm4 900 O (e' := .row 3 1 (.slice (some ⟨bq, 0, none⟩) (i + 1) cq) (i + 1) (((qE k).take (i + 1)).map ze)) (by rw [List.take_add_one, zo, List.map_append]; rfl) ?_
    refine zjz (⟨i + 1, _⟩) (zkZ O) (zl0 O) (by omega) (by first | omega | (dsimp only; omega)) 0 O O
   ·
    obtain rfl : i = k := by omega
    refine Vs 6 O ?_
    refine zlD (fun w hI => qH (show w.ownsRow 0 3 1 v _ _ from hI.at 900 O)) ?_
    rintro ⟨av, cv, rfl⟩
    refine zm4 900 O (e' := .row 3 1 (.slice av i cv) (qE i).length ((qE i).map ze)) (by rw [hrl, List.take_of_length_le (by rw [hrl]; exact zno _)]) ?_
    refine Vs 7 O ?_
    refine zjT Tryz.results14 tg37 ts37 O O O O (fun w hI => ⟨_, rfl, ⟨_, _, by rw [hc, ha], by rw [ha]; exact ⟨zkx ze (fun _ _ => rfl) (by have := hI.at 900 rfl; exact this) (fun b hb => hI.own 900 0 O O b hb), SlR.nil⟩, fun h => absurd hc h⟩, hI.k0⟩)
theorem zh4 (x o : Ob) (u ov : Value) (b : Nat) (D D' : Nat -> Prop) (W : World) (hx : SlR 1 zz D W u x.1) (ho : SlR 1 zz D' W ov o.1) (hB : Cells W b 0 [ov, .int .i64 o.2]) :
  Calls Tryz.prog 53 #[.agg #[u, .int .i64 x.2], .pointer (some ⟨b, 0, none⟩)] W (Ret fun r w' => r = .bool (decide (x = o)) /\ Ext W w') := by
 obtain ⟨a1, c1, rfl⟩ := hx.form
 obtain ⟨a2, c2, rfl⟩ := ho.form
 refine zlr Tryz.func53 O Tryz.ntmps53 O (zlC ?_)
 refine zm2 900 0 O O (fun h => h) hB ?_
 refine zlJ 1 900 0 O O ?_
 refine Vs 2 O ?_
 refine V.box 2 O O (fun b2 => ?_)
 refine Vs 7 O ?_
 refine zlT Tryz.call54 O (fun w hI => xN x o _ _ D D' w (Tr1 hI.k0 hx) (Tr1 hI.k0 ho)) ?_
 refine Vs 5 O ?_
 refine zjI Tryz.results53 O (fun w hI => ⟨_, rfl, by rw [znr.2 (cmpOb_iff (x := x) (y := o))], hI.k0⟩)
theorem zh5 {ps : List Fl} {i : Int} {f : Fl} (h : zcH ps i = some f) : ∃ k : Nat, i = (k : Int) /\ ps[k]? = some f := by
 unfold zcH at h
 split at h
 . cases h
 . exact ⟨i.toNat, by omega, h⟩
theorem zh6 {a : Ac} {ps : List Fl} {q : Qu} {s : Int} (h : xC a ps q ≠ 0) : zcI a ps q s = zhP (xC a ps q) := znb h
theorem zfX {a : Ac} {ps : List Fl} {q : Qu} {s : Int} (h : xC a ps q = 0) (hs : s ∉ a.left) : zcI a ps q s = zhP 11 := by unfold zcI; rw [zna (znm h), znb hs]
theorem zfY {a : Ac} {ps : List Fl} {q : Qu} {s : Int} {f : Fl} (h : xC a ps q = 0) (hs : s ∈ a.left) (hf : zcH ps q.1 = some f) (hn : a.budget.tdiv a.spent < zK a f q) : zcI a ps q s = zhP 18 := by
 unfold zcI
 rw [zna (znm h), zna (znm hs), hf]
 exact znb hn
theorem zh7 {a : Ac} {ps : List Fl} {q : Qu} {s : Int} {f : Fl} (h : xC a ps q = 0) (hs : s ∈ a.left) (hf : zcH ps q.1 = some f) (hn : ¬ a.budget.tdiv a.spent < zK a f q) : zcI a ps q s = ziB a f q s := by
 unfold zcI
 rw [zna (znm h), zna (znm hs), hf]
 exact zna hn
theorem zfZ (a : Ac) (hA : AcB a) (ps : List Fl) (hz : ∀ f ∈ ps, SzOk f) (q : Qu) (hql : q.2.length <= 17592186044416) (s : Int) (u1 u2 pv qv : Value) (D D1 D2 : Nat -> Prop) (W : World) (ha : RAc D W a u1 u2) (hps : SlR 3 RPg D1 W pv ps) (hq : SlR 1 zz D2 W qv q.2) (ht : Tab W) :
  Calls Tryz.prog 24 #[.agg #[.int .i64 a.mode, .int .i64 a.budget, .int .i64 a.spent, u1, u2], pv, .agg #[.int .i64 q.1, qv], .int .i64 s] W (Ret fun r w' => (∃ r1 r2 ov, r = .tuple #[.agg #[.int .i64 (zcI a ps q s).ac.mode, .int .i64 (zcI a ps q s).ac.budget, .int .i64 (zcI a ps q s).ac.spent, r1, r2], .int .i64 (zcI a ps q s).answer, .int .i64 (zcI a ps q s).charge, .agg #[ov, .int .i64 (zcI a ps q s).ob.2], .int .i64 (zcI a ps q s).code] /\ RAc (fun b => W.heap.size <= b) w' (zcI a ps q s).ac r1 r2 /\ SlR 1 zz (fun b => W.heap.size <= b) w' ov (zcI a ps q s).ob.1) /\ Ext W w') := by
 obtain ⟨qp, pub⟩ := q
 dsimp only at hq hql
 obtain ⟨a1, c1, h1⟩ := ha.left.form
 obtain ⟨a2, c2, h2⟩ := ha.asked.form
 subst h1 h2
 obtain ⟨ap, cp, rfl⟩ := hps.form
 obtain ⟨aq, cq, rfl⟩ := hq.form
 have hmp := hps.max
 refine zlt Tryz.func24 O Tryz.ntmps24 O (zlC ?_)
 refine Vs 2 O ?_
 refine V.box 4 O O (fun b4 => ?_)
 refine V.box 6 O O (fun b6 => ?_)
 refine V.alloc 8 tz37 O O (fun b8 => ?_)
 refine Vs 2 O ?_
 refine V.alloc 11 tz60 O O (fun b11 => ?_)
 refine Vs 9 O ?_
 refine zlT Tryz.call45 O (fun w hI => zdv a ps hz (qp, pub) _ _ _ _ D D1 D2 w (Tr1 hI.k0 ha) (Tr1 hI.k0 hps) (Tr1 hI.k0 hq)) ?_
 refine Vs 9 O ?_
 refine zjo O (fun e0 => ?_) (fun e0 => ?_)
 ·
  rw [zh6 e0]
  refine Vs 2 O ?_
  refine zme [Value.int IntKind.i64 0, Value.int IntKind.i64 0, Value.int IntKind.i64 0, Value.slice none 0 0, Value.slice none 0 0] [(0, 1), (1, 1), (2, 1), (3, 1), (4, 1)] [] O O (fun _ => by kernel_rfl) ?_
  refine zme [Value.slice none 0 0, Value.int IntKind.i64 0] [(0, 1), (1, 1)] [] O O (fun _ => by kernel_rfl) ?_
  refine Vs 10 O ?_
  refine zmU tr24 tg37 ts37 tg60 ts60 O O O O O (fun w hI => ⟨_, rfl, ⟨_, _, _, rfl, ⟨SlR.nil, SlR.nil⟩, SlR.nil⟩, hI.k0⟩)
 ·
  have e0 := zn9.1 e0
  obtain ⟨v0, f', hg, ha0, hr0, hi0⟩ := zcJ e0
  refine Vs 8 O ?_
  refine zlT Tryz.call25 O (fun w hI => zcQ a.left s _ D w (Tr1 hI.k0 ha.left)) ?_
  refine zlh O (fun w hI => zkJ O (by first | exact za | rfl)) ?_
  refine Vs 2 O ?_
  refine zjo O (fun l0 => ?_) (fun l0 => ?_)
  ·
   rw [zfX e0 l0]
   refine Vs 2 O ?_
   refine zme [Value.int IntKind.i64 0, Value.int IntKind.i64 0, Value.int IntKind.i64 0, Value.slice none 0 0, Value.slice none 0 0] [(0, 1), (1, 1), (2, 1), (3, 1), (4, 1)] [] O O (fun _ => by kernel_rfl) ?_
   refine zme [Value.slice none 0 0, Value.int IntKind.i64 0] [(0, 1), (1, 1)] [] O O (fun _ => by kernel_rfl) ?_
   refine Vs 9 O ?_
   refine zmU tr24 tg37 ts37 tg60 ts60 O O O O O (fun w hI => ⟨_, rfl, ⟨_, _, _, rfl, ⟨SlR.nil, SlR.nil⟩, SlR.nil⟩, hI.k0⟩)
  ·
   have l0 := zn9.1 l0
   obtain ⟨k, hk, hgk⟩ := zh5 hg
   dsimp only at hk
   subst hk
   have hkl := (zne.1 hgk).1
   refine Vs 7 O ?_
   obtain ⟨f, he_f, hm_f⟩ := gE_ ps (k) (by omega)
   obtain ⟨b_f, o_f, c_f, ha_f, _, hc_f, hR_f⟩ := hps.at he_f
   obtain ⟨v1_f, v2_f, v3_f, rfl, hf_f⟩ := hR_f
   obtain ⟨a1_f, n1_f, rfl⟩ := hf_f.vars.form
   obtain ⟨a2_f, n2_f, rfl⟩ := hf_f.hatches.form
   obtain ⟨a3_f, n3_f, rfl⟩ := hf_f.body.form
   refine zm1 1000 0 O O hc_f ?_
   refine zlK 1000 tR23 ts56 O ha_f (by omega) (_) (rfl) O ?_
   rw [he_f] at hgk
   have hfe := Option.some.inj hgk
   subst hfe
   have vd := (zaM (hz f hm_f) ha0).1
   have b1 := v0.b1
   have b2 := v0.b2
   have s1 := v0.s1
   have s2 := v0.s2
   have hsp := ze7 vd
   have hal := zbU f
   refine Vs 1 O ?_
   refine V.alloc 14 tz56 O O (fun b14 => ?_)
   refine Vs 8 O ?_
   refine zlT Tryz.call46 O (fun w hI => zaR a hA.ll f vd ((k : Int), pub) _ _ _ _ _ _ D D1 D2 w (Tr1 hI.k0 ha) (Tr1 hI.k0 hf_f) (Tr1 hI.k0 hq) (Tr1 hI.k0 ht)) ?_
   refine Vs 11 O ?_
   refine zlh O (fun w hI => R.quo O O (by omega) (by omega)) ?_
   refine Vs 3 O ?_
   refine zjo O (fun n0 => ?_) (fun n0 => ?_)
   ·
    rw [zfY e0 l0 hg n0]
    refine Vs 2 O ?_
    refine zme [Value.int IntKind.i64 0, Value.int IntKind.i64 0, Value.int IntKind.i64 0, Value.slice none 0 0, Value.slice none 0 0] [(0, 1), (1, 1), (2, 1), (3, 1), (4, 1)] [] O O (fun _ => by kernel_rfl) ?_
    refine zme [Value.slice none 0 0, Value.int IntKind.i64 0] [(0, 1), (1, 1)] [] O O (fun _ => by kernel_rfl) ?_
    refine Vs 9 O ?_
    refine zmU tr24 tg37 ts37 tg60 ts60 O O O O O (fun w hI => ⟨_, rfl, ⟨_, _, _, rfl, ⟨SlR.nil, SlR.nil⟩, SlR.nil⟩, hI.k0⟩)
   ·
    rw [zh7 e0 l0 hg n0]
    have hpp := zaL (q := ((k : Int), pub)) v0 hi0
    have hsn := jn (b := a.budget) (s := a.spent) (p := zK a f ((k : Int), pub)) (by omega) s1 (by omega)
    have hsn0 : 0 <= a.spent * zK a f ((k : Int), pub) := znu (by omega) (by omega)
    refine Vs 8 O ?_
    refine zmn [] (Hn := fun y : Option Addr × Nat × (Nat -> Prop) => [(905, obE (obN f pub s) y)]) [(4, some (4, 0)), (6, some (6, 0)), (8, some (8, 0)), (11, some (11, 0)), (14, some (14, 0)), (27, some (4, 3)), (35, some (6, 0)), (37, some (1000, 0)), (44, some (4, 1)), (46, some (4, 2)), (53, some (6, 1))] Tryz.call49 O (fun _ _ => rfl) (fun _ => rfl) (fun w hI => zhV 905 (qi f vd pub s _ _ _ _ D1 D2 w (Tr1 hI.k0 hf_f) (Tr1 hI.k0 hq))) ?_
    rintro _ ⟨ax, cx, G⟩ rfl
    refine V.alloc 16 tz60 O O (fun b16 => ?_)
    refine Vs 4 O ?_
    refine Vw [4, 6, 8, 11, 1000, 14, 16] [] O ?_
    refine Vd [0, 1, 2, 3, 6] 0 (by kernel_rfl) O O O ?_
    refine zlW 4 0 Tryz.call52 O (by kernel_rfl) O O (fun w hI => zfE f vd _ _ _ D1 w (Tr1 hI.k0 hf_f)) ?_
    rintro r1 w1 w2 hI1 hk12 hall hlow
    obtain ⟨al, cl, rfl⟩ := hall.form
    refine zlW 5 1 Tryz.call51 O (by kernel_rfl) O O (fun w hI => qj f vd pub (ko f) _ _ _ _ _ D1 D2 _ w (by omega) (Tr1 hI.k1 hf_f) (Tr1 hI.k1 hq) (hall.keep zb hI.k0 (fun b hb _ hs => by have := hlow b hs; omega)) (Tr1 hI.k1 ht)) ?_
    rintro r2 w3 w4 hI3 hk34 hobs hlow2
    obtain ⟨ao, co, rfl⟩ := hobs.form
    refine zlU 7 2 Tryz.call50 O (by kernel_rfl) O O (fun w hI => zgN (fun x => decide (x = obN f pub s)) (ze2 f pub (ko f)) _ _ _ _ w Tryz.call53 (hobs.keep zaH hI.k0 (fun b hb _ hs => by have := hlow2 b hs; omega)) (fun x u w' hE _ hd => zh4 x (obN f pub s) u _ b16 _ _ w' hd ((zfI (hI.at 905 O)).ext zb hE) (hE.cells (Blk.cells (hI.at 16 O)) (fun h => h)))) ?_
    refine Vd [8] 2 (by kernel_rfl) O O O ?_
    refine VD.done (by kernel_rfl) ?_
    refine Vs 2 O ?_
    refine Vw [4, 6, 1000, 14, 16] [] O ?_
    refine Vd [0, 1, 2, 3, 4, 6, 7, 8] 0 (by kernel_rfl) O O O ?_
    refine zlW 5 0 Tryz.call55 O (by kernel_rfl) O O (fun w hI => ku a hA f vd ((k : Int), pub) hql (zK a f ((k : Int), pub)) ⟨hsn0, by omega⟩ (obN f pub s) _ _ _ _ _ _ _ D D1 D2 _ w (Tr1 hI.k2 ha) (Tr1 hI.k2 hf_f) (Tr1 hI.k2 hq) (zfI (hI.at 905 O))) ?_
    rintro r3 w5 w6 hI5 hk56 ⟨r1, r2, rfl, hac⟩ hlow3
    obtain ⟨al1, cl1, hl1⟩ := hac.left.form
    obtain ⟨al2, cl2, hl2⟩ := hac.asked.form
    subst hl1 hl2
    have e5 : W.heap.size <= w5.heap.size := hI5.k2.size
    refine Ve 9 1 O (by kernel_rfl) O O O ?_
    refine Vd [10, 11] 1 (by kernel_rfl) O O O ?_
    refine Ve 12 1 O (by kernel_rfl) O O O ?_
    refine Vd [13] 1 (by kernel_rfl) O O O ?_
    refine VD.done (by kernel_rfl) ?_
    refine Vs 2 O ?_
    refine V.dat 910 0 O O O (hac.left) (fun q hq _ hs => by have := hlow3 q hs; omega) ?_
    refine V.dat 911 0 O O O (hac.asked) (fun q hq _ hs => by have := hlow3 q hs; omega) ?_
    refine zmU tr24 tg37 ts37 tg60 ts60 O O O O O (fun w hI => ⟨_, rfl, ⟨_, _, _, by rw [zhY]; rfl, ⟨(hI.at 910 O).1.wide zb (fun q hq => by omega), (hI.at 911 O).1.wide xT (fun q hq => by omega)⟩, (zfI (hI.at 905 O)).wide zb (fun q hq => hI.own 905 3 O O q hq)⟩, hI.k3⟩)
end Go.Proofs.YtbkhagigkglgoaaGreatDoor
namespace Go.GL
structure MI where
 i : Nat
 o : Oper
 d : Nat
 dp : List Nat
 q : Bool
 Φ : (Nat -> Value) -> Value -> Hp -> Prop
abbrev MK := Nat × Nat × List Nat × Bool
def MI.key (x : MI) : MK := (x.i, x.d, x.dp, x.q)
def zg0 (x : MK) (J : List MK) : Bool := x.2.2.1.all fun m => J.all fun y => !Nat.beq y.2.1 m
def zh8 (i : Nat) (J : List MK) : List MK := J.filter fun y => !Nat.beq y.1 i
def zhm (ops : Array Oper) (l : Array Bool) (x : MK) : Bool := x.2.2.2 && (Region.noSelect ops && Region.free .any ops l x.1 && (Region.ready .any ops l).contains x.1)
def zh9 (i : Nat) : List MK -> Option MK
 | [] => none
 | y :: r => cond (Nat.beq y.1 i) (some y) (zh9 i r)
def kP (ops : Array Oper) (L3 : Array Bool) : Nat -> List MK -> Array Bool -> Bool
 | 0, J, l => J.isEmpty && (l == L3)
 | k + 1, J, l => match J.find? (zhm ops l) with
  | some x => zg0 x J && kP ops L3 k (zh8 x.1 J) (l.setIfInBounds x.1 true)
  | none => !(Region.ready .any ops l).isEmpty && (Region.ready .any ops l).all fun j => match zh9 j J with
   | some x => !x.2.2.2 && zg0 x J && kP ops L3 k (zh8 x.1 J) (l.setIfInBounds x.1 true)
   | none => false
theorem zcX {i : Nat} : ∀ {J : List MK} {x : MK}, zh9 i J = some x -> x ∈ J /\ x.1 = i
 | [], _, h => by cases h
 | y :: r, x, h => by
  simp only [zh9] at h
  cases hb : Nat.beq y.1 i with
  | true => rw [hb] at h; cases h; exact ⟨zn4 .., zn7 hb⟩
  | false => rw [hb] at h; obtain ⟨h1, h2⟩ := zcX h; exact ⟨zn3 _ h1, h2⟩
structure Dn (w w' : World) (hx : Hp) (lo hi : Nat) : Prop where
 p0 : w.heap.size <= lo
 le : lo <= hi
 p1 : hi <= w'.heap.size
 ok : ∀ z ∈ hx, z.2.holds w' /\ z.2.loc /\ (∀ b, ¬ z.2.fz b) /\ ∀ q, z.2.S q -> lo <= q /\ q < hi
 apart : hx.Pairwise (fun x y => ∀ q, x.2.S q -> ¬ y.2.S q)
theorem Dn.ext {w w' w2 : World} {hx : Hp} {lo hi : Nat} (h : Dn w w' hx lo hi) (hk : Ext w' w2) : Dn w w2 hx lo hi :=
 ⟨h.p0, h.le, zn6 h.p1 hk.size, fun z hz => by
  obtain ⟨h1, h2, h3, h4⟩ := h.ok z hz
  exact ⟨HE.keep h1 h2 hk (fun _ _ h => h) (fun _ _ h => h), h2, h3, h4⟩, h.apart⟩
theorem zaS {w w' : World} {hx : Hp} (h : Hands [] [] hx w w') : Ext w w' := h.keep.mono fun q _ ⟨x, hx, _⟩ => by cases hx
theorem Dn.of {w a a' : World} {hx : Hp} (hk : Ext w a) (h : Hands [] [] hx a a') : Dn w a' hx a.heap.size a'.heap.size :=
 ⟨hk.size, (zaS h).size, zno _, fun z hz => by
  obtain ⟨h1, h2, h3, h4⟩ := h.ok z hz
  refine ⟨h1, h2, h3, fun q hq => ⟨?_, (h4 q hq).2⟩⟩
  rcases (h4 q hq).1 with ⟨x, hx, _⟩ | h5
  . cases hx
  ·
   exact h5, h.apart⟩
theorem zcY : ∀ H : Hp, yw [] H = H
 | [] => rfl
 | x :: r => by show x :: yw [] r = x :: r; rw [zcY r]
theorem zg1 {Bs : yc} {H : Hp} {w w' : World} {hn : Nat -> Hp} {lo hi : Nat -> Nat} (hI : VI Bs H w) (hk : Ext w w') (K : List Nat) (hnd : K.Nodup) (hd : ∀ m ∈ K, Dn w w' (hn m) (lo m) (hi m)) (hap : ∀ m ∈ K, ∀ m' ∈ K, m ≠ m' -> hi m <= lo m' \/ hi m' <= lo m) : VI Bs (K.flatMap hn ++ H) w' := by
 have hh : Hands H [] (K.flatMap hn) w w' := by
  refine ⟨hk.mono fun q _ h => h.elim, fun z hz => ?_, ?_⟩
  ·
   obtain ⟨m, hm, hz⟩ := List.mem_flatMap.1 hz
   obtain ⟨h1, h2, h3, h4⟩ := (hd m hm).ok z hz
   exact ⟨h1, h2, h3, fun q hq => ⟨.inr (zn6 (hd m hm).p0 (h4 q hq).1), Nat.lt_of_lt_of_le (h4 q hq).2 (hd m hm).p1⟩⟩
  ·
   clear hI
   induction K with
   | nil => exact List.Pairwise.nil
   | cons m r ih =>
    rw [List.nodup_cons] at hnd
    rw [List.flatMap_cons]
    refine List.pairwise_append.2 ⟨(hd m (zn4 ..)).apart, ih hnd.2 (fun x hx => hd x (zn3 _ hx)) (fun x hx y hy => hap x (zn3 _ hx) y (zn3 _ hy)), fun x hx y hy q hq hq' => ?_⟩
    obtain ⟨m', hm', hy⟩ := List.mem_flatMap.1 hy
    have g1 := ((hd m (zn4 ..)).ok x hx).2.2.2 q hq
    have g2 := ((hd m' (zn3 _ hm')).ok y hy).2.2.2 q hq'
    rcases hap m (zn4 ..) m' (zn3 _ hm') (fun e => hnd.1 (e ▸ hm')) with h | h <;> omega
 have := hI.hands hh
 rw [zcY] at this
 exact this
theorem zg2 {env : Env} {val : Nat -> Value} : ∀ (D : List Nat) (m : Nat) (v : Value), get (D.map (fun d => (d, val d)) ++ env) m = some v -> (m ∈ D /\ v = val m) \/ get env m = some v
 | [], _, _, h => .inr h
 | d :: r, m, v, h => by
  rw [List.map_cons, List.cons_append] at h
  simp only [GL.get] at h
  cases hb : Nat.beq d m with
  | true =>
   rw [hb] at h
   have e := zn7 hb
   subst e
   exact .inl ⟨zn4 .., (Option.some.inj h).symm⟩
  | false =>
   rw [hb] at h
   rcases zg2 r m v h with ⟨h1, h2⟩ | h1
   . exact .inl ⟨zn3 _ h1, h2⟩
   . exact .inr h1
section
variable {P : Program} {n : Nat} {Q : Exit -> Act -> World -> Prop} {ks : List Fr} {env : Env} {A : Tgs} {H Hs : Hp} {Bs B0 : yc} {ops : Array Oper} {L : List Nat} {fuel : Nat} {listed : Array Bool}
abbrev MI.Ds (I : List MI) (x : MI) (val : Nat -> Value) (hn : Nat -> Hp) : Prop := ∀ y ∈ I, y.d ∈ x.dp -> y.Φ val (val y.d) (hn y.d)
theorem zi9 {I : List MI} {x : MI} {J : List MI} (_ : (I.map (·.d)).Nodup) (_ : ∀ y ∈ J, y ∈ I) (h : zg0 x.key (J.map MI.key) = true) {y : MI} (_ : y ∈ I) (hd : y.d ∈ x.dp) : y ∉ J := by
 intro hyJ
 unfold zg0 at h
 rw [List.all_eq_true] at h
 have := h y.d hd
 rw [List.all_eq_true] at this
 have := this y.key (List.mem_map.2 ⟨y, hyJ, rfl⟩)
 simp [MI.key, Nat.beq_refl] at this
theorem zmB (j : Nat) (I : List MI) (L3 : Array Bool) (hI : ∀ x ∈ I, ops[x.i]? = some x.o /\ x.o.guard = none /\ x.o.dst = some x.d /\ Nat.blt x.d n = true /\ get env x.d = none /\ ∀ m ∈ x.dp, m ∈ I.map (·.d))
  (hnd : (I.map (·.d)).Nodup) (hni : (I.map (·.i)).Nodup) (hdp : ∀ x ∈ I, x.dp.Nodup) (hr : kP ops L3 I.length (I.map MI.key) listed = true) (hB : Bs.drop j = B0) (hu : qr (Hs.map (·.1)) = true)
  (hΦ : ∀ x ∈ I, ∀ val val' v hx, (∀ m ∈ x.dp, val m = val' m) -> x.Φ val v hx -> x.Φ val' v hx)
  (hc : ∀ x ∈ I, x.q = false -> ∀ val hn, x.Ds I val hn -> ∀ w, VI Bs (x.dp.flatMap hn ++ H) w -> Does P x.o (x.dp.map (fun m => (m, val m)) ++ env) w (fun v w' => ∃ hx, x.Φ val v hx /\ Hands [] [] hx w w'))
  (hq : ∀ x ∈ I, x.q = true -> ∀ val hn, x.Ds I val hn -> ∃ v, x.Φ val v [] /\ ∀ w, yo P x.o (x.dp.map (fun m => (m, val m)) ++ env) w v w)
  (h : ∀ val hn, (∀ x ∈ I, x.Φ val (val x.d) (hn x.d)) -> Hs.map (fun y => zo ((I.map (·.d)).flatMap hn ++ H) y.1) = Hs.map (fun y => some y.2) /\ VD P n Q ks ops Hs B0 L fuel L3 (I.map (fun x => (x.d, val x.d)) ++ env) [] ((I.map (·.d)).flatMap hn ++ H) Bs) :
  VD P n Q ks ops Hs B0 L (fuel + I.length) listed env A H Bs := by
 subst hB
 intro hH _ w hw
 have key : ∀ (k : Nat) (J : List MI) (listed : Array Bool) (env' : Env) (w' : World) (val : Nat -> Value) (hn : Nat -> Hp) (lo hi : Nat -> Nat), (∀ x ∈ J, x ∈ I) -> kP ops L3 k (J.map MI.key) listed = true -> Ext w w' -> Sub env env' ->
   (∀ x ∈ I, x ∉ J -> get env' x.d = some (val x.d) /\ x.Φ val (val x.d) (hn x.d) /\ Dn w w' (hn x.d) (lo x.d) (hi x.d) /\ ∀ m ∈ x.dp, ∀ y ∈ I, y.d = m -> y ∉ J) -> (∀ x ∈ I, x ∉ J -> ∀ y ∈ I, y ∉ J -> x.d ≠ y.d -> hi x.d <= lo y.d \/ hi y.d <= lo x.d) ->
   WD P n ops (QK P Q ks) (VI (Bs.drop j) Hs) L (fuel + k) listed env' w' := by
  intro k
  induction k with
  | zero =>
   intro J listed env' w' val hn lo hi hJ ho hE hsub hdone hap
   rw [kP, Bool.and_eq_true, List.isEmpty_iff, List.map_eq_nil_iff] at ho
   obtain ⟨rfl, ho⟩ := ho
   have e : listed = L3 := by simpa using ho
   rw [e]
   have hall : ∀ x ∈ I, x ∉ ([] : List MI) := fun x _ => by simp
   obtain ⟨g1, g2⟩ := h val hn fun x hx => (hdone x hx (hall x hx)).2.1
   have hVI : VI Bs ((I.map (·.d)).flatMap hn ++ H) w' := zg1 hw hE _ hnd (fun m hm => by
    obtain ⟨x, hx, rfl⟩ := List.mem_map.1 hm
    exact (hdone x hx (hall x hx)).2.2.1) (fun m hm m' hm' hne => by
    obtain ⟨x, hx, rfl⟩ := List.mem_map.1 hm
    obtain ⟨y, hy, rfl⟩ := List.mem_map.1 hm'
    exact hap x hx (hall x hx) y hy (hall y hy) hne)
   refine (g2 (zl0 g1) TgOk.nil w' hVI).sub ?_
   intro m v hv
   have hv' : get (I.map (fun x => (x.d, val x.d)) ++ env) m = some v := hv
   rw [show (I.map fun x => (x.d, val x.d)) = (I.map (·.d)).map (fun d => (d, val d)) by rw [List.map_map]; rfl] at hv'
   rcases zg2 _ m v hv' with ⟨h1, h2⟩ | h1
   ·
    obtain ⟨x, hx, rfl⟩ := List.mem_map.1 h1
    rw [h2]; exact (hdone x hx (hall x hx)).1
   . exact hsub m v h1
  | succ k ih =>
   intro J listed env' w' val hn lo hi hJ ho hE hsub hdone hap
   have one : ∀ x ∈ J, zg0 x.key (J.map MI.key) = true -> kP ops L3 k (zh8 x.i (J.map MI.key)) (listed.setIfInBounds x.i true) = true ->
     (Sub (x.dp.map (fun m => (m, val m)) ++ env) env' /\ x.Ds I val hn /\ VI Bs (x.dp.flatMap hn ++ H) w') /\
     ∀ v w2 hx, x.Φ val v hx -> Hands [] [] hx w' w2 -> WD P n ops (QK P Q ks) (VI (Bs.drop j) Hs) L (fuel + k) (listed.setIfInBounds x.i true) ((x.d, v) :: env') w2 := by
    intro x hx hmd hmo
    have hxI := hJ x hx
    have hdn : ∀ m ∈ x.dp, ∃ y ∈ I, y.d = m /\ y ∉ J := fun m hm => by
     obtain ⟨y, hy, e⟩ := List.mem_map.1 ((hI x hxI).2.2.2.2.2 m hm)
     exact ⟨y, hy, e, zi9 hnd hJ hmd hy (by rw [e]; exact hm)⟩
    refine ⟨⟨?_, fun y hy hd => (hdone y hy (zi9 hnd hJ hmd hy hd)).2.1, zg1 (lo := lo) (hi := hi) hw hE _ (hdp x hxI) (fun m hm => ?_) (fun m hm m' hm' hne => ?_)⟩, ?_⟩
    ·
     intro m v hv
     rcases zg2 _ m v hv with ⟨h1, h2⟩ | h1
     ·
      obtain ⟨y, hy, e, hyJ⟩ := hdn m h1
      rw [h2, <- e]; exact (hdone y hy hyJ).1
     . exact hsub m v h1
    ·
     obtain ⟨y, hy, e, hyJ⟩ := hdn m hm
     rw [<- e]; exact (hdone y hy hyJ).2.2.1
    ·
     obtain ⟨y, hy, e, hyJ⟩ := hdn m hm
     obtain ⟨z, hz, e', hzJ⟩ := hdn m' hm'
     rw [<- e, <- e']; exact hap y hy hyJ z hz hzJ (by rw [e, e']; exact hne)
    ·
     intro v w2 hx2 hv hh
     have k2 := zaS hh
     have hne : ∀ y ∈ I, y ∉ J -> y.d ≠ x.d := fun y hy hyJ e => hyJ (by rw [qA hnd hy hxI e]; exact hx)
     have hmem : ∀ z ∈ I, z ∉ J.filter (fun y => !Nat.beq y.i x.i) -> z = x \/ z ∉ J := by
      intro z hz hz2
      by_cases hzJ : z ∈ J
      ·
       left
       cases e : Nat.beq z.i x.i with
       | true => exact qA hni hz hxI (zn7 e)
       | false => exact absurd (List.mem_filter.2 ⟨hzJ, by simp [e]⟩) hz2
      . exact .inr hzJ
     have hval : ∀ z ∈ I, (z = x \/ z ∉ J) -> ∀ m ∈ z.dp, val m = (if m = x.d then v else val m) := by
      intro z hz hzc m hm
      by_cases e : m = x.d
      ·
       exfalso
       rcases hzc with rfl | hzJ
       ·
        obtain ⟨y, hy, e', hyJ⟩ := hdn m hm
        exact hne y hy hyJ (e'.trans e)
       . exact (hdone z hz hzJ).2.2.2 m hm x hxI e.symm hx
      . rw [zna e]
     refine ih (J.filter (fun y => !Nat.beq y.i x.i)) (listed.setIfInBounds x.i true) ((x.d, v) :: env') w2 (fun m => if m = x.d then v else val m) (fun m => if m = x.d then hx2 else hn m) (fun m => if m = x.d then w'.heap.size else lo m) (fun m => if m = x.d then w2.heap.size else hi m) (fun z hz => hJ z (List.mem_filter.1 hz).1) ?_ (hE.ext k2) ?_ ?_ ?_
     ·
      have := hmo
      unfold zh8 at this
      rw [List.filter_map] at this
      exact this
     ·
      intro m u hu2
      simp only [GL.get]
      cases hb : Nat.beq x.d m with
      | true =>
       have e := zn7 hb
       rw [<- e, (hI x hxI).2.2.2.2.1] at hu2
       cases hu2
      | false => exact hsub m u hu2
     ·
      intro z hz hz2
      have hzc := hmem z hz hz2
      have hdz : ∀ m ∈ z.dp, ∀ y ∈ I, y.d = m -> y ∉ J.filter (fun y => !Nat.beq y.i x.i) := by
       intro m hm y hy e hyf
       have hyJ := (List.mem_filter.1 hyf).1
       rcases hzc with rfl | hzJ
       . exact zi9 hnd hJ hmd hy (by rw [e]; exact hm) hyJ
       . exact (hdone z hz hzJ).2.2.2 m hm y hy e hyJ
      rcases hzc with rfl | hzJ
      ·
       refine ⟨by simp [GL.get, Nat.beq_refl], ?_, ?_, hdz⟩
       ·
        simp only [if_true]
        exact hΦ _ hxI _ _ _ _ (hval _ hxI (.inl O)) hv
       ·
        simp only [if_true]
        exact Dn.of hE hh
      ·
       have hzd := hne z hz hzJ
       simp only [hzd, if_false]
       obtain ⟨g1, g2, g3, g4⟩ := hdone z hz hzJ
       refine ⟨?_, hΦ z hz _ _ _ _ (hval z hz (.inr hzJ)) g2, g3.ext k2, hdz⟩
       simp only [GL.get]
       cases hb : Nat.beq x.d z.d with
       | true => exact absurd (zn7 hb).symm hzd
       | false => exact g1
     ·
      intro z hz hz2 y hy hy2 hzy
      rcases hmem z hz hz2 with rfl | hzJ <;> rcases hmem y hy hy2 with rfl | hyJ
      . exact absurd O hzy
      ·
       simp only [hne y hy hyJ, if_false, if_true]
       exact .inr (hdone y hy hyJ).2.2.1.p1
      ·
       simp only [hne z hz hzJ, if_false, if_true]
       exact .inl (hdone z hz hzJ).2.2.1.p1
      ·
       simp only [hne z hz hzJ, hne y hy hyJ, if_false]
       exact hap z hz hzJ y hy hyJ hzy
   have hfind : ∀ y ∈ J.map MI.key, ∃ x ∈ J, x.key = y := fun y hy => by
    obtain ⟨x, hx, e⟩ := List.mem_map.1 hy
    exact ⟨x, hx, e⟩
   rw [kP] at ho
   split at ho
   ·
    rename_i y hy
    obtain ⟨x, hx, rfl⟩ := hfind y (List.mem_of_find?_eq_some hy)
    have hqx := List.find?_some hy
    unfold zhm at hqx
    rw [Bool.and_eq_true] at hqx
    rw [Bool.and_eq_true] at ho
    obtain ⟨⟨g1, g2, _⟩, g3⟩ := one x hx ho.1 ho.2
    obtain ⟨q1, q2, q3, q4, _⟩ := hI x (hJ x hx)
    obtain ⟨v, hv, hrun⟩ := hq x (hJ x hx) hqx.1 val hn g2
    exact zlu x.i q1 hqx.2 q3 q4 (.inl ⟨fun a _ => by simp [Region.wanted, q2], fun w3 m a ha => hrun w3 m a (ha.sub g1)⟩) (g3 v w' [] hv ⟨Keep.refl _ _, fun z hz => (by cases hz), List.Pairwise.nil⟩)
   ·
    intro a ha
    rw [Bool.and_eq_true, List.all_eq_true] at ho
    refine ⟨fun h0 => (by rw [h0] at ho; simp at ho), fun i hi => ?_⟩
    have h1 := ho.2 i hi
    split at h1
    ·
     rename_i y hy
     obtain ⟨h2, h3⟩ := zcX hy
     obtain ⟨x, hx, rfl⟩ := hfind y h2
     have h3 : x.i = i := h3
     subst h3
     rw [Bool.and_eq_true, Bool.and_eq_true, Bool.not_eq_true'] at h1
     obtain ⟨⟨g1, g2, g4⟩, g3⟩ := one x hx h1.1.2 h1.2
     obtain ⟨q1, q2, q3, q4, _⟩ := hI x (hJ x hx)
     refine zeX q1 q2 q3 ha ((hc x (hJ x hx) h1.1.1 val hn g2 w' g4).sub g1) ?_
     rintro v w2 ⟨hx2, hv, hh⟩
     have k2 := zaS hh
     exact ⟨fun _ _ => ((hw.ext (hE.ext k2)).drop j).pick hH hu, g3 v w2 hx2 hv hh _ (ha.put q4)⟩
    . cases h1
 exact key I.length I listed env w (fun _ => undef) (fun _ => []) (fun _ => 0) (fun _ => 0) (fun x hx => hx) hr (Keep.refl _ _) (Sub.refl _) (fun x hx h => absurd hx h) (fun x hx h => absurd hx h)
theorem zmV (A1 : Tgs) (hA1 : A1.map (fun p => zd2 env p.1) = A1.map (fun p => jv H p.2)) (hA2 : A1.all (fun p => (jv H p.2).isSome) = true) (h : VD P n Q ks ops Hs B0 L fuel listed env A1 H Bs) : VD P n Q ks ops Hs B0 L fuel listed env A H Bs := fun hH _ w hI => h hH (zl1 hA1 hA2) w hI
end
abbrev Ph := (Nat -> Value) -> Value -> Hp -> Prop
abbrev Psi := Nat -> Ph
def psi : List (Nat × Ph) -> Psi
 | [], _ => fun _ _ _ => False
 | (k, f) :: r, m => match Nat.beq k m with
  | true => f
  | false => psi r m
def zaT (Ψ : Psi) (val : Nat -> Value) (hn : Nat -> Hp) : List Nat -> Prop
 | [] => True
 | m :: r => Ψ m val (val m) (hn m) /\ zaT Ψ val hn r
def zg3 (val : Nat -> Value) : List Nat -> Env -> Env
 | [], env => env
 | m :: r, env => (m, val m) :: zg3 val r env
def hpD (hn : Nat -> Hp) : List Nat -> Hp -> Hp
 | [], H => H
 | m :: r, H => hn m ++ hpD hn r H
theorem zaU (val : Nat -> Value) (env : Env) : ∀ D : List Nat, zg3 val D env = D.map (fun m => (m, val m)) ++ env
 | [] => rfl
 | m :: r => by rw [zg3, zaU val env r]; rfl
theorem zed (hn : Nat -> Hp) (H : Hp) : ∀ D : List Nat, hpD hn D H = D.flatMap hn ++ H
 | [] => rfl
 | m :: r => by rw [hpD, zed hn H r, List.flatMap_cons, List.append_assoc]
theorem dpAll_iff {Ψ : Psi} {val : Nat -> Value} {hn : Nat -> Hp} : ∀ {D : List Nat}, zaT Ψ val hn D ↔ ∀ m ∈ D, Ψ m val (val m) (hn m)
 | [] => by simp [zaT]
 | m :: r => by simp only [zaT, List.forall_mem_cons]; rw [dpAll_iff]
def zbf : List Nat -> Bool
 | [] => true
 | x :: r => r.all (fun y => !Nat.beq x y) && zbf r
theorem jS : ∀ {l : List Nat}, zbf l = true -> l.Nodup
 | [], _ => List.Pairwise.nil
 | x :: r, h => by
  rw [zbf, Bool.and_eq_true, List.all_eq_true] at h
  refine List.nodup_cons.2 ⟨fun hx => ?_, jS h.2⟩
  have := h.1 x hx
  simp [Nat.beq_refl] at this
def ziJ (I : List MK) (env : Env) : Bool := zbf (I.map (·.2.1)) && zbf (I.map (·.1)) && I.all fun x => (get env x.2.1).isNone && zbf x.2.2.1 && x.2.2.1.all fun m => (I.map (·.2.1)).any fun y => Nat.beq y m
section
variable {P : Program} {n : Nat} {Q : Exit -> Act -> World -> Prop} {ks : List Fr} {env : Env} {A : Tgs} {H Hs : Hp} {Bs B0 : yc} {ops : Array Oper} {L : List Nat} {fuel : Nat} {listed : Array Bool} {Ψ : Psi}
def MP (P : Program) (n : Nat) (ops : Array Oper) (env : Env) (H : Hp) (Bs : yc) (Ψ : Psi) (x : MK) : Prop := ∃ o, (ops[x.1]? = some o /\ o.guard = none /\ o.dst = some x.2.1 /\ Nat.blt x.2.1 n = true) /\ (∀ val val' v hx, (∀ m ∈ x.2.2.1, val m = val' m) -> Ψ x.2.1 val v hx -> Ψ x.2.1 val' v hx) /\
 (x.2.2.2 = false -> ∀ val hn, zaT Ψ val hn x.2.2.1 -> ∀ w, VI Bs (hpD hn x.2.2.1 H) w -> Does P o (zg3 val x.2.2.1 env) w (fun v w' => ∃ hx, Ψ x.2.1 val v hx /\ Hands [] [] hx w w')) /\
 (x.2.2.2 = true -> ∀ val hn, zaT Ψ val hn x.2.2.1 -> ∃ v, Ψ x.2.1 val v [] /\ ∀ w, yo P o (zg3 val x.2.2.1 env) w v w)
def MPs (P : Program) (n : Nat) (ops : Array Oper) (env : Env) (H : Hp) (Bs : yc) (Ψ : Psi) : List MK -> Prop
 | [] => True
 | x :: r => MP P n ops env H Bs Ψ x /\ MPs P n ops env H Bs Ψ r
theorem MPs.all : ∀ {I : List MK}, MPs P n ops env H Bs Ψ I -> ∀ x ∈ I, MP P n ops env H Bs Ψ x
 | y :: r, h, x, hx => by
  rcases zng.1 hx with rfl | hx
  . exact h.1
  . exact MPs.all h.2 x hx
theorem zmW {i d : Nat} {dp : List Nat} {op : Op} {ty : TypeId} {ps : String} {aft : Array Edge} (hi : ops[i]? = some ⟨some d, op, ty, ps, aft, none⟩) (hb : Nat.blt d n = true) (hΦ : ∀ val val' v hx, (∀ m ∈ dp, val m = val' m) -> Ψ d val v hx -> Ψ d val' v hx)
  (hc : ∀ val hn, zaT Ψ val hn dp -> ∀ w, VI Bs (hpD hn dp H) w -> Does P ⟨some d, op, ty, ps, aft, none⟩ (zg3 val dp env) w (fun v w' => ∃ hx, Ψ d val v hx /\ Hands [] [] hx w w')) : MP P n ops env H Bs Ψ (i, d, dp, false) :=
 ⟨_, ⟨hi, rfl, rfl, hb⟩, hΦ, fun _ => hc, fun h => by cases h⟩
theorem zkp {i d : Nat} {dp : List Nat} {op : Op} {ty : TypeId} {ps : String} {aft : Array Edge} (hi : ops[i]? = some ⟨some d, op, ty, ps, aft, none⟩) (hb : Nat.blt d n = true) (hΦ : ∀ val val' v hx, (∀ m ∈ dp, val m = val' m) -> Ψ d val v hx -> Ψ d val' v hx)
  (hc : ∀ val hn, zaT Ψ val hn dp -> ∃ v, Ψ d val v [] /\ ∀ w, yo P ⟨some d, op, ty, ps, aft, none⟩ (zg3 val dp env) w v w) : MP P n ops env H Bs Ψ (i, d, dp, true) :=
 ⟨_, ⟨hi, rfl, rfl, hb⟩, hΦ, fun h => Bool.noConfusion h, fun _ => hc⟩
theorem Does.new {o : Oper} {w : World} {f : Nat -> Value} {cs : List Value} {e : TypeId} (K : Nat) (h : yz P o env w (fun u w' => ∃ b, u = f b /\ New w cs e b w')) : Does P o env w (fun v w' => ∃ hx, (∃ b, v = f b /\ hx = [(K, HE.own b cs e)]) /\ Hands [] [] hx w w') := by
 obtain ⟨v, w', hr, b, rfl, h1, h2, h3, h4⟩ := h
 refine .inl ⟨_, w', hr, _, ⟨b, rfl, rfl⟩, h4.mono fun q _ h => h.elim, fun z hz => ?_, List.pairwise_singleton _ _⟩
 rw [zni] at hz
 subst hz
 exact ⟨h3, trivial, fun _ h => h, fun q hq => by have hq : q = b := hq; exact ⟨.inr (by omega), by omega⟩⟩
theorem kw {H : Hp} {f : FuncId} {args : Array Value} {w : World} {α : Type} {Φ : Value -> α -> Prop} {Hn : α -> Hp} (hc : Calls P f args w (Ret fun r w' => ∃ y, Φ r y /\ Hands H [] (Hn y) w w')) : Calls P f args w (Ret fun r w' => ∃ hx, (∃ y, Φ r y /\ hx = Hn y) /\ Hands [] [] hx w w') := by
 refine hc.mono ?_
 rintro _ w' ⟨r, rfl, y, h1, h2⟩
 refine ⟨r, rfl, _, ⟨y, h1, rfl⟩, h2.keep.mono fun q _ ⟨x, _, h, _⟩ => by simp [zd0] at h, fun z hz => ?_, h2.apart⟩
 obtain ⟨g1, g2, g3, g4⟩ := h2.ok z hz
 refine ⟨g1, g2, g3, fun q hq => ⟨.inr ?_, (g4 q hq).2⟩⟩
 rcases (g4 q hq).1 with ⟨x, _, h, _⟩ | h
 . simp [zd0] at h
 . exact h
theorem zmX (fuel j : Nat) (I : List MK) (Ψ : Psi) (hr : kP ops (zc3 (I.map (·.1)) listed) I.length I listed = true) (hs : ziJ I env = true) (hB : Bs.drop j = B0) (hu : qr (Hs.map (·.1)) = true) (hM : MPs P n ops env H Bs Ψ I)
  (h : ∀ val hn, zaT Ψ val hn (I.map (·.2.1)) -> Hs.map (fun y => zo (hpD hn (I.map (·.2.1)) H) y.1) = Hs.map (fun y => some y.2) /\ VD P n Q ks ops Hs B0 L fuel (zc3 (I.map (·.1)) listed) (zg3 val (I.map (·.2.1)) env) [] (hpD hn (I.map (·.2.1)) H) Bs) :
  VD P n Q ks ops Hs B0 L (fuel + I.length) listed env A H Bs := by
 unfold ziJ at hs
 simp only [Bool.and_eq_true, List.all_eq_true, List.any_eq_true, Option.isNone_iff_eq_none] at hs
 obtain ⟨⟨s1, s2⟩, s3⟩ := hs
 let mk : MK -> MI := fun x => ⟨x.1, (ops[x.1]?).getD ⟨none, .nilCheck (.tmp 0), 0, "", #[], none⟩, x.2.1, x.2.2.1, x.2.2.2, Ψ x.2.1⟩
 have e1 : (I.map mk).map (·.d) = I.map (·.2.1) := by rw [List.map_map]; rfl
 have e2 : (I.map mk).map (·.i) = I.map (·.1) := by rw [List.map_map]; rfl
 have e3 : (I.map mk).map MI.key = I := by rw [List.map_map]; exact List.map_id'' (fun x => rfl) I
 have e4 : (I.map mk).length = I.length := znk ..
 have hds : ∀ x ∈ I, ∀ val hn, MI.Ds (I.map mk) (mk x) val hn -> zaT Ψ val hn x.2.2.1 := fun x hx val hn hD => dpAll_iff.2 fun m hm => by
  obtain ⟨y, hy, he⟩ := (s3 x hx).2 m hm
  obtain ⟨z, hz, rfl⟩ := List.mem_map.1 hy
  have he := zn7 he
  have := hD (mk z) (List.mem_map.2 ⟨z, hz, rfl⟩) (by show z.2.1 ∈ x.2.2.1; rw [he]; exact hm)
  rw [<- he]
  exact this
 rw [<- e4]
 refine zmB j (I.map mk) (zc3 (I.map (·.1)) listed) ?_ (by rw [e1]; exact jS s1) (by rw [e2]; exact jS s2) ?_ (by rw [e3, e4]; exact hr) hB hu ?_ ?_ ?_ ?_
 ·
  intro y hy
  obtain ⟨x, hx, rfl⟩ := List.mem_map.1 hy
  obtain ⟨o, ⟨h1, h2, h3, h4⟩, _⟩ := hM.all x hx
  have ho : (mk x).o = o := by show (ops[x.1]?).getD _ = o; rw [h1]; rfl
  refine ⟨by rw [ho]; exact h1, by rw [ho]; exact h2, by rw [ho]; exact h3, h4, (s3 x hx).1.1, fun m hm => ?_⟩
  rw [e1]
  obtain ⟨z, hz, he⟩ := (s3 x hx).2 m hm
  rw [<- zn7 he]; exact hz
 ·
  intro y hy
  obtain ⟨x, hx, rfl⟩ := List.mem_map.1 hy
  exact jS (s3 x hx).1.2
 ·
  intro y hy
  obtain ⟨x, hx, rfl⟩ := List.mem_map.1 hy
  obtain ⟨o, _, h2, _⟩ := hM.all x hx
  exact h2
 ·
  intro y hy hq val hn hD w hw
  obtain ⟨x, hx, rfl⟩ := List.mem_map.1 hy
  obtain ⟨o, ⟨h1, _⟩, _, h3, _⟩ := hM.all x hx
  have ho : (mk x).o = o := by show (ops[x.1]?).getD _ = o; rw [h1]; rfl
  have := h3 hq val hn (hds x hx val hn hD) w (by rw [zed]; exact hw)
  rw [zaU] at this
  rw [ho]; exact this
 ·
  intro y hy hq val hn hD
  obtain ⟨x, hx, rfl⟩ := List.mem_map.1 hy
  obtain ⟨o, ⟨h1, _⟩, _, _, h4⟩ := hM.all x hx
  have ho : (mk x).o = o := by show (ops[x.1]?).getD _ = o; rw [h1]; rfl
  have := h4 hq val hn (hds x hx val hn hD)
  rw [zaU] at this
  rw [ho]; exact this
 ·
  intro val hn hall
  have := h val hn (dpAll_iff.2 fun m hm => by
   obtain ⟨x, hx, rfl⟩ := List.mem_map.1 hm
   exact hall (mk x) (List.mem_map.2 ⟨x, hx, rfl⟩))
  rw [zed, zaU] at this
  rw [e1]
  refine ⟨this.1, ?_⟩
  rw [show (I.map mk).map (fun x => (x.d, val x.d)) = (I.map (·.2.1)).map (fun m => (m, val m)) by rw [List.map_map, List.map_map]; rfl]
  exact this.2
def phA (K : Nat) (cs : List Value) (t : TypeId) : Ph := fun _ v hx => ∃ b, v = .pointer (some ⟨b, 0, none⟩) /\ hx = [(K, .own b cs t)]
def phB (m K : Nat) (cs : List Value) (t : TypeId) : Ph := fun _ v hx => ∃ b, v = .slice (some ⟨b, 0, none⟩) m m /\ hx = [(K, .own b cs t)]
def phM (s : Nat) : Ph := fun val v hx => v = val s /\ hx = []
def phX (s j : Nat) : Ph := fun val v hx => (∃ a, val s = .tuple a /\ a[j]? = some v) /\ hx = []
theorem MP.alloc (K : Nat) {i d : Nat} {e : TypeId} {ty : TypeId} {ps : String} {aft : Array Edge} {z : Value} {cs : List Value} (hi : ops[i]? = some ⟨some d, .alloc e, ty, ps, aft, none⟩) (hb : Nat.blt d n = true) (hz : ∀ w, (zeroValue e).run P w = .ok z w) (hc : z.cells = cs.toArray) (hΨ : Ψ d = phA K cs e) : MP P n ops env H Bs Ψ (i, d, [], false) :=
 zmW hi hb (fun val val' v hx _ h => by rw [hΨ] at h ⊢; exact h) fun val hn _ w _ => by rw [hΨ]; exact Does.new K (M.alloc hz hc)
theorem zmY (K : Nat) {i d : Nat} {t e : TypeId} {len kk : Nat} {parts : Array (Nat × Operand)} {ty : TypeId} {ps : String} {aft : Array Edge} {z : Value} {cs : List Value} (vs : List (Nat × Value)) (hi : ops[i]? = some ⟨some d, .buildSlice t len parts, ty, ps, aft, none⟩) (hb : Nat.blt d n = true) (hu : ∀ w, (underlying t).run P w = .ok (.slice e) w) (hs : ∀ w, (sizeOf e).run P w = .ok kk w) (hz : ∀ w, (zeroValue e).run P w = .ok z w)
  (hlen : len * kk ≠ 0 /\ len * kk <= 16777216) (hp : parts.toList.map (fun p => (p.1, ev [] p.2)) = vs.map (fun p => (p.1, some p.2))) (hΨ : Ψ d = phB len K cs e) (hf : Instr.fill (fun i => some (i * kk, kk)) ((Array.range (len * kk)).map (z.cells[· % z.cells.size]!)) vs = some cs.toArray) : MP P n ops env H Bs Ψ (i, d, [], false) :=
 zmW hi hb (fun val val' v hx _ h => by rw [hΨ] at h ⊢; exact h) fun val hn _ w _ => by
  rw [hΨ]
  have h : Does P ⟨some d, .buildSlice t len parts, ty, ps, aft, none⟩ [] w (fun v w' => ∃ hx, phB len K cs e val v hx /\ Hands [] [] hx w w') := Does.new K (M.buildSlice vs hu hs hz hlen hp hf)
  exact h.sub (fun m v hv => by cases hv)
theorem MP.move (s : Nat) {i d : Nat} {ty : TypeId} {ps : String} {aft : Array Edge} (hi : ops[i]? = some ⟨some d, .move (.tmp s), ty, ps, aft, none⟩) (hb : Nat.blt d n = true) (hΨ : Ψ d = phM s) : MP P n ops env H Bs Ψ (i, d, [s], true) :=
 zkp hi hb (fun val val' v hx hd h => by rw [hΨ] at h ⊢; exact ⟨h.1.trans (hd s (List.mem_singleton_self s)), h.2⟩) fun val hn _ => ⟨val s, by rw [hΨ]; exact ⟨rfl, rfl⟩, fun w => R.move (by show get ((s, val s) :: env) s = _; simp only [GL.get, Nat.beq_refl]; rfl)⟩
theorem MP.ext (s j : Nat) {i d : Nat} {dp : List Nat} {ty : TypeId} {ps : String} {aft : Array Edge} (hi : ops[i]? = some ⟨some d, .extract (.tmp s) j, ty, ps, aft, none⟩) (hb : Nat.blt d n = true) (hΨ : Ψ d = phX s j) (hs : s ∈ dp) (hg : ∀ val, get (zg3 val dp env) s = some (val s)) (h : ∀ val hn, zaT Ψ val hn dp -> ∃ a c, val s = .tuple a /\ a[j]? = some c) : MP P n ops env H Bs Ψ (i, d, dp, true) :=
 zkp hi hb (fun val val' v hx hd h => by rw [hΨ] at h ⊢; obtain ⟨⟨a, h1, h2⟩, h3⟩ := h; exact ⟨⟨a, by rw [<- hd s hs]; exact h1, h2⟩, h3⟩) fun val hn hD => by
  obtain ⟨a, c, h1, h2⟩ := h val hn hD
  exact ⟨c, by rw [hΨ]; exact ⟨⟨a, h1, h2⟩, rfl⟩, fun w => R.extract (show get (zg3 val dp env) s = _ by rw [hg, h1]) h2⟩
theorem exq {v0 v c : Value} {a : Array Value} {j : Nat} (h : ∃ a, v0 = .tuple a /\ a[j]? = some v) (q : v0 = .tuple a) (hc : a[j]? = some c) : v = c := by
 obtain ⟨b, h1, h2⟩ := h
 rw [q] at h1
 cases h1
 rw [h2] at hc
 exact Option.some.inj hc
theorem yu {m : Nat} {v v' : Value} {l l' : List (Nat × Value)} (h : v = v') (h2 : l = l') : (m, v) :: l = (m, v') :: l' := by rw [h, h2]
theorem qn {a b c d : Hp} (h : a = b) (h2 : c = d) : a ++ c = b ++ d := by rw [h, h2]
theorem zmZ {val : Nat -> Value} {hn : Nat -> Hp} {D : List Nat} (A1 : Tgs) (vals : List (Nat × Value)) (Hn : Hp) (he : D.map (fun m => (m, val m)) = vals) (hh : D.flatMap hn = Hn) (h1 : Hs.map (fun y => zo (Hn ++ H) y.1) = Hs.map (fun y => some y.2)) (hA1 : A1.map (fun p => zd2 (vals ++ env) p.1) = A1.map (fun p => jv (Hn ++ H) p.2)) (hA2 : A1.all (fun p => (jv (Hn ++ H) p.2).isSome) = true)
  (h : VD P n Q ks ops Hs B0 L fuel listed (vals ++ env) A1 (Hn ++ H) Bs) :
  Hs.map (fun y => zo (hpD hn D H) y.1) = Hs.map (fun y => some y.2) /\ VD P n Q ks ops Hs B0 L fuel listed (zg3 val D env) [] (hpD hn D H) Bs := by
 rw [zaU, zed]
 subst he hh
 exact ⟨h1, zmV A1 hA1 hA2 h⟩
end
end Go.GL
namespace Go.Proofs.YtbkhagigkglgoaaGreatDoor
open Go.GL
def zia : Tm := .mk 24 0 []
def zib : Tm := .mk 24 1 []
def zj2 : Tm := .mk 13 0 [zia, zib]
def ziK : St := .mk 1 0 0 0 zj2 [] [] []
def exF51 : Fl := ⟨[⟨⟨#[120]⟩, 1, 0, 3, 0⟩, ⟨⟨#[103]⟩, 2, 0, 3, 0⟩], [], [ziK]⟩
theorem zic {D : Nat -> Prop} {w : World} {s : St} {b : Nat} {cs : List Value} {t : TypeId} (hB : Blk w b cs t) (hD : D b) (hl : cs.length = 10) (h : RSt D w s cs) : SlR 10 RSt D w (.slice (some ⟨b, 0, none⟩) 1 1) [s] :=
 zkv hB hD rfl (zno _) (by decide) (fun i x hx => by
  cases i with
  | zero => simp at hx; subst hx; exact ⟨cs, hl, fun j u hu => by simpa using hu, h⟩
  | succ i => simp at hx)
theorem zid {D : Nat -> Prop} {w : World} {b3 b6 b9 b11 : Nat} {t3 t6 t9 t11 : TypeId} (d3 : D b3) (d6 : D b6) (d9 : D b9) (d11 : D b11) (h3 : Blk w b3 [.string ⟨#[120]⟩, .int .i64 1, .int .i64 0, .int .i64 3, .int .i64 0, .string ⟨#[103]⟩, .int .i64 2, .int .i64 0, .int .i64 3, .int .i64 0] t3) (h6 : Blk w b6 [.int .i64 24, .int .i64 0, .slice none 0 0, .int .i64 24, .int .i64 1, .slice none 0 0] t6)
  (h9 : Blk w b9 [.int .i64 1, .int .i64 0, .int .i64 0, .int .i64 0, .int .i64 13, .int .i64 0, .slice (some ⟨b6, 0, none⟩) 2 2, .slice none 0 0, .slice none 0 0, .slice none 0 0] t9) (h11 : Blk w b11 [.slice (some ⟨b3, 0, none⟩) 2 2, .slice none 0 0, .slice (some ⟨b9, 0, none⟩) 1 1] t11) : SlR 3 RPg D w (.slice (some ⟨b11, 0, none⟩) 1 1) [exF51] := by
 have k6 : SlR 3 RTm D w (.slice (some ⟨b6, 0, none⟩) 2 2) [zia, zib] := zkv h6 d6 rfl (zno _) (by decide) fun i x hx => by
  match i, hx with
  | 0, hx => cases hx; exact ⟨[.int .i64 24, .int .i64 0, .slice none 0 0], rfl, fun j u hu => by
    match j, hu with
    | 0, hu => exact hu
    | 1, hu => exact hu
    | 2, hu => exact hu
    | j + 3, hu => simp at hu, RTm.put (t := zia) SlR.nil⟩
  | 1, hx => cases hx; exact ⟨[.int .i64 24, .int .i64 1, .slice none 0 0], rfl, fun j u hu => by
    match j, hu with
    | 0, hu => exact hu
    | 1, hu => exact hu
    | 2, hu => exact hu
    | j + 3, hu => simp at hu, RTm.put (t := zib) SlR.nil⟩
  | i + 2, hx => simp at hx
 have k9 := zic h9 d9 rfl (RSt.put (s := ziK) (v1 := .slice (some ⟨b6, 0, none⟩) 2 2) k6 SlR.nil SlR.nil SlR.nil)
 have k3 : SlR 5 RVr D w (.slice (some ⟨b3, 0, none⟩) 2 2) exF51.vars := zkv h3 d3 rfl (zno _) (by decide) (fun i x hx => by
  match i, hx with
  | 0, hx => cases hx; exact ⟨[.string ⟨#[120]⟩, .int .i64 1, .int .i64 0, .int .i64 3, .int .i64 0], rfl, fun j u hu => by
    match j, hu with
    | 0, hu => exact hu
    | 1, hu => exact hu
    | 2, hu => exact hu
    | 3, hu => exact hu
    | 4, hu => exact hu
    | j + 5, hu => simp at hu, rfl⟩
  | 1, hx => cases hx; exact ⟨[.string ⟨#[103]⟩, .int .i64 2, .int .i64 0, .int .i64 3, .int .i64 0], rfl, fun j u hu => by
    match j, hu with
    | 0, hu => exact hu
    | 1, hu => exact hu
    | 2, hu => exact hu
    | 3, hu => exact hu
    | 4, hu => exact hu
    | j + 5, hu => simp at hu, rfl⟩
  | i + 2, hx => simp [exF51] at hx)
 exact zkv h11 d11 O (zno _) (by decide) (fun i x hx => by
  match i, hx with
  | 0, hx => cases hx; exact ⟨_, rfl, fun j u hu => by
    match j, hu with
    | 0, hu => exact hu
    | 1, hu => exact hu
    | 2, hu => exact hu
    | j + 3, hu => simp at hu, _, _, _, rfl, ⟨k3, SlR.nil, k9⟩⟩
  | i + 1, hx => simp at hx)
theorem qF (W : World) : Calls Tryz.prog 41 #[] W (Ret fun r w' => SlR 3 RPg (fun b => W.heap.size <= b) w' r [exF51] /\ Ext W w') := by
 refine zlp Tryz.func41 O Tryz.ntmps41 (zlC ?_)
 refine Vs 7 O ?_
 refine zme [Value.string { data := #[] }, Value.int IntKind.i64 0, Value.int IntKind.i64 0, Value.int IntKind.i64 0, Value.int IntKind.i64 0] [(0, 1), (1, 1), (2, 1), (3, 1), (4, 1)] [(0, _), (1, _), (3, _)] O O (fun _ => by kernel_rfl) ?_
 refine zme [Value.string { data := #[] }, Value.int IntKind.i64 0, Value.int IntKind.i64 0, Value.int IntKind.i64 0, Value.int IntKind.i64 0] [(0, 1), (1, 1), (2, 1), (3, 1), (4, 1)] [(0, _), (1, _), (3, _)] O O (fun _ => by kernel_rfl) ?_
 refine zm8 3 [(0, _), (1, _)] tR52 ts120 tz120 (by decide) O O (by kernel_rfl) (fun b3 => ?_)
 refine zme [Value.int IntKind.i64 0, Value.int IntKind.i64 0, Value.slice none 0 0] [(0, 1), (1, 1), (2, 1)] [(0, _)] O O (fun _ => by kernel_rfl) ?_
 refine zme [Value.int IntKind.i64 0, Value.int IntKind.i64 0, Value.slice none 0 0] [(0, 1), (1, 1), (2, 1)] [(0, _), (1, _)] O O (fun _ => by kernel_rfl) ?_
 refine zm8 6 [(0, _), (1, _)] tR130 ts132 tz132 (by decide) O O (by kernel_rfl) (fun b6 => ?_)
 refine zme [Value.int IntKind.i64 0, Value.int IntKind.i64 0, Value.slice none 0 0] [(0, 1), (1, 1), (2, 1)] [(0, _), (2, _)] O O (fun _ => by kernel_rfl) ?_
 refine zme [Value.int IntKind.i64 0, Value.int IntKind.i64 0, Value.int IntKind.i64 0, Value.int IntKind.i64 0, Value.int IntKind.i64 0, Value.int IntKind.i64 0, Value.slice none 0 0, Value.slice none 0 0, Value.slice none 0 0, Value.slice none 0 0] [(0, 1), (1, 1), (2, 1), (3, 1), (4, 3), (7, 1), (8, 1), (9, 1)] [(0, _), (4, _)] O O (fun _ => by kernel_rfl) ?_
 refine zm8 9 [(0, _)] tR54 ts134 tz134 (by decide) O O (by kernel_rfl) (fun b9 => ?_)
 refine zme [Value.slice none 0 0, Value.slice none 0 0, Value.slice none 0 0] [(0, 1), (1, 1), (2, 1)] [(0, _), (2, _)] O O (fun _ => by kernel_rfl) ?_
 refine zm8 11 [(0, _)] tR23 ts56 tz56 (by decide) O O (by kernel_rfl) (fun b11 => ?_)
 refine Vs 4 O ?_
 refine zjI Tryz.results41 O (fun w hI => ⟨_, rfl, zid (hI.own 3 0 O O _ O) (hI.own 6 0 O O _ O) (hI.own 9 0 O O _ O) (hI.own 11 0 O O _ O) (hI.at 3 O) (hI.at 6 O) (hI.at 9 O) (hI.at 11 O), hI.k0⟩)
def kA0 : Ac := zgf 0 4 4
def kR (a : Ac) (g : Int) : Res := zcI a [exF51] (0, [g]) 3
def kA1 : Ac := ⟨0, 4, 2, [0, 2, 3], [(0, [1])]⟩
def kA2 : Ac := ⟨0, 4, 4, [0, 3], [(0, [1]), (0, [2])]⟩
theorem zee : kA0 = ⟨0, 4, 1, [0, 1, 2, 3], []⟩ := by decide +kernel
theorem zj3 : (kR kA0 1).code = 0 := by decide +kernel
theorem zj4 : (kR kA0 1).ac = kA1 := by decide +kernel
theorem zj5 : (kR kA0 1).charge = 2 := by decide +kernel
theorem zj6 : (kR kA0 1).ob.1 = [0] := by decide +kernel
theorem zj7 : (kR kA0 1).answer = 0 := by decide +kernel
theorem kr_2 : (kR kA1 2).code = 0 /\ (kR kA1 2).ac = kA2 := by decide +kernel
theorem kr_3 : (kR kA2 0).code = 18 := by decide +kernel
def kR1 : Res := ⟨kA1, 0, 2, ([0], (kR kA0 1).ob.2), 0⟩
def kR2 : Res := ⟨kA2, (kR kA1 2).answer, (kR kA1 2).charge, (kR kA1 2).ob, 0⟩
def kR3 : Res := ⟨(kR kA2 0).ac, (kR kA2 0).answer, (kR kA2 0).charge, (kR kA2 0).ob, 18⟩
theorem zdz {r : Res} {a : Ac} {x c : Int} {o : Ob} {k : Int} (h1 : r.ac = a) (h2 : r.answer = x) (h3 : r.charge = c) (h4 : r.ob = o) (h5 : r.code = k) : r = ⟨a, x, c, o, k⟩ := by subst h1 h2 h3 h4 h5; rfl
theorem ziL : kR kA0 1 = kR1 := zdz zj4 zj7 zj5 (Prod.ext zj6 rfl) zj3
theorem ziM : kR kA1 2 = kR2 := zdz kr_2.2 rfl rfl rfl kr_2.1
theorem ziN : kR kA2 0 = kR3 := zdz rfl rfl rfl rfl kr_3
theorem kB0 : AcB kA0 := by rw [zee]; exact ⟨by decide, by decide, by decide⟩
theorem kB1 : AcB kA1 := ⟨by decide, by decide, by decide⟩
theorem kB2 : AcB kA2 := ⟨by decide, by decide, by decide⟩
theorem kSz : SzOk exF51 := ⟨by decide, by decide⟩
end Go.Proofs.YtbkhagigkglgoaaGreatDoor
namespace Go.GL
section
variable {P : Program} {n : Nat} {Q : Exit -> Act -> World -> Prop} {ks : List Fr} {pos : Pos} {env : Env} {A : Tgs} {H : Hp} {Bs : yc}
theorem V.mrg (k k2 : Nat) {e e2 e' : HE} (A1 : Tgs) (hn : (zo H k, zo H k2) = (some e, some e2))
  (hA1 : A1.map (fun p => zd2 env p.1) = A1.map (fun p => jv ((k, e') :: yw [k, k2] H) p.2)) (hA2 : A1.all (fun p => (jv ((k, e') :: yw [k, k2] H) p.2).isSome) = true)
  (he : ∀ w, VI Bs H w -> e'.holds w) (hl : e'.loc) (hz : ∀ b, ¬ e'.fz b) (hS : ∀ q, e'.S q -> e.S q \/ e2.S q) (h : V P n Q ks pos env A1 ((k, e') :: yw [k, k2] H) Bs) : V P n Q ks pos env A H Bs := by
 simp only [Prod.mk.injEq] at hn
 refine fun _ w hI => h (zl1 hA1 hA2) w (hI.hands (Hn := [(k, e')]) ⟨Keep.refl _ _, fun x hx => ?_, List.pairwise_singleton _ _⟩)
 rw [zni] at hx
 subst hx
 have i1 : ∀ q, e.S q -> InS H [k, k2] q := fun q hq => ⟨_, zm hn.1, by simp [zd0, Nat.beq_refl], hq⟩
 have i2 : ∀ q, e2.S q -> InS H [k, k2] q := fun q hq => ⟨_, zm hn.2, by simp [zd0, Nat.beq_refl], hq⟩
 refine ⟨he w hI, hl, hz, fun q hq => ?_⟩
 rcases hS q hq with h1 | h1
 . exact ⟨.inl (i1 q h1), hI.low _ (zm hn.1) q h1⟩
 . exact ⟨.inl (i2 q h1), hI.low _ (zm hn.2) q h1⟩
end
section
variable {P : Program} {n : Nat} {Q : Exit -> Act -> World -> Prop} {ks : List Fr} {env : Env} {A : Tgs} {H Hs : Hp} {Bs B0 : yc} {ops : Array Oper} {L : List Nat} {fuel : Nat} {listed : Array Bool}
theorem VD.skip (i j : Nat) {d : Nat} {op : Op} {ty : TypeId} {ps : String} {aft : Array Edge} {g : Option (Nat × Bool)} (hi : ops[i]? = some ⟨some d, op, ty, ps, aft, g⟩) (hr : Region.ready .any ops listed = [i]) (hn : (Nat.blt d n, gd ops env g, qr (Hs.map (·.1))) = (true, some false, true)) (hB : Bs.drop j = B0)
  (h : VD P n Q ks ops Hs B0 L fuel (listed.setIfInBounds i true) ((d, undef) :: env) ((d, none) :: A) H Bs) : VD P n Q ks ops Hs B0 L (fuel + 1) listed env A H Bs := by
 simp only [Prod.mk.injEq] at hn
 subst hB
 refine fun hH hA w hI => WD.skip i hi hr (xO hn.2.1) O hn.1 ((hI.drop j).pick hH hn.2.2) (h hH hA.none w hI)
end
theorem RAc.stable {D D' : Nat -> Prop} {w w' : World} {a : Ac} {v1 v2 : Value} (h : RAc D w a v1 v2) (hD : ∀ b, D b -> D' b) (hk : ∀ b, D b -> b < w.heap.size -> w'.heap[b]? = w.heap[b]?) : RAc D' w' a v1 v2 := ⟨h.left.stable zb hD hk, h.asked.stable xT hD hk⟩
abbrev AcP (F : Nat -> Prop) (a : Ac) (v1 v2 : Value) : HE := .res F (fun w => RAc F w a v1 v2)
abbrev AcD (F : Nat -> Prop) (a : Ac) (v1 v2 : Value) : HE := .dat F (fun w => RAc F w a v1 v2)
theorem AcP.loc {F : Nat -> Prop} {a : Ac} {v1 v2 : Value} : (AcP F a v1 v2).loc := fun _ _ _ hx hk hT => hx.stable (fun _ h => h) (fun b hb hlt => hk.block b hlt (hT b hlt hb))
theorem AcD.loc {F : Nat -> Prop} {a : Ac} {v1 v2 : Value} : (AcD F a v1 v2).loc := fun _ _ _ hx hk hT => hx.stable (fun _ h => h) (fun b hb hlt => hk.block b hlt (hT b hb))
end Go.GL
namespace Go.Proofs.YtbkhagigkglgoaaGreatDoor
open Go.GL
abbrev Y5 := Option Addr × Nat × Option Addr × Nat × (Nat -> Prop)
abbrev acY (F : Nat -> Prop) (a : Ac) (y : Y5) : HE := AcP F a (.slice y.1 a.left.length y.2.1) (.slice y.2.2.1 a.asked.length y.2.2.2.1)
theorem zg4 {H : Hp} {kk : List Nat} {f : FuncId} {args : Array Value} {A : Ac × Int} {w : World} (k : Nat) (hc : Calls Tryz.prog f args w (Ret fun r w' => (∃ r1 r2, r = .tuple #[.agg #[.int .i64 A.1.mode, .int .i64 A.1.budget, .int .i64 A.1.spent, r1, r2], .int .i64 A.2] /\ RAc (fun b => w.heap.size <= b) w' A.1 r1 r2) /\ Ext w w')) :
  Calls Tryz.prog f args w (Ret fun r w' => ∃ y : Y5, r = .tuple #[.agg #[.int .i64 A.1.mode, .int .i64 A.1.budget, .int .i64 A.1.spent, .slice y.1 A.1.left.length y.2.1, .slice y.2.2.1 A.1.asked.length y.2.2.2.1], .int .i64 A.2] /\ Hands H kk [(k, acY y.2.2.2.2 A.1 y)] w w') := by
 refine hc.mono ?_
 rintro _ w' ⟨_, rfl, ⟨r1, r2, rfl, hd⟩, hk⟩
 obtain ⟨a1, c1, h1⟩ := hd.left.form
 obtain ⟨a2, c2, h2⟩ := hd.asked.form
 subst h1 h2
 refine ⟨_, rfl, (a1, c1, a2, c2, fun b => w.heap.size <= b /\ b < w'.heap.size), rfl, hk.mono fun q _ h => h.elim, fun x hx => ?_, List.pairwise_singleton _ _⟩
 rw [zni] at hx
 subst hx
 exact ⟨hd.narrow, AcP.loc, fun _ h => h, fun q hq => ⟨.inr hq.1, hq.2⟩⟩
theorem zhn {H : Hp} {kk : List Nat} {f : FuncId} {args : Array Value} {A : Ac} {m b s : Int} {w : World} (k : Nat) (hc : Calls Tryz.prog f args w (Ret fun r w' => (∃ r1 r2, r = .agg #[.int .i64 m, .int .i64 b, .int .i64 s, r1, r2] /\ RAc (fun b => w.heap.size <= b) w' A r1 r2) /\ Ext w w')) :
  Calls Tryz.prog f args w (Ret fun r w' => ∃ y : Y5, r = .agg #[.int .i64 m, .int .i64 b, .int .i64 s, .slice y.1 A.left.length y.2.1, .slice y.2.2.1 A.asked.length y.2.2.2.1] /\ Hands H kk [(k, acY y.2.2.2.2 A y)] w w') := by
 refine hc.mono ?_
 rintro _ w' ⟨_, rfl, ⟨r1, r2, rfl, hd⟩, hk⟩
 obtain ⟨a1, c1, h1⟩ := hd.left.form
 obtain ⟨a2, c2, h2⟩ := hd.asked.form
 subst h1 h2
 refine ⟨_, rfl, (a1, c1, a2, c2, fun b => w.heap.size <= b /\ b < w'.heap.size), rfl, hk.mono fun q _ h => h.elim, fun x hx => ?_, List.pairwise_singleton _ _⟩
 rw [zni] at hx
 subst hx
 exact ⟨hd.narrow, AcP.loc, fun _ h => h, fun q hq => ⟨.inr hq.1, hq.2⟩⟩
theorem zl2 {a : Ac} (hv : ValidA a) (h1 : a.asked.length <= 100000) (h2 : ∀ p ∈ a.asked, p.2.length <= 17592186044416) : AcB a := ⟨by have := hv.l2; omega, h1, h2⟩
theorem zg5 (a : Ac) (hA : AcB a) (hv : ValidA a) (ps : List Fl) (hz : ∀ f ∈ ps, SzOk f) (r : Rc) (u1 u2 pv : Value) (D D1 : Nat -> Prop) (W : World) (ha : RAc D W a u1 u2) (hps : SlR 3 RPg D1 W pv ps) (ht : Tab W) :
  Calls Tryz.prog 70 #[.agg #[.int .i64 a.mode, .int .i64 a.budget, .int .i64 a.spent, u1, u2], pv, .agg #[.int .i64 r.x0, .int .i64 r.x1, .int .i64 r.x2, .int .i64 r.x3, .int .i64 r.x4, .int .i64 r.prog, .int .i64 r.pub, .int .i64 r.ans, .int .i64 r.charge]] W (Ret fun r' w' => (∃ r1 r2, r' = .tuple #[.agg #[.int .i64 (kr a ps r).1.mode, .int .i64 (kr a ps r).1.budget, .int .i64 (kr a ps r).1.spent, r1, r2], .int .i64 (kr a ps r).2] /\ RAc (fun b => W.heap.size <= b) w' (kr a ps r).1 r1 r2) /\ Ext W w') := by
 obtain ⟨a1, c1, h1⟩ := ha.left.form
 obtain ⟨a2, c2, h2⟩ := ha.asked.form
 subst h1 h2
 obtain ⟨ap, cp, rfl⟩ := hps.form
 have hmp := hps.max
 obtain ⟨x0, x1, x2, x3, x4, qp, pub, an, chg⟩ := r
 dsimp only at *
 refine zls Tryz.func70 O Tryz.ntmps70 O (zlC ?_)
 refine Vs 2 O ?_
 refine V.box 3 O O (fun b3 => ?_)
 refine V.box 5 O O (fun b5 => ?_)
 refine V.alloc 6 tz37 O O (fun b6 => ?_)
 refine Vs 5 O ?_
 refine zm6 (σ := Unit) [1, 3, 5, 6] [3, 5, 6] [3, 5, 6] O (fun e u => (25, .bool (decide (qp < 0 \/ (ps.length : Int) <= qp))) :: e) (fun e u => e) (fun u => True) (fun _ => rfl) (fun _ => rfl) ?_ ?_
 ·
  refine Vs 5 O ?_
  refine zld 19 O (fun k1_ => ?_) (fun k1_ => ?_)
  ·
   refine Vs 7 O ?_
   refine zjE (()) (Sub.cons (by first | exact yI (by omega) | exact yJ (by omega) | exact yK (by omega)) (zkZ O)) (zl0 O) (trivial) 0 O O
  ·
   refine Vs 7 O ?_
   refine zjE (()) (Sub.cons (by first | exact yI (by omega) | exact yJ (by omega) | exact yK (by omega)) (zkZ O)) (zl0 O) (trivial) 0 O O
 rintro u _
 refine Vs 1 O ?_
 refine zjo O (fun q0 => ?_) (fun q0 => ?_)
 ·
  rw [zh0 q0]
  refine Vs 2 O ?_
  refine zme [Value.int IntKind.i64 0, Value.int IntKind.i64 0, Value.int IntKind.i64 0, Value.slice none 0 0, Value.slice none 0 0] [(0, 1), (1, 1), (2, 1), (3, 1), (4, 1)] [] O O (fun _ => by kernel_rfl) ?_
  refine Vs 6 O ?_
  refine zjT tr70 tg37 ts37 O O O O (fun w hI => ⟨_, rfl, ⟨_, _, rfl, ⟨SlR.nil, SlR.nil⟩⟩, hI.k0⟩)
 ·
  obtain ⟨k, rfl⟩ : ∃ k : Nat, qp = (k : Int) := ⟨qp.toNat, by omega⟩
  refine Vs 7 O ?_
  obtain ⟨f, he_f, hm_f⟩ := gE_ ps (k) (by omega)
  obtain ⟨b_f, o_f, c_f, ha_f, _, hc_f, hR_f⟩ := hps.at he_f
  obtain ⟨v1_f, v2_f, v3_f, rfl, hf_f⟩ := hR_f
  obtain ⟨a1_f, n1_f, rfl⟩ := hf_f.vars.form
  obtain ⟨a2_f, n2_f, rfl⟩ := hf_f.hatches.form
  obtain ⟨a3_f, n3_f, rfl⟩ := hf_f.body.form
  refine zm1 1000 0 O O hc_f ?_
  refine zlK 1000 tR23 ts56 O ha_f (by omega) (_) (rfl) O ?_
  have hzf := hz f hm_f
  rw [zfS he_f rfl]
  refine Vs 1 O ?_
  refine V.alloc 8 tz56 O O (fun b8 => ?_)
  refine Vs 7 O ?_
  refine zlT Tryz.call95 O (fun w hI => jR f hzf _ _ _ D1 w (Tr1 hI.k0 hf_f)) ?_
  refine Vs 9 O ?_
  refine zjo O (fun c0 => ?_) (fun c0 => ?_)
  ·
   rw [zfU c0]
   refine Vs 2 O ?_
   refine zme [Value.int IntKind.i64 0, Value.int IntKind.i64 0, Value.int IntKind.i64 0, Value.slice none 0 0, Value.slice none 0 0] [(0, 1), (1, 1), (2, 1), (3, 1), (4, 1)] [] O O (fun _ => by kernel_rfl) ?_
   refine Vs 7 O ?_
   refine zjT tr70 tg37 ts37 O O O O (fun w hI => ⟨_, rfl, ⟨_, _, rfl, ⟨SlR.nil, SlR.nil⟩⟩, hI.k0⟩)
  ·
   have c0 := zn9.1 c0
   obtain ⟨vd, hr3⟩ := zaM hzf c0
   have hvl := vd.lens
   have hul := xB (zd 2 f.vars) pub
   have hok := yA 2 f.vars
   refine Vs 8 O ?_
   refine zlV Tryz.call86 O (fun w hI => kN f.vars 2 pub _ D1 w (by decide) vd.good (by omega) (Tr1 hI.k0 hf_f.vars)) ?_
   rintro rr w1 w2 hI1 hk12 ⟨u, rfl, hu0, hu1⟩ hlow
   have e1 : W.heap.size <= w1.heap.size := hI1.k0.size
   refine Vs 14 O ?_
   refine zjo O (fun p0 => ?_) (fun p0 => ?_)
   ·
    rw [zi4 c0 p0, zi3 vd.ok p0]
    refine Vs 2 O ?_
    refine zme [Value.int IntKind.i64 0, Value.int IntKind.i64 0, Value.int IntKind.i64 0, Value.slice none 0 0, Value.slice none 0 0] [(0, 1), (1, 1), (2, 1), (3, 1), (4, 1)] [] O O (fun _ => by kernel_rfl) ?_
    refine Vs 7 O ?_
    refine zjT tr70 tg37 ts37 O O O O (fun w hI => ⟨_, rfl, ⟨_, _, rfl, ⟨SlR.nil, SlR.nil⟩⟩, hI.k1⟩)
   ·
    have p0 := zn9.1 p0
    have hu := hu1 p0
    obtain ⟨au, cu, rfl⟩ := hu.form
    refine V.dat 905 0 O O O (hu) (fun q hq _ hs => by have := hlow q hs; omega) ?_
    refine Vs 8 O ?_
    refine zlT Tryz.call65 O (fun w hI => zaN f vd a.left _ _ _ _ D1 D w (Tr1 hI.k1 hf_f) (Tr1 hI.k1 ha.left)) ?_
    refine zlh O (fun w hI => zkJ O (by first | exact za | rfl)) ?_
    refine Vs 2 O ?_
    refine zjo O (fun i0 => ?_) (fun i0 => ?_)
    ·
     rw [zi5 c0 p0 i0]
     refine Vs 2 O ?_
     refine zme [Value.int IntKind.i64 0, Value.int IntKind.i64 0, Value.int IntKind.i64 0, Value.slice none 0 0, Value.slice none 0 0] [(0, 1), (1, 1), (2, 1), (3, 1), (4, 1)] [] O O (fun _ => by kernel_rfl) ?_
     refine Vs 6 O ?_
     refine zjT tr70 tg37 ts37 O O O O (fun w hI => ⟨_, rfl, ⟨_, _, rfl, ⟨SlR.nil, SlR.nil⟩⟩, hI.k1⟩)
    ·
     have i0 := zn9.1 i0
     have b1 := hv.b1
     have b2 := hv.b2
     have s1 := hv.s1
     have s2 := hv.s2
     have hal := zbU f
     have hsp := ze7 vd
     generalize hq : (zD (zd 2 f.vars) pub).1 = qu at *
     have hrq : kq f ⟨x0, x1, x2, x3, x4, (k : Int), pub, an, chg⟩ = ((k : Int), qu) := by unfold kq; rw [<- hq]
     refine Vs 7 O ?_
     refine zme [Value.int IntKind.i64 0, Value.slice none 0 0] [(0, 1), (1, 1)] [(0, _), (1, _)] O O (fun _ => by kernel_rfl) ?_
     refine V.alloc 12 tz33 O O (fun b12 => ?_)
     refine Vs 9 O ?_
     refine zlT Tryz.call46 O (fun w hI => zaR a hA.ll f vd ((k : Int), qu) _ _ _ _ _ _ D D1 _ w (Tr1 hI.k1 ha) (Tr1 hI.k1 hf_f) (hI.at 905 O).1 (Tr1 hI.k1 ht)) ?_
     refine Vs 4 O ?_
     refine zm6 (σ := Unit) [3, 5, 6, 8, 10, 12] [3, 5, 6, 8, 12, 905] [3, 5, 6, 8, 12] O (fun e u => (76, .bool (decide (chg ≠ zK a f ((k : Int), qu) \/ a.budget.tdiv a.spent < zK a f ((k : Int), qu)))) :: e) (fun e u => e) (fun u => True) (fun _ => rfl) (fun _ => rfl) ?_ ?_
     ·
      refine Vs 6 O ?_
      refine zld 68 O (fun g0 => ?_) (fun g0 => ?_)
      ·
       refine Vs 9 O ?_
       refine zjE (()) (Sub.cons (by first | exact yI (by omega) | exact yJ (by omega) | exact yK (by omega)) (zkZ O)) (zl0 O) (trivial) 0 O O
      ·
       refine Vs 5 O ?_
       refine zlh O (fun w hI => R.quo O O (by omega) (by omega)) ?_
       refine Vs 3 O ?_
       refine zjE (()) (Sub.cons (by first | exact yI (by omega) | exact yJ (by omega) | exact yK (by omega)) (zkZ O)) (zl0 O) (trivial) 0 O O
     rintro u _
     refine Vs 1 O ?_
     refine zjo O (fun g0 => ?_) (fun g0 => ?_)
     ·
      rw [zi6 c0 p0 i0 (by rw [hrq]; exact g0)]
      refine Vs 2 O ?_
      refine zme [Value.int IntKind.i64 0, Value.int IntKind.i64 0, Value.int IntKind.i64 0, Value.slice none 0 0, Value.slice none 0 0] [(0, 1), (1, 1), (2, 1), (3, 1), (4, 1)] [] O O (fun _ => by kernel_rfl) ?_
      refine Vs 6 O ?_
      refine zjT tr70 tg37 ts37 O O O O (fun w hI => ⟨_, rfl, ⟨_, _, rfl, ⟨SlR.nil, SlR.nil⟩⟩, hI.k1⟩)
     ·
      have hpp := zaL (q := ((k : Int), qu)) hv i0
      have hcg : chg = zK a f ((k : Int), qu) := by omega
      have hsn := jn (b := a.budget) (s := a.spent) (p := zK a f ((k : Int), qu)) (by omega) s1 (by omega)
      have hsn0 : 0 <= a.spent * zK a f ((k : Int), qu) := znu (by omega) (by omega)
      refine Vs 3 O ?_
      refine Vw [3, 5, 6, 8, 12] [] O ?_
      refine Vd [0, 1, 2] 0 (by kernel_rfl) O O O ?_
      refine zlW 3 0 Tryz.call52 O (by kernel_rfl) O O (fun w hI => zfE f vd _ _ _ D1 w (Tr1 hI.k1 hf_f)) ?_
      rintro r1 w3 w4 hI3 hk34 hall hlow2
      obtain ⟨al, cl, rfl⟩ := hall.form
      refine zlW 4 1 Tryz.call51 O (by kernel_rfl) O O (fun w hI => qj f vd qu (ko f) _ _ _ _ _ D1 _ _ w (by omega) (Tr1 hI.k2 hf_f) (hI.at 905 O).1 (hall.keep zb hI.k0 (fun b hb _ hs => by have := hlow2 b hs; omega)) (Tr1 hI.k2 ht)) ?_
      rintro r2 w5 w6 hI5 hk56 hobs hlow3
      obtain ⟨ao, co, rfl⟩ := hobs.form
      have hob0 := hobs
      have hmo := hobs.max
      refine Vd [5] 2 (by kernel_rfl) O O O ?_
      refine VD.done (by kernel_rfl) ?_
      refine Vs 3 O ?_
      refine V.dat 906 0 O O O (hobs) (fun q hq _ hs => by have := hlow3 q hs; omega) ?_
      refine zm6 (σ := Unit) [3, 5, 6, 8, 12, 14] [3, 5, 6, 8, 12, 905, 906] [3, 5, 6, 8, 12] O (fun e u => (92, .bool (decide (an < 0 \/ ((ze2 f qu (ko f)).length : Int) <= an))) :: e) (fun e u => e) (fun u => True) (fun _ => rfl) (fun _ => rfl) ?_ ?_
      ·
       refine Vs 5 O ?_
       refine zld 86 O (fun k1_ => ?_) (fun k1_ => ?_)
       ·
        refine Vs 7 O ?_
        refine zjE (()) (Sub.cons (by first | exact yI (by omega) | exact yJ (by omega) | exact yK (by omega)) (zkZ O)) (zl0 O) (trivial) 0 O O
       ·
        refine Vs 7 O ?_
        refine zjE (()) (Sub.cons (by first | exact yI (by omega) | exact yJ (by omega) | exact yK (by omega)) (zkZ O)) (zl0 O) (trivial) 0 O O
      rintro u _
      refine Vs 1 O ?_
      refine zjo O (fun n0 => ?_) (fun n0 => ?_)
      ·
       rw [zh2 c0 p0 i0 (by rw [hrq]; exact g0) (by rw [hrq]; exact n0)]
       refine Vs 2 O ?_
       refine zme [Value.int IntKind.i64 0, Value.int IntKind.i64 0, Value.int IntKind.i64 0, Value.slice none 0 0, Value.slice none 0 0] [(0, 1), (1, 1), (2, 1), (3, 1), (4, 1)] [] O O (fun _ => by kernel_rfl) ?_
       refine Vs 6 O ?_
       refine zjT tr70 tg37 ts37 O O O O (fun w hI => ⟨_, rfl, ⟨_, _, rfl, ⟨SlR.nil, SlR.nil⟩⟩, hI.k3⟩)
      ·
       obtain ⟨j, rfl⟩ : ∃ j : Nat, an = (j : Int) := ⟨an.toNat, by omega⟩
       obtain ⟨o, he_o, hm_o⟩ := gE_ (ze2 f qu (ko f)) (j) (by omega)
       obtain ⟨b_o, o_o, c_o, ha_o, hd_o, hc_o, hR_o⟩ := hob0.atD he_o
       obtain ⟨v1_o, rfl, hs_o⟩ := hR_o
       obtain ⟨a1_o, n1_o, rfl⟩ := hs_o.form
       refine zm2 2000 0 O O (fun h_ => by have h1_ := hlow3 _ h_; have h2_ := hd_o; first | omega | exact h1_ h2_) hc_o ?_
       have hql : qu.length <= 17592186044416 := by omega
       refine Vs 3 O ?_
       refine zm6 (σ := Nat × Y5) [6] [6, 905, 906] [6] O (fun e ⟨b15, ax, cx, ay, cy, G⟩ => (15, .pointer (some ⟨b15, 0, none⟩)) :: e) (fun e ⟨b15, ax, cx, ay, cy, G⟩ => (15, .own b15 [.int .i64 a.mode, .int .i64 a.budget, .int .i64 (a.spent * chg), .slice ax (zaZ a f ((k : Int), qu) chg o).left.length cx, .slice ay (zaZ a f ((k : Int), qu) chg o).asked.length cy] 37) :: (911, acY G (zaZ a f ((k : Int), qu) chg o) (ax, cx, ay, cy, G)) :: e) (fun ⟨b15, ax, cx, ay, cy, G⟩ => True) (fun _ => rfl) (fun _ => rfl) ?_ ?_
       ·
        refine Vw [3, 5, 6, 8, 12, 2000] [] O ?_
        refine Vd [0, 1, 2, 3, 4, 5, 6, 7] 0 (by kernel_rfl) O O O ?_
        refine zlL 8 2000 tR76 ts60 O (by kernel_rfl) O ha_o (by omega) (j) (by omega) O ?_
        refine Vd [9] 0 (by kernel_rfl) O O O ?_
        refine zmI 10 11 15 0 [] (Hn := fun y : Y5 => [(911, acY y.2.2.2.2 (zaZ a f ((k : Int), qu) chg o) y)]) [(3, some (3, 0)), (5, some (5, 0)), (6, some (6, 0)), (8, some (8, 0)), (12, some (12, 0)), (97, some (5, 8)), (100, some (5, 7)), (102, some (2000, 0))] Tryz.call55 O (by kernel_rfl) O O (fun _ => rfl) (fun _ _ => rfl) (fun _ => rfl) tz37 O (fun w hI => zhn 911 (ku a hA f vd ((k : Int), qu) hql chg ⟨by rw [hcg]; exact hsn0, by rw [hcg]; omega⟩ o _ _ _ _ _ _ _ D D1 _ _ w (Tr1 hI.k3 ha) (Tr1 hI.k3 hf_f) (hI.at 905 O).1 (hs_o.keep zb hI.k0 (fun b hb _ hs => by have := hlow3 b hs; omega)))) ?_ (fun b15 => ?_)
        ·
         rintro _ ⟨ax, cx, ay, cy, G⟩ rfl
         refine zlI 11 15 0 O (by kernel_rfl) O O (fun _ _ => M.alloc tz37 O) (fun b15 => ?_)
         refine Ve 12 0 O (by kernel_rfl) O O O ?_
         refine VD.done (by kernel_rfl) ?_
         refine zjE (⟨_, ax, cx, ay, cy, G⟩) (zkZ O) (zl0 O) (trivial) 0 O O
        ·
         refine zmo 10 0 [] (Hn := fun y : Y5 => [(911, acY y.2.2.2.2 (zaZ a f ((k : Int), qu) chg o) y)]) [(3, some (3, 0)), (5, some (5, 0)), (6, some (6, 0)), (8, some (8, 0)), (12, some (12, 0)), (15, some (15, 0)), (97, some (5, 8)), (100, some (5, 7)), (102, some (2000, 0))] Tryz.call55 O (by kernel_rfl) O O (fun _ => rfl) (fun _ _ => rfl) (fun _ => rfl) (fun w hI => zhn 911 (ku a hA f vd ((k : Int), qu) hql chg ⟨by rw [hcg]; exact hsn0, by rw [hcg]; omega⟩ o _ _ _ _ _ _ _ D D1 _ _ w (Tr1 hI.k3 ha) (Tr1 hI.k3 hf_f) (hI.at 905 O).1 (hs_o.keep zb hI.k0 (fun b hb _ hs => by have := hlow3 b hs; omega)))) ?_
         rintro _ ⟨ax, cx, ay, cy, G⟩ rfl
         refine Ve 12 0 O (by kernel_rfl) O O O ?_
         refine VD.done (by kernel_rfl) ?_
         refine zjE (⟨_, ax, cx, ay, cy, G⟩) (zkZ O) (zl0 O) (trivial) 0 O O
       rintro ⟨b15, ax, cx, ay, cy, G⟩ _
       show V _ _ _ _ _ ((15, .pointer (some ⟨b15, 0, none⟩)) :: _) _ ((15, .own b15 [.int .i64 a.mode, .int .i64 a.budget, .int .i64 (a.spent * chg), .slice ax (zaZ a f ((k : Int), qu) chg o).left.length cx, .slice ay (zaZ a f ((k : Int), qu) chg o).asked.length cy] 37) :: (911, acY G (zaZ a f ((k : Int), qu) chg o) (ax, cx, ay, cy, G)) :: _) _
       refine zlJ 15 15 0 O O ?_
       have hll : (zaZ a f ((k : Int), qu) chg o).left = yF f qu o a.left := rfl
       refine Vs 10 O ?_
       refine zjo O (fun l0 => ?_) (fun l0 => ?_)
       ·
        rw [hll] at l0
        have l1 : yF f qu o a.left = [] := List.length_eq_zero_iff.1 (by omega)
        rw [zi7 c0 p0 i0 (by rw [hrq]; exact g0) rfl (by rw [hrq]; exact he_o) (by rw [hrq]; exact l1)]
        refine Vs 2 O ?_
        refine zme [Value.int IntKind.i64 0, Value.int IntKind.i64 0, Value.int IntKind.i64 0, Value.slice none 0 0, Value.slice none 0 0] [(0, 1), (1, 1), (2, 1), (3, 1), (4, 1)] [] O O (fun _ => by kernel_rfl) ?_
        refine Vs 6 O ?_
        refine zjT tr70 tg37 ts37 O O O O (fun w hI => ⟨_, rfl, ⟨_, _, rfl, ⟨SlR.nil, SlR.nil⟩⟩, hI.k3⟩)
       ·
        have l1 : yF f qu o a.left ≠ [] := fun e => l0 (by rw [hll, e]; rfl)
        rw [zh3 c0 p0 i0 (by rw [hrq]; exact g0) rfl (by rw [hrq]; exact he_o) (by rw [hrq]; exact l1), hrq]
        refine Vs 10 O ?_
        refine zjT tr70 tg37 ts37 O O O O (fun w hI => ⟨_, rfl, ⟨_, _, rfl, (show RAc _ _ _ _ _ from hI.at 911 O).wide fun q hq => hI.own 911 3 O O q hq⟩, hI.k3⟩)
abbrev Y8 := Option Addr × Nat × Option Addr × Nat × Option Addr × Nat × (Nat -> Prop)
abbrev aoY (F : Nat -> Prop) (r : Res) (y : Y8) : HE := .res F (fun w => RAc F w r.ac (.slice y.1 r.ac.left.length y.2.1) (.slice y.2.2.1 r.ac.asked.length y.2.2.2.1) /\ SlR 1 zz F w (.slice y.2.2.2.2.1 r.ob.1.length y.2.2.2.2.2.1) r.ob.1)
abbrev PgP (F : Nat -> Prop) (v : Value) (l : List Fl) : HE := .res F (fun w => SlR 3 RPg F w v l)
theorem PgP.loc {F : Nat -> Prop} {v : Value} {l : List Fl} : (PgP F v l).loc := fun _ _ _ hx hk hT => hx.stable zaI (fun _ h => h) (fun b hb hlt => hk.block b hlt (hT b hlt hb))
theorem aoY.loc {F : Nat -> Prop} {r : Res} {y : Y8} : (aoY F r y).loc := fun _ _ _ hx hk hT => ⟨hx.1.stable (fun _ h => h) (fun b hb hlt => hk.block b hlt (hT b hlt hb)), hx.2.stable zb (fun _ h => h) (fun b hb hlt => hk.block b hlt (hT b hlt hb))⟩
theorem zg6 {H : Hp} {f : FuncId} {args : Array Value} {l : List Fl} {w : World} (k : Nat) (hc : Calls Tryz.prog f args w (Ret fun r w' => SlR 3 RPg (fun b => w.heap.size <= b) w' r l /\ Ext w w')) :
  Calls Tryz.prog f args w (Ret fun r w' => ∃ y : Option Addr × Nat × (Nat -> Prop), r = .slice y.1 l.length y.2.1 /\ Hands H [] [(k, PgP y.2.2 (.slice y.1 l.length y.2.1) l)] w w') := by
 refine hc.mono ?_
 rintro _ w' ⟨r, rfl, hd, hk⟩
 obtain ⟨ao, co, rfl⟩ := hd.form
 refine ⟨_, rfl, (ao, co, fun b => w.heap.size <= b /\ b < w'.heap.size), rfl, hk.mono fun q _ h => h.elim, fun x hx => ?_, List.pairwise_singleton _ _⟩
 rw [zni] at hx
 subst hx
 exact ⟨hd.narrow (by omega) zcF, PgP.loc, fun _ h => h, fun q hq => ⟨.inr hq.1, hq.2⟩⟩
theorem ziO {H : Hp} {f : FuncId} {args : Array Value} {R : Res} {w : World} (k : Nat) (hc : Calls Tryz.prog f args w (Ret fun r w' => (∃ r1 r2 ov, r = .tuple #[.agg #[.int .i64 R.ac.mode, .int .i64 R.ac.budget, .int .i64 R.ac.spent, r1, r2], .int .i64 R.answer, .int .i64 R.charge, .agg #[ov, .int .i64 R.ob.2], .int .i64 R.code] /\ RAc (fun b => w.heap.size <= b) w' R.ac r1 r2 /\ SlR 1 zz (fun b => w.heap.size <= b) w' ov R.ob.1) /\ Ext w w')) :
  Calls Tryz.prog f args w (Ret fun r w' => ∃ y : Y8, r = .tuple #[.agg #[.int .i64 R.ac.mode, .int .i64 R.ac.budget, .int .i64 R.ac.spent, .slice y.1 R.ac.left.length y.2.1, .slice y.2.2.1 R.ac.asked.length y.2.2.2.1], .int .i64 R.answer, .int .i64 R.charge, .agg #[.slice y.2.2.2.2.1 R.ob.1.length y.2.2.2.2.2.1, .int .i64 R.ob.2], .int .i64 R.code] /\ Hands H [] [(k, aoY y.2.2.2.2.2.2 R y)] w w') := by
 refine hc.mono ?_
 rintro _ w' ⟨_, rfl, ⟨r1, r2, ov, rfl, hd, ho⟩, hk⟩
 obtain ⟨a1, c1, h1⟩ := hd.left.form
 obtain ⟨a2, c2, h2⟩ := hd.asked.form
 obtain ⟨a3, c3, h3⟩ := ho.form
 subst h1 h2 h3
 refine ⟨_, rfl, (a1, c1, a2, c2, a3, c3, fun b => w.heap.size <= b /\ b < w'.heap.size), rfl, hk.mono fun q _ h => h.elim, fun x hx => ?_, List.pairwise_singleton _ _⟩
 rw [zni] at hx
 subst hx
 exact ⟨⟨hd.narrow, ho.narrow (by omega) yi⟩, aoY.loc, fun _ h => h, fun q hq => ⟨.inr hq.1, hq.2⟩⟩
theorem ziP {H : Hp} {m b n : Int} {A : Ac} {c : Int} {w : World} (k : Nat) (h1 : zgf m b n = A) (h2 : zge m b n = c) :
  Calls Tryz.prog 14 #[.int .i64 m, .int .i64 b, .int .i64 n] w (Ret fun r w' => ∃ y : Y5, r = .tuple #[.agg #[.int .i64 A.mode, .int .i64 A.budget, .int .i64 A.spent, .slice y.1 A.left.length y.2.1, .slice y.2.2.1 A.asked.length y.2.2.2.1], .int .i64 c] /\ Hands H [] [(k, acY y.2.2.2.2 A y)] w w') := by
 subst h1 h2
 refine zg4 (A := (zgf m b n, zge m b n)) k ((ziI m b n w).mono ?_)
 rintro _ w' ⟨_, rfl, ⟨r1, r2, rfl, hd, _⟩, hk⟩
 exact ⟨_, rfl, ⟨_, _, rfl, hd⟩, hk⟩
theorem zdA {H : Hp} (k : Nat) (a : Ac) (g : Int) (R : Res) (hg : ([g] : List Int).length <= 17592186044416) (hA : AcB a) {u1 u2 pv qv : Value} {D D1 D2 : Nat -> Prop} {w : World} (ha : RAc D w a u1 u2) (hps : SlR 3 RPg D1 w pv [exF51]) (hq : SlR 1 zz D2 w qv [g]) (ht : Tab w) (hR : kR a g = R) :
  Calls Tryz.prog 24 #[.agg #[.int .i64 a.mode, .int .i64 a.budget, .int .i64 a.spent, u1, u2], pv, .agg #[.int .i64 0, qv], .int .i64 3] w (Ret fun r w' => ∃ y : Y8, r = .tuple #[.agg #[.int .i64 R.ac.mode, .int .i64 R.ac.budget, .int .i64 R.ac.spent, .slice y.1 R.ac.left.length y.2.1, .slice y.2.2.1 R.ac.asked.length y.2.2.2.1], .int .i64 R.answer, .int .i64 R.charge, .agg #[.slice y.2.2.2.2.1 R.ob.1.length y.2.2.2.2.2.1, .int .i64 R.ob.2], .int .i64 R.code] /\ Hands H [] [(k, aoY y.2.2.2.2.2.2 R y)] w w') := by
 subst hR
 exact ziO k (zfZ a hA [exF51] (fun f hf => by rw [zni] at hf; rw [hf]; exact kSz) (0, [g]) hg 3 _ _ _ _ D D1 D2 w ha hps hq ht)
theorem zeI (W : World) (ht : Tab W) : Calls Tryz.prog 12 #[] W (Ret fun r w' => r = .bool true /\ Ext W w') := by
 refine zlp Tryz.func12 O Tryz.ntmps12 (zlC ?_)
 refine Vs 7 O ?_
 refine zmn [] (Hn := fun y : Y5 => [(901, acY y.2.2.2.2 ⟨0, 4, 1, [0, 1, 2, 3], []⟩ y)]) [] Tryz.call14 O (fun _ _ => rfl) (fun _ => rfl) (fun w hI => ziP (c := 0) 901 zee (by decide)) ?_
 rintro _ ⟨ax1, cx1, az1, cz1, G1⟩ rfl
 refine Vs 3 O ?_
 refine V.alloc 1 tz37 O O (fun b1 => ?_)
 refine Vs 5 O ?_
 refine Vw [1] [] O ?_
 refine Vd [0] 0 (by kernel_rfl) O O O ?_
 refine zmX 5 0 [(1, 24, [], false), (2, 25, [], false), (3, 26, [25], true), (4, 27, [24, 25, 26], false), (5, 22, [27], true), (6, 28, [27, 22], true), (7, 29, [27, 22], true), (8, 30, [27, 22], true), (9, 31, [27, 22], true), (10, 32, [27, 22], true), (11, 3, [], false), (12, 6, [], false)] (psi [(24, fun _ v hx => ∃ y : Option Addr × Nat × (Nat -> Prop), v = .slice y.1 1 y.2.1 /\ hx = [(921, PgP y.2.2 (.slice y.1 1 y.2.1) [exF51])]), (25, phB 1 25 [.int .i64 1] 3), (26, fun val v hx => v = Value.agg #[Value.int IntKind.i64 0, val 25] /\ hx = []), (27, fun _ v hx => ∃ y : Y8, v = .tuple #[.agg #[.int .i64 0, .int .i64 4, .int .i64 2, .slice y.1 3 y.2.1, .slice y.2.2.1 1 y.2.2.2.1], .int .i64 0, .int .i64 2, .agg #[.slice y.2.2.2.2.1 kR1.ob.1.length y.2.2.2.2.2.1, .int .i64 kR1.ob.2], .int .i64 0] /\ hx = [(902, aoY y.2.2.2.2.2.2 kR1 y)]), (22, phM 27), (28, phX 22 0), (29, phX 22 1), (30, phX 22 2), (31, phX 22 3), (32, phX 22 4), (3, phA 3 [Value.int IntKind.i64 0, Value.int IntKind.i64 0, Value.int IntKind.i64 0, Value.slice none 0 0, Value.slice none 0 0] 37), (6, phA 6 [Value.slice none 0 0, Value.int IntKind.i64 0] 60)]) (by kernel_rfl) (by kernel_rfl) O O ⟨?_, ?_, ?_, ?_, ?_, ?_, ?_, ?_, ?_, ?_, ?_, ?_, True.intro⟩ ?_
 . exact zmW O O (fun _ _ _ _ _ h => h) (fun val hn _ w hI => Does.call (F.call Tryz.call41 (yh O)) (kw (H := []) (zg6 921 (qF w))))
 . exact zmY 25 [(0, .int .i64 1)] O O tR31 ts3 tz3 (by decide) O O (by kernel_rfl)
 ·
  refine zkp O O (fun val val' v hx hd h => by have h : v = Value.agg #[Value.int IntKind.i64 0, val 25] /\ hx = [] := h; exact (show v = Value.agg #[Value.int IntKind.i64 0, val' 25] /\ hx = [] from ⟨by rw [h.1, hd 25 (by decide)], h.2⟩)) (fun val hn hD => ?_)
  obtain ⟨⟨b25, e25, n25⟩, _⟩ := hD
  exact ⟨.agg #[Value.int IntKind.i64 0, .slice (some ⟨b25, 0, none⟩) 1 1], (⟨by rw [e25], rfl⟩ : Value.agg #[Value.int IntKind.i64 0, .slice (some ⟨b25, 0, none⟩) 1 1] = Value.agg #[Value.int IntKind.i64 0, val 25] /\ ([] : Hp) = []), fun w => R.build [(1, .slice (some ⟨b25, 0, none⟩) 1 1)] (by show [(1, some (val 25))] = _; rw [e25]; rfl) (fun _ => by kernel_rfl)⟩
 ·
  refine zmW O O (fun _ _ _ _ _ h => h) (fun val hn hD w hI => ?_)
  obtain ⟨⟨⟨aP, cP, GP⟩, e24, n24⟩, ⟨b25, e25, n25⟩, ⟨e26, n26⟩, _⟩ := hD
  have q26 : val 26 = .agg #[Value.int IntKind.i64 0, .slice (some ⟨b25, 0, none⟩) 1 1] := by rw [show val 26 = Value.agg #[Value.int IntKind.i64 0, val 25] from e26, e25]
  have n24 : hn 24 = [(921, PgP GP (.slice aP 1 cP) [exF51])] := n24
  have n25 : hn 25 = [(25, .own b25 [.int .i64 1] 3)] := n25
  have n26 : hn 26 = [] := n26
  simp only [hpD, n24, n25, n26, List.cons_append, List.nil_append] at hI
  refine Does.call (F.call Tryz.call24 (yh O)) ?_
  simp only [e24, q26]
  exact kw (H := []) (zdA 902 ⟨0, 4, 1, [0, 1, 2, 3], []⟩ 1 kR1 (by decide) (zee ▸ kB0) (show RAc _ _ _ _ _ from hI.at 901 O) (show SlR 3 RPg _ _ _ _ from hI.at 921 O) (zkx (D := fun _ => True) ze (fun _ _ => rfl) (yv (k := 1) (n := 1) (cap := 1) (hI.at 25 O) (zno _) (by decide) O) (fun _ _ => trivial)) (Tr1 hI.k0 ht) (zee ▸ ziL))
 . exact MP.move 27 O O O
 . exact MP.ext 22 0 O O O (by decide) (fun _ => rfl) (fun val hn h => by obtain ⟨⟨_, e27, _⟩, ⟨e22, _⟩, _⟩ := h; exact ⟨_, _, e22.trans e27, rfl⟩)
 . exact MP.ext 22 1 O O O (by decide) (fun _ => rfl) (fun val hn h => by obtain ⟨⟨_, e27, _⟩, ⟨e22, _⟩, _⟩ := h; exact ⟨_, _, e22.trans e27, rfl⟩)
 . exact MP.ext 22 2 O O O (by decide) (fun _ => rfl) (fun val hn h => by obtain ⟨⟨_, e27, _⟩, ⟨e22, _⟩, _⟩ := h; exact ⟨_, _, e22.trans e27, rfl⟩)
 . exact MP.ext 22 3 O O O (by decide) (fun _ => rfl) (fun val hn h => by obtain ⟨⟨_, e27, _⟩, ⟨e22, _⟩, _⟩ := h; exact ⟨_, _, e22.trans e27, rfl⟩)
 . exact MP.ext 22 4 O O O (by decide) (fun _ => rfl) (fun val hn h => by obtain ⟨⟨_, e27, _⟩, ⟨e22, _⟩, _⟩ := h; exact ⟨_, _, e22.trans e27, rfl⟩)
 . exact MP.alloc 3 O O tz37 O O
 . exact MP.alloc 6 O O tz60 O O
 rintro val hn ⟨⟨⟨aP, cP, GP⟩, e24, n24⟩, ⟨b25, e25, n25⟩, ⟨e26, n26⟩, ⟨⟨ax27, cx27, az27, cz27, ao27, co27, GA27⟩, e27, n27⟩, ⟨e22, n22⟩, ⟨e28, n28⟩, ⟨e29, n29⟩, ⟨e30, n30⟩, ⟨e31, n31⟩, ⟨e32, n32⟩, ⟨b3, e3, n3⟩, ⟨b6, e6, n6⟩, _⟩
 have q26 : val 26 = .agg #[Value.int IntKind.i64 0, .slice (some ⟨b25, 0, none⟩) 1 1] := by rw [show val 26 = Value.agg #[Value.int IntKind.i64 0, val 25] from e26, e25]
 have q22 := e22.trans e27
 have q28 := exq e28 q22 rfl
 have q29 := exq e29 q22 rfl
 have q30 := exq e30 q22 rfl
 have q31 := exq e31 q22 rfl
 have q32 := exq e32 q22 rfl
 refine zmZ [(1, some (1, 0)), (3, some (3, 0)), (6, some (6, 0))] _ _ (yu e24 (yu e25 (yu q26 (yu e27 (yu q22 (yu q28 (yu q29 (yu q30 (yu q31 (yu q32 (yu e3 (yu e6 (rfl))))))))))))) (qn n24 (qn n25 (qn n26 (qn n27 (qn n22 (qn n28 (qn n29 (qn n30 (qn n31 (qn n32 (qn n3 (qn n6 (rfl))))))))))))) O O O ?_
 clear n24 n25 q26 n26 n27 q22 n22 q28 n28 q29 n29 q30 n30 q31 n31 q32 n32 n3 n6
 refine Ve 13 0 O (by kernel_rfl) O O O ?_
 refine Vd [14, 15] 0 (by kernel_rfl) O O O ?_
 refine Ve 16 0 O (by kernel_rfl) O O O ?_
 refine Vd [17] 0 (by kernel_rfl) O O O ?_
 refine VD.done (by kernel_rfl) ?_
 refine Vs 2 O ?_
 refine Vw [1, 25, 3, 6] [] O ?_
 refine Vd [0] 0 (by kernel_rfl) O O O ?_
 refine zmX 5 0 [(1, 35, [], false), (2, 36, [], false), (3, 37, [36], true), (4, 38, [35, 36, 37], false), (5, 33, [38], true), (6, 39, [38, 33], true), (7, 40, [38, 33], true), (8, 41, [38, 33], true), (9, 42, [38, 33], true), (10, 43, [38, 33], true), (11, 8, [], false), (12, 11, [], false)] (psi [(35, fun _ v hx => ∃ y : Option Addr × Nat × (Nat -> Prop), v = .slice y.1 1 y.2.1 /\ hx = [(922, PgP y.2.2 (.slice y.1 1 y.2.1) [exF51])]), (36, phB 1 36 [.int .i64 2] 3), (37, fun val v hx => v = Value.agg #[Value.int IntKind.i64 0, val 36] /\ hx = []), (38, fun _ v hx => ∃ y : Y8, v = .tuple #[.agg #[.int .i64 0, .int .i64 4, .int .i64 4, .slice y.1 2 y.2.1, .slice y.2.2.1 2 y.2.2.2.1], .int .i64 kR2.answer, .int .i64 kR2.charge, .agg #[.slice y.2.2.2.2.1 kR2.ob.1.length y.2.2.2.2.2.1, .int .i64 kR2.ob.2], .int .i64 0] /\ hx = [(903, aoY y.2.2.2.2.2.2 kR2 y)]), (33, phM 38), (39, phX 33 0), (40, phX 33 1), (41, phX 33 2), (42, phX 33 3), (43, phX 33 4), (8, phA 8 [Value.int IntKind.i64 0, Value.int IntKind.i64 0, Value.int IntKind.i64 0, Value.slice none 0 0, Value.slice none 0 0] 37), (11, phA 11 [Value.slice none 0 0, Value.int IntKind.i64 0] 60)]) (by kernel_rfl) (by kernel_rfl) O O ⟨?_, ?_, ?_, ?_, ?_, ?_, ?_, ?_, ?_, ?_, ?_, ?_, True.intro⟩ ?_
 . exact zmW O O (fun _ _ _ _ _ h => h) (fun val hn _ w hI => Does.call (F.call Tryz.call41 (yh O)) (kw (H := []) (zg6 922 (qF w))))
 . exact zmY 36 [(0, .int .i64 2)] O O tR31 ts3 tz3 (by decide) O O (by kernel_rfl)
 ·
  refine zkp O O (fun val val' v hx hd h => by have h : v = Value.agg #[Value.int IntKind.i64 0, val 36] /\ hx = [] := h; exact (show v = Value.agg #[Value.int IntKind.i64 0, val' 36] /\ hx = [] from ⟨by rw [h.1, hd 36 (by decide)], h.2⟩)) (fun val hn hD => ?_)
  obtain ⟨⟨b36, e36, n36⟩, _⟩ := hD
  exact ⟨.agg #[Value.int IntKind.i64 0, .slice (some ⟨b36, 0, none⟩) 1 1], (⟨by rw [e36], rfl⟩ : Value.agg #[Value.int IntKind.i64 0, .slice (some ⟨b36, 0, none⟩) 1 1] = Value.agg #[Value.int IntKind.i64 0, val 36] /\ ([] : Hp) = []), fun w => R.build [(1, .slice (some ⟨b36, 0, none⟩) 1 1)] (by show [(1, some (val 36))] = _; rw [e36]; rfl) (fun _ => by kernel_rfl)⟩
 ·
  refine zmW O O (fun _ _ _ _ _ h => h) (fun val hn hD w hI => ?_)
  obtain ⟨⟨⟨aP, cP, GP⟩, e35, n35⟩, ⟨b36, e36, n36⟩, ⟨e37, n37⟩, _⟩ := hD
  have q37 : val 37 = .agg #[Value.int IntKind.i64 0, .slice (some ⟨b36, 0, none⟩) 1 1] := by rw [show val 37 = Value.agg #[Value.int IntKind.i64 0, val 36] from e37, e36]
  have n35 : hn 35 = [(922, PgP GP (.slice aP 1 cP) [exF51])] := n35
  have n36 : hn 36 = [(36, .own b36 [.int .i64 2] 3)] := n36
  have n37 : hn 37 = [] := n37
  simp only [hpD, n35, n36, n37, List.cons_append, List.nil_append] at hI
  refine Does.call (F.call Tryz.call24 (yh O)) ?_
  simp only [e35, q37]
  exact kw (H := []) (zdA 903 kA1 2 kR2 (by decide) kB1 (show RAc _ _ kA1 _ _ from (hI.at 902 O).1) (show SlR 3 RPg _ _ _ _ from hI.at 922 O) (zkx (D := fun _ => True) ze (fun _ _ => rfl) (yv (k := 1) (n := 1) (cap := 1) (hI.at 36 O) (zno _) (by decide) O) (fun _ _ => trivial)) (Tr1 hI.k0 ht) ziM)
 . exact MP.move 38 O O O
 . exact MP.ext 33 0 O O O (by decide) (fun _ => rfl) (fun val hn h => by obtain ⟨⟨_, e38, _⟩, ⟨e33, _⟩, _⟩ := h; exact ⟨_, _, e33.trans e38, rfl⟩)
 . exact MP.ext 33 1 O O O (by decide) (fun _ => rfl) (fun val hn h => by obtain ⟨⟨_, e38, _⟩, ⟨e33, _⟩, _⟩ := h; exact ⟨_, _, e33.trans e38, rfl⟩)
 . exact MP.ext 33 2 O O O (by decide) (fun _ => rfl) (fun val hn h => by obtain ⟨⟨_, e38, _⟩, ⟨e33, _⟩, _⟩ := h; exact ⟨_, _, e33.trans e38, rfl⟩)
 . exact MP.ext 33 3 O O O (by decide) (fun _ => rfl) (fun val hn h => by obtain ⟨⟨_, e38, _⟩, ⟨e33, _⟩, _⟩ := h; exact ⟨_, _, e33.trans e38, rfl⟩)
 . exact MP.ext 33 4 O O O (by decide) (fun _ => rfl) (fun val hn h => by obtain ⟨⟨_, e38, _⟩, ⟨e33, _⟩, _⟩ := h; exact ⟨_, _, e33.trans e38, rfl⟩)
 . exact MP.alloc 8 O O tz37 O O
 . exact MP.alloc 11 O O tz60 O O
 rintro val hn ⟨⟨⟨aP, cP, GP⟩, e35, n35⟩, ⟨b36, e36, n36⟩, ⟨e37, n37⟩, ⟨⟨ax38, cx38, az38, cz38, ao38, co38, GA38⟩, e38, n38⟩, ⟨e33, n33⟩, ⟨e39, n39⟩, ⟨e40, n40⟩, ⟨e41, n41⟩, ⟨e42, n42⟩, ⟨e43, n43⟩, ⟨b8, e8, n8⟩, ⟨b11, e11, n11⟩, _⟩
 have q37 : val 37 = .agg #[Value.int IntKind.i64 0, .slice (some ⟨b36, 0, none⟩) 1 1] := by rw [show val 37 = Value.agg #[Value.int IntKind.i64 0, val 36] from e37, e36]
 have q33 := e33.trans e38
 have q39 := exq e39 q33 rfl
 have q40 := exq e40 q33 rfl
 have q41 := exq e41 q33 rfl
 have q42 := exq e42 q33 rfl
 have q43 := exq e43 q33 rfl
 refine zmZ [(1, some (1, 0)), (3, some (3, 0)), (6, some (6, 0)), (8, some (8, 0)), (11, some (11, 0))] _ _ (yu e35 (yu e36 (yu q37 (yu e38 (yu q33 (yu q39 (yu q40 (yu q41 (yu q42 (yu q43 (yu e8 (yu e11 (rfl))))))))))))) (qn n35 (qn n36 (qn n37 (qn n38 (qn n33 (qn n39 (qn n40 (qn n41 (qn n42 (qn n43 (qn n8 (qn n11 (rfl))))))))))))) O O O ?_
 clear n35 n36 q37 n37 n38 q33 n33 q39 n39 q40 n40 q41 n41 q42 n42 q43 n43 n8 n11
 refine Ve 13 0 O (by kernel_rfl) O O O ?_
 refine Vd [14, 15] 0 (by kernel_rfl) O O O ?_
 refine Ve 16 0 O (by kernel_rfl) O O O ?_
 refine Vd [17] 0 (by kernel_rfl) O O O ?_
 refine VD.done (by kernel_rfl) ?_
 refine Vs 2 O ?_
 refine Vw [1, 25, 3, 6, 36, 8, 11] [] O ?_
 refine Vd [0] 0 (by kernel_rfl) O O O ?_
 refine zmX 5 0 [(1, 46, [], false), (2, 47, [], false), (3, 48, [47], true), (4, 49, [46, 47, 48], false), (5, 44, [49], true), (6, 50, [49, 44], true), (7, 51, [49, 44], true), (8, 52, [49, 44], true), (9, 53, [49, 44], true), (10, 54, [49, 44], true), (11, 13, [], false), (12, 16, [], false)] (psi [(46, fun _ v hx => ∃ y : Option Addr × Nat × (Nat -> Prop), v = .slice y.1 1 y.2.1 /\ hx = [(923, PgP y.2.2 (.slice y.1 1 y.2.1) [exF51])]), (47, phB 1 47 [.int .i64 0] 3), (48, fun val v hx => v = Value.agg #[Value.int IntKind.i64 0, val 47] /\ hx = []), (49, fun _ v hx => ∃ y : Y8, v = .tuple #[.agg #[.int .i64 kR3.ac.mode, .int .i64 kR3.ac.budget, .int .i64 kR3.ac.spent, .slice y.1 kR3.ac.left.length y.2.1, .slice y.2.2.1 kR3.ac.asked.length y.2.2.2.1], .int .i64 kR3.answer, .int .i64 kR3.charge, .agg #[.slice y.2.2.2.2.1 kR3.ob.1.length y.2.2.2.2.2.1, .int .i64 kR3.ob.2], .int .i64 18] /\ hx = [(904, aoY y.2.2.2.2.2.2 kR3 y)]), (44, phM 49), (50, phX 44 0), (51, phX 44 1), (52, phX 44 2), (53, phX 44 3), (54, phX 44 4), (13, phA 13 [Value.int IntKind.i64 0, Value.int IntKind.i64 0, Value.int IntKind.i64 0, Value.slice none 0 0, Value.slice none 0 0] 37), (16, phA 16 [Value.slice none 0 0, Value.int IntKind.i64 0] 60)]) (by kernel_rfl) (by kernel_rfl) O O ⟨?_, ?_, ?_, ?_, ?_, ?_, ?_, ?_, ?_, ?_, ?_, ?_, True.intro⟩ ?_
 . exact zmW O O (fun _ _ _ _ _ h => h) (fun val hn _ w hI => Does.call (F.call Tryz.call41 (yh O)) (kw (H := []) (zg6 923 (qF w))))
 . exact zmY 47 [(0, .int .i64 0)] O O tR31 ts3 tz3 (by decide) O O (by kernel_rfl)
 ·
  refine zkp O O (fun val val' v hx hd h => by have h : v = Value.agg #[Value.int IntKind.i64 0, val 47] /\ hx = [] := h; exact (show v = Value.agg #[Value.int IntKind.i64 0, val' 47] /\ hx = [] from ⟨by rw [h.1, hd 47 (by decide)], h.2⟩)) (fun val hn hD => ?_)
  obtain ⟨⟨b47, e47, n47⟩, _⟩ := hD
  exact ⟨.agg #[Value.int IntKind.i64 0, .slice (some ⟨b47, 0, none⟩) 1 1], (⟨by rw [e47], rfl⟩ : Value.agg #[Value.int IntKind.i64 0, .slice (some ⟨b47, 0, none⟩) 1 1] = Value.agg #[Value.int IntKind.i64 0, val 47] /\ ([] : Hp) = []), fun w => R.build [(1, .slice (some ⟨b47, 0, none⟩) 1 1)] (by show [(1, some (val 47))] = _; rw [e47]; rfl) (fun _ => by kernel_rfl)⟩
 ·
  refine zmW O O (fun _ _ _ _ _ h => h) (fun val hn hD w hI => ?_)
  obtain ⟨⟨⟨aP, cP, GP⟩, e46, n46⟩, ⟨b47, e47, n47⟩, ⟨e48, n48⟩, _⟩ := hD
  have q48 : val 48 = .agg #[Value.int IntKind.i64 0, .slice (some ⟨b47, 0, none⟩) 1 1] := by rw [show val 48 = Value.agg #[Value.int IntKind.i64 0, val 47] from e48, e47]
  have n46 : hn 46 = [(923, PgP GP (.slice aP 1 cP) [exF51])] := n46
  have n47 : hn 47 = [(47, .own b47 [.int .i64 0] 3)] := n47
  have n48 : hn 48 = [] := n48
  simp only [hpD, n46, n47, n48, List.cons_append, List.nil_append] at hI
  refine Does.call (F.call Tryz.call24 (yh O)) ?_
  simp only [e46, q48]
  exact kw (H := []) (zdA 904 kA2 0 kR3 (by decide) kB2 (show RAc _ _ kA2 _ _ from (hI.at 903 O).1) (show SlR 3 RPg _ _ _ _ from hI.at 923 O) (zkx (D := fun _ => True) ze (fun _ _ => rfl) (yv (k := 1) (n := 1) (cap := 1) (hI.at 47 O) (zno _) (by decide) O) (fun _ _ => trivial)) (Tr1 hI.k0 ht) ziN)
 . exact MP.move 49 O O O
 . exact MP.ext 44 0 O O O (by decide) (fun _ => rfl) (fun val hn h => by obtain ⟨⟨_, e49, _⟩, ⟨e44, _⟩, _⟩ := h; exact ⟨_, _, e44.trans e49, rfl⟩)
 . exact MP.ext 44 1 O O O (by decide) (fun _ => rfl) (fun val hn h => by obtain ⟨⟨_, e49, _⟩, ⟨e44, _⟩, _⟩ := h; exact ⟨_, _, e44.trans e49, rfl⟩)
 . exact MP.ext 44 2 O O O (by decide) (fun _ => rfl) (fun val hn h => by obtain ⟨⟨_, e49, _⟩, ⟨e44, _⟩, _⟩ := h; exact ⟨_, _, e44.trans e49, rfl⟩)
 . exact MP.ext 44 3 O O O (by decide) (fun _ => rfl) (fun val hn h => by obtain ⟨⟨_, e49, _⟩, ⟨e44, _⟩, _⟩ := h; exact ⟨_, _, e44.trans e49, rfl⟩)
 . exact MP.ext 44 4 O O O (by decide) (fun _ => rfl) (fun val hn h => by obtain ⟨⟨_, e49, _⟩, ⟨e44, _⟩, _⟩ := h; exact ⟨_, _, e44.trans e49, rfl⟩)
 . exact MP.alloc 13 O O tz37 O O
 . exact MP.alloc 16 O O tz60 O O
 rintro val hn ⟨⟨⟨aP, cP, GP⟩, e46, n46⟩, ⟨b47, e47, n47⟩, ⟨e48, n48⟩, ⟨⟨ax49, cx49, az49, cz49, ao49, co49, GA49⟩, e49, n49⟩, ⟨e44, n44⟩, ⟨e50, n50⟩, ⟨e51, n51⟩, ⟨e52, n52⟩, ⟨e53, n53⟩, ⟨e54, n54⟩, ⟨b13, e13, n13⟩, ⟨b16, e16, n16⟩, _⟩
 have q48 : val 48 = .agg #[Value.int IntKind.i64 0, .slice (some ⟨b47, 0, none⟩) 1 1] := by rw [show val 48 = Value.agg #[Value.int IntKind.i64 0, val 47] from e48, e47]
 have q44 := e44.trans e49
 have q50 := exq e50 q44 rfl
 have q51 := exq e51 q44 rfl
 have q52 := exq e52 q44 rfl
 have q53 := exq e53 q44 rfl
 have q54 := exq e54 q44 rfl
 refine zmZ [(1, some (1, 0)), (3, some (3, 0)), (6, some (6, 0)), (8, some (8, 0)), (11, some (11, 0)), (13, some (13, 0)), (16, some (16, 0))] _ _ (yu e46 (yu e47 (yu q48 (yu e49 (yu q44 (yu q50 (yu q51 (yu q52 (yu q53 (yu q54 (yu e13 (yu e16 (rfl))))))))))))) (qn n46 (qn n47 (qn n48 (qn n49 (qn n44 (qn n50 (qn n51 (qn n52 (qn n53 (qn n54 (qn n13 (qn n16 (rfl))))))))))))) O O O ?_
 clear n46 n47 q48 n48 n49 q44 n44 q50 n50 q51 n51 q52 n52 q53 n53 q54 n54 n13 n16
 refine Ve 13 0 O (by kernel_rfl) O O O ?_
 refine Vd [14, 15] 0 (by kernel_rfl) O O O ?_
 refine Ve 16 0 O (by kernel_rfl) O O O ?_
 refine Vd [17] 0 (by kernel_rfl) O O O ?_
 refine VD.done (by kernel_rfl) ?_
 refine Vs 6 O ?_
 refine zld 57 O (fun k0 => ?_) (fun k0 => ?_)
 ·
  refine Vs 4 O ?_
  refine zld 61 O (fun k1 => ?_) (fun k1 => ?_)
  ·
   refine Vs 4 O ?_
   refine zld 65 O (fun k2 => ?_) (fun k2 => ?_)
   ·
    refine Vs 4 O ?_
    refine zld 69 O (fun k3 => ?_) (fun k3 => ?_)
    ·
     refine Vs 5 O ?_
     refine zld 74 O (fun k4 => ?_) (fun k4 => ?_)
     ·
      refine Vs 2 O ?_
      refine zm8 77 [(0, _), (1, _), (2, _)] tR31 ts3 tz3 (by decide) O O (by kernel_rfl) (fun b77 => ?_)
      refine zlT tc18 O (fun w hI => qP [0, 2, 3] [0, 2, 3] _ _ _ _ w (hI.at 902 O).1.left (zkx (D := fun _ => True) ze (fun _ _ => rfl) (yv (k := 1) (n := 3) (cap := 3) (hI.at 77 O) (zno _) (by decide) O) (fun _ _ => trivial))) ?_
      refine Vs 2 O ?_
      refine zld 80 O (fun k5 => ?_) (fun k5 => ?_)
      ·
       refine Vs 4 O ?_
       refine zld 84 O (fun k6 => ?_) (fun k6 => ?_)
       ·
        refine Vs 4 O ?_
        refine zld 88 O (fun k7 => ?_) (fun k7 => ?_)
        ·
         refine Vs 2 O ?_
         refine zm8 91 [(0, _)] tR31 ts3 tz3 (by decide) O O (by kernel_rfl) (fun b91 => ?_)
         refine zlT tc18 O (fun w hI => qP [0] [0] _ _ _ _ w (hI.at 902 O).2 (zkx (D := fun _ => True) ze (fun _ _ => rfl) (yv (k := 1) (n := 1) (cap := 1) (hI.at 91 O) (zno _) (by decide) O) (fun _ _ => trivial))) ?_
         refine Vs 2 O ?_
         refine zld 94 O (fun k8 => ?_) (fun k8 => ?_)
         ·
          refine Vs 5 O ?_
          refine zld 99 O (fun k9 => ?_) (fun k9 => ?_)
          ·
           refine Vs 2 O ?_
           refine zm8 102 [(0, _), (1, _)] tR31 ts3 tz3 (by decide) O O (by kernel_rfl) (fun b102 => ?_)
           refine zlT tc18 O (fun w hI => qP [0, 3] [0, 3] _ _ _ _ w (hI.at 903 O).1.left (zkx (D := fun _ => True) ze (fun _ _ => rfl) (yv (k := 1) (n := 2) (cap := 2) (hI.at 102 O) (zno _) (by decide) O) (fun _ _ => trivial))) ?_
           refine Vs 5 O ?_
           refine zjI tr12 O (fun w hI => ⟨_, rfl, by first | rfl | (exfalso; omega) | (exfalso; simp_all), hI.k0⟩)
          ·
           refine Vs 9 O ?_
           refine zjI tr12 O (fun w hI => ⟨_, rfl, by first | rfl | (exfalso; omega) | (exfalso; simp_all), hI.k0⟩)
         ·
          refine Vs 14 O ?_
          refine zjI tr12 O (fun w hI => ⟨_, rfl, by first | rfl | (exfalso; omega) | (exfalso; simp_all), hI.k0⟩)
        ·
         refine Vs 20 O ?_
         refine zjI tr12 O (fun w hI => ⟨_, rfl, by first | rfl | (exfalso; omega) | (exfalso; simp_all), hI.k0⟩)
       ·
        refine Vs 24 O ?_
        refine zjI tr12 O (fun w hI => ⟨_, rfl, by first | rfl | (exfalso; omega) | (exfalso; simp_all), hI.k0⟩)
      ·
       refine Vs 28 O ?_
       refine zjI tr12 O (fun w hI => ⟨_, rfl, by first | rfl | (exfalso; omega) | (exfalso; simp_all), hI.k0⟩)
     ·
      refine Vs 34 O ?_
      refine zjI tr12 O (fun w hI => ⟨_, rfl, by first | rfl | (exfalso; omega) | (exfalso; simp_all), hI.k0⟩)
    ·
     refine Vs 39 O ?_
     refine zjI tr12 O (fun w hI => ⟨_, rfl, by first | rfl | (exfalso; omega) | (exfalso; simp_all), hI.k0⟩)
   ·
    refine Vs 43 O ?_
    refine zjI tr12 O (fun w hI => ⟨_, rfl, by first | rfl | (exfalso; omega) | (exfalso; simp_all), hI.k0⟩)
  ·
   refine Vs 47 O ?_
   refine zjI tr12 O (fun w hI => ⟨_, rfl, by first | rfl | (exfalso; omega) | (exfalso; simp_all), hI.k0⟩)
 ·
  refine Vs 51 O ?_
  refine zjI tr12 O (fun w hI => ⟨_, rfl, by first | rfl | (exfalso; omega) | (exfalso; simp_all), hI.k0⟩)
structure StIn (ps : List Fl) (i : Nat) (n : Int) : Prop where
 le : i <= ps.length
 ok : ∀ j f, j < i -> ps[j]? = some f -> za0 f = 0 /\ (spN f : Int) = n
theorem StIn.next {ps : List Fl} {i : Nat} {n : Int} {f : Fl} (h : StIn ps i n) (hf : ps[i]? = some f) (ha : za0 f = 0) (hs : 0 < i -> (spN f : Int) = n) : StIn ps (i + 1) (spN f : Int) := by
 refine ⟨(zne.1 hf).1, fun j g hj hg => ?_⟩
 by_cases e : j = i
 ·
  subst e
  rw [hf] at hg
  cases hg
  exact ⟨ha, rfl⟩
 ·
  obtain ⟨h1, h2⟩ := h.ok j g (by omega) hg
  exact ⟨h1, by rw [h2, hs (by omega)]⟩
def RNn : Rel Nn := fun D w t cs => ∃ v1 v2, cs = [.int .i64 t.q.1, v1, v2] /\ SlR 1 zz D w v1 t.q.2 /\ SlR 1 zz D w v2 t.next
theorem zcZ : zX RNn := fun _ _ _ _ hD hk _ _ ⟨v1, v2, h1, h2, h3⟩ => ⟨v1, v2, h1, h2.stable zb hD hk, h3.stable zb hD hk⟩
theorem zg7 : xG RNn := fun _ _ _ _ ⟨v1, v2, h1, h2, h3⟩ => ⟨v1, v2, h1, h2.narrow (by omega) yi, h3.narrow (by omega) yi⟩
instance : StC RNn := ⟨zcZ⟩
instance : Dt RNn := ⟨zcZ, zg7⟩
open Go.GL Go.ChangeShapes Go.WideShapes Go.ChangeAt Go.RowKit
section
variable {H : Type} {enc : TypeId × Value -> H} {w : World} {base : Nat} {sp : Nat -> Bool} {held : Bool}
set_option maxRecDepth 100000 in
theorem zie (k : Nat) (cs : List Value) (x : DataW H × List MemPlace) (h : DataW.trod enc Tryz.prog w base sp held k 56 cs = some x) : ∃ t, RPg (fun _ => True) w t cs := by
 obtain ⟨xs, m, hk, _, hl, hx, hat⟩ := DataW.trod_struct Tryz.underlying56 h
 rw [show Tryz.prog.cellsOf 56 = 3 by kernel_rfl] at hl
 match cs, hl with
 | [c0, c1, c2], _ =>
  obtain ⟨y0, h0⟩ := zH hx hat 0 rfl (c := 1) (by kernel_rfl)
  obtain ⟨y1, h1⟩ := zH hx hat 1 rfl (c := 1) (by kernel_rfl)
  obtain ⟨y2, h2⟩ := zH hx hat 2 rfl (c := 1) (by kernel_rfl)
  obtain ⟨v0, l0, e0, hs0⟩ := zdD tu52 (show Tryz.prog.cellsOf 120 = 5 by kernel_rfl) (by decide) (fun n cs y hy => zhu n cs y hy) h0
  obtain ⟨v1, l1, e1, hs1⟩ := zdD Tryz.underlying53 (show Tryz.prog.cellsOf 137 = 6 by kernel_rfl) (by decide) (fun n cs y hy => zhv n cs y hy) h1
  obtain ⟨v2, l2, e2, hs2⟩ := zdD tu54 zbh (by decide) (fun n cs y hy => zht n cs y hy) h2
  simp at e0 e1 e2
  subst e0; subst e1; subst e2
  exact ⟨⟨l0, l1, l2⟩, _, _, _, rfl, hs0, hs1, hs2⟩
def wtB (P : Program) (t : TypeId) (d : DataW H) : Prop := ∀ n ∈ d.weights P t, n <= reachBytes
theorem qY {P : Program} {e : TypeId} {d : DataW H} {n : Nat} : ∀ {l : List (DataW H)}, d ∈ l -> n ∈ d.weights P e -> n ∈ DataW.weightsAll P e l
 | x :: l, h, hn => by
  rw [DataW.weightsAll, znj]
  rcases zng.1 h with rfl | h
  . exact .inl hn
  . exact .inr (qY h hn)
theorem wtB.slice {P : Program} {t e : TypeId} {es rs : List (DataW H)} (h : wtB P t (.slice es rs)) (ht : P.underlying t = some (.slice e)) : es.length * P.bytesOf e <= reachBytes /\ ∀ d ∈ es, wtB P e d := by
 refine ⟨zn6 (Nat.mul_le_mul_right _ (Nat.le_add_right es.length rs.length)) (h _ (by rw [DataW.weights, ht]; exact zn4 ..)), fun d hd n hn => h n ?_⟩
 rw [DataW.weights, ht]
 exact zn3 _ (List.mem_append_left _ (qY hd hn))
set_option maxRecDepth 100000 in
theorem zha {r : Reach} {b0 : Nat} {v : Value} {d : DataW H} {ps : List MemPlace} (hval : Value.okWide Tryz.prog w r b0 23 v) (hd : DataW.Trod enc Tryz.prog w base sp held 23 v d ps) :
  ∃ l, SlR 3 RPg (fun _ => True) w v l := by
 obtain ⟨a, len, cap, rfl⟩ := okWide_slice Tryz.underlying23 hval
 obtain ⟨k, hn⟩ := hd
 obtain ⟨ev, es, hev, hsl⟩ := zdD Tryz.underlying23 (show Tryz.prog.cellsOf 56 = 3 by kernel_rfl) (by decide) (fun n cs y h => zie n cs y h) hn
 simp [Value.cells] at hev
 subst hev
 exact ⟨es, hsl⟩
end
def zjf {H : Type} : List (String × DataW H) := [("math/bits.deBruijn32tab", Rows.laid_math_bits_deBruijn32tab), ("math/bits.deBruijn64tab", Rows.laid_math_bits_deBruijn64tab), ("internal/strconv.uint64pow10", Rows.laid_internal_strconv_uint64pow10)]
theorem ziQ {W : World} (h : laidMet Tryz.prog zjf W) : Tab W := by
 obtain ⟨ps, ⟨_, _, _, _, _, _, _, _, _, _, ⟨_, _, _, _, _, _, _, _, _, _, ⟨g, t, cs, fuel, p, q, hg, ht, hvar, hd, _, _⟩, _⟩, _⟩, _⟩ := h
 obtain rfl := Option.some.inj ((show Tryz.prog.globalNamed "internal/strconv.uint64pow10" = some 0 by kernel_rfl).symm.trans hg)
 obtain rfl := Option.some.inj ((show (Tryz.prog.globals[0]?).map (·.type) = some 259 by kernel_rfl).symm.trans ht)
 rw [show (Rows.laid_internal_strconv_uint64pow10 : DataW Unit) = Lib.tabData .u64 Lib.pow10Tab by kernel_rfl] at hd
 show W.var? _ _ = _
 have h1 := Lib.cells_of_tab (n := 20) (e := 204) (by kernel_rfl) (by kernel_rfl) (by kernel_rfl) (by kernel_rfl) hd
 rw [hvar, <- h1]
def zg8 : DataW Unit -> Array Value
 | .agg l => (l.map fun d => match d with
  | .lit (.int k z) => Value.int k z
  | _ => .int .i64 0).toArray
 | _ => #[]
def zj8 (cs : Array Value) : Obj -> Obj
 | .cells _ t frozen => .cells cs t frozen
 | o => o
noncomputable def zg9 (os : Os) : World :=
 let w0 := World.holding Tryz.prog os ⟨#[], #[], []⟩
 { w0 with heap := ((w0.heap.modify 0 (zj8 (zg8 Rows.laid_internal_strconv_uint64pow10))).modify 1 (zj8 (zg8 Rows.laid_math_bits_deBruijn32tab))).modify 2 (zj8 (zg8 Rows.laid_math_bits_deBruijn64tab)) }
set_option maxRecDepth 100000 in
theorem zbV (os : Os) (args : Array Value) : laidMet Tryz.prog zjf ((zg9 os).forCall (fun _ _ => 0) ⟨#[], args, []⟩).memory :=
 laidMet_of_run' 8 (by kernel_rfl) (by kernel_rfl)
end Go.Proofs.YtbkhagigkglgoaaGreatDoor
namespace Go.GL
abbrev SlP (F : Nat -> Prop) (v : Value) (l : List Int) : HE := .res F (fun w => SlR 1 zz F w v l)
theorem SlP.loc {F : Nat -> Prop} {v : Value} {l : List Int} : (SlP F v l).loc := fun _ _ _ hx hk hT => hx.stable zb (fun _ h => h) (fun b hb hlt => hk.block b hlt (hT b hlt hb))
end Go.GL
namespace Go.Proofs.YtbkhagigkglgoaaGreatDoor
open Go.GL
theorem ziR {H : Hp} {f : FuncId} {args : Array Value} {l : List Int} {w : World} (k : Nat) (hc : Calls Tryz.prog f args w (Ret fun r w' => SlR 1 zz (fun b => w.heap.size <= b) w' r l /\ Ext w w')) :
  Calls Tryz.prog f args w (Ret fun r w' => ∃ y : Option Addr × Nat × (Nat -> Prop), r = .slice y.1 l.length y.2.1 /\ Hands H [] [(k, SlP y.2.2 (.slice y.1 l.length y.2.1) l)] w w') := by
 refine hc.mono ?_
 rintro _ w' ⟨r, rfl, hd, hk⟩
 obtain ⟨ao, co, rfl⟩ := hd.form
 refine ⟨_, rfl, (ao, co, fun b => w.heap.size <= b /\ b < w'.heap.size), rfl, hk.mono fun q _ h => h.elim, fun x hx => ?_, List.pairwise_singleton _ _⟩
 rw [zni] at hx
 subst hx
 exact ⟨hd.narrow (by omega) yi, SlP.loc, fun _ h => h, fun q hq => ⟨.inr hq.1, hq.2⟩⟩
theorem zdB (a : Ac) (ps : List Fl) (hz : ∀ f ∈ ps, SzOk f) (rs : List Rc) (hal : a.asked.length + rs.length <= 100000) (hql : ∀ p ∈ a.asked, p.2.length <= 17592186044416) (u1 u2 pv rv : Value) (D D1 D2 : Nat -> Prop) (W : World) (ha : RAc D W a u1 u2) (hps : SlR 3 RPg D1 W pv ps) (hrs : SlR 9 RRc D2 W rv rs) (ht : Tab W) :
  Calls Tryz.prog 36 #[.agg #[.int .i64 a.mode, .int .i64 a.budget, .int .i64 a.spent, u1, u2], pv, rv] W (Ret fun r' w' => (∃ r1 r2, r' = .tuple #[.agg #[.int .i64 (jo a ps rs).1.mode, .int .i64 (jo a ps rs).1.budget, .int .i64 (jo a ps rs).1.spent, r1, r2], .int .i64 (jo a ps rs).2] /\ RAc (fun b => W.heap.size <= b) w' (jo a ps rs).1 r1 r2) /\ Ext W w') := by
 have hl := ha.left
 have hqs := ha.asked
 obtain ⟨a1, c1, h1⟩ := ha.left.form
 obtain ⟨a2, c2, h2⟩ := ha.asked.form
 subst h1 h2
 obtain ⟨ap, cp, rfl⟩ := hps.form
 obtain ⟨ar, cr, rfl⟩ := hrs.form
 have hmp := hps.max
 have hmr := hrs.max
 have hmq := hqs.max
 refine zls Tryz.func36 O Tryz.ntmps36 O (zlC ?_)
 refine Vs 2 O ?_
 refine V.box 3 O O (fun b3 => ?_)
 refine V.alloc 6 tz37 O O (fun b6 => ?_)
 refine Vs 7 O ?_
 refine zlT Tryz.call26 O (fun w hI => zaP a _ _ D w (Tr1 hI.k0 ha)) ?_
 refine zlh O (fun w hI => zkJ O (by first | exact za | rfl)) ?_
 refine Vs 2 O ?_
 refine zjo O (fun v0 => ?_) (fun v0 => ?_)
 ·
  rw [zdy v0]
  refine Vs 2 O ?_
  refine zme [Value.int IntKind.i64 0, Value.int IntKind.i64 0, Value.int IntKind.i64 0, Value.slice none 0 0, Value.slice none 0 0] [(0, 1), (1, 1), (2, 1), (3, 1), (4, 1)] [] O O (fun _ => by kernel_rfl) ?_
  refine Vs 6 O ?_
  refine zjT Tryz.results36 tg37 ts37 O O O O (fun w hI => ⟨_, rfl, ⟨_, _, rfl, ⟨SlR.nil, SlR.nil⟩⟩, hI.k0⟩)
 ·
  have v0 := zn9.1 v0
  have hll := v0.l2
  rw [zeE v0]
  refine Vs 3 O ?_
  refine zm6 (σ := Nat × Option Addr × Nat × (Nat -> Prop)) [1, 2, 3, 6] [3, 6] [3, 6] O (fun e ⟨b8, ay, cy, G⟩ => (8, .pointer (some ⟨b8, 0, none⟩)) :: e) (fun e ⟨b8, ay, cy, G⟩ => (8, .own b8 [.int .i64 a.mode, .int .i64 a.budget, .int .i64 a.spent, .slice ay a.left.length cy, .slice none 0 0] 37) :: (900, SlP G (.slice ay a.left.length cy) a.left) :: e) (fun ⟨b8, ay, cy, G⟩ => True) (fun _ => rfl) (fun _ => rfl) ?_ ?_
  ·
   refine Vw [3, 6] [] O ?_
   refine Vd [0, 1, 2, 3, 4, 5, 6, 7] 0 (by kernel_rfl) O O O ?_
   refine zmI 8 10 8 0 [] (Hn := fun y : Option Addr × Nat × (Nat -> Prop) => [(900, SlP y.2.2 (.slice y.1 a.left.length y.2.1) a.left)]) [(3, some (3, 0)), (6, some (6, 0)), (19, some (3, 0)), (21, some (3, 1)), (23, some (3, 2)), (25, some (3, 3))] Tryz.call68 O (by kernel_rfl) O O (fun _ => rfl) (fun _ _ => rfl) (fun _ => rfl) tz37 O (fun w hI => ziR 900 (zaO a.left (by omega) _ D w (Tr1 hI.k0 hl))) ?_ (fun b8 => ?_)
   ·
    rintro _ ⟨ay, cy, G⟩ rfl
    refine zmf 9 [Value.int IntKind.i64 0, Value.int IntKind.i64 0, Value.int IntKind.i64 0, Value.slice none 0 0, Value.slice none 0 0] [(0, 1), (1, 1), (2, 1), (3, 1), (4, 1)] [(0, _), (1, _), (2, _), (3, _)] O (by kernel_rfl) O O (fun _ => by kernel_rfl) ?_
    refine zlI 10 8 0 O (by kernel_rfl) O O (fun _ _ => M.alloc tz37 O) (fun b8 => ?_)
    refine Ve 11 0 O (by kernel_rfl) O O O ?_
    refine VD.done (by kernel_rfl) ?_
    refine zjE (⟨_, ay, cy, G⟩) (zkZ O) (zl0 O) (trivial) 0 O O
   ·
    refine zmo 8 0 [] (Hn := fun y : Option Addr × Nat × (Nat -> Prop) => [(900, SlP y.2.2 (.slice y.1 a.left.length y.2.1) a.left)]) [(3, some (3, 0)), (6, some (6, 0)), (8, some (8, 0)), (19, some (3, 0)), (21, some (3, 1)), (23, some (3, 2)), (25, some (3, 3))] Tryz.call68 O (by kernel_rfl) O O (fun _ => rfl) (fun _ _ => rfl) (fun _ => rfl) (fun w hI => ziR 900 (zaO a.left (by omega) _ D w (Tr1 hI.k0 hl))) ?_
    rintro _ ⟨ay, cy, G⟩ rfl
    refine zmf 9 [Value.int IntKind.i64 0, Value.int IntKind.i64 0, Value.int IntKind.i64 0, Value.slice none 0 0, Value.slice none 0 0] [(0, 1), (1, 1), (2, 1), (3, 1), (4, 1)] [(0, _), (1, _), (2, _), (3, _)] O (by kernel_rfl) O O (fun _ => by kernel_rfl) ?_
    refine Ve 11 0 O (by kernel_rfl) O O O ?_
    refine VD.done (by kernel_rfl) ?_
    refine zjE (⟨_, ay, cy, G⟩) (zkZ O) (zl0 O) (trivial) 0 O O
  rintro ⟨b8, ay, cy, G⟩ _
  show V _ _ _ _ _ ((8, .pointer (some ⟨b8, 0, none⟩)) :: _) _ ((8, .own b8 [.int .i64 a.mode, .int .i64 a.budget, .int .i64 a.spent, .slice ay a.left.length cy, .slice none 0 0] 37) :: (900, SlP G (.slice ay a.left.length cy) a.left) :: _) _
  refine zlJ 8 8 0 O O ?_
  refine Vs 10 O ?_
  refine zlN 901 33 2 O ?_
  refine zmh 901 (e' := OwP 33 2 RQu (fun _ => False) (.slice none 0 0) []) O (fun w hI => OwH.nil) OwP.loc (fun _ h => h) (fun q hq => hq.elim id False.elim) ?_
  refine Vs 1 O ?_
  refine zm5 (σ := Nat × Option Addr × Nat × (Nat -> Prop)) [1, 2, 6, 8, 30, 31] [6, 900] [6, 8] O (fun e ⟨j, aj, cj, F⟩ => (32, .int .i64 j) :: e) (fun e ⟨j, aj, cj, F⟩ => (8, .own b8 [.int .i64 a.mode, .int .i64 a.budget, .int .i64 a.spent, .slice ay a.left.length cy, .slice aj (a.asked.take j).length cj] 37) :: (901, OwP 33 2 RQu F (.slice aj (a.asked.take j).length cj) (a.asked.take j)) :: e) (fun ⟨j, aj, cj, F⟩ => j <= a.asked.length) (fun ⟨j, aj, cj, F⟩ => a.asked.length - j) ((0, none, 0, fun _ => False)) (zkZ O) (zl0 O) (fun _ => rfl) (fun _ => rfl) (fun _ => rfl) (znf _) ?_
  rintro ⟨j, aj, cj, F⟩ hj
  show V _ _ _ _ _ ((32, .int .i64 j) :: _) _ ((8, .own b8 [.int .i64 a.mode, .int .i64 a.budget, .int .i64 a.spent, .slice ay a.left.length cy, .slice aj (a.asked.take j).length cj] 37) :: (901, OwP 33 2 RQu F (.slice aj (a.asked.take j).length cj) (a.asked.take j)) :: _) _
  have hjl : (a.asked.take j).length = j := by rw [znt]; omega
  refine Vs 6 O ?_
  refine zjo O (fun hlt2 => ?_) (fun hlt2 => ?_)
  ·
   refine Vs 6 O ?_
   obtain ⟨p, he_p, hm_p⟩ := gE_ a.asked (j) (by omega)
   obtain ⟨b_p, o_p, c_p, ha_p, _, hc_p, hR_p⟩ := hqs.at he_p
   obtain ⟨v1_p, rfl, hs_p⟩ := hR_p
   obtain ⟨a1_p, n1_p, rfl⟩ := hs_p.form
   refine zm1 1000 0 O O hc_p ?_
   refine zlK 1000 tR24 ts33 O ha_p (by omega) (_) (rfl) O ?_
   have hpl := hql p hm_p
   have htj := zg he_p
   refine Vs 1 O ?_
   refine V.alloc 10 tz33 O O (fun b10 => ?_)
   refine Vs 3 O ?_
   refine Vw [6, 8, 1000, 10] [7] O ?_
   refine Vd [0, 1, 2] 0 (by kernel_rfl) O O O ?_
   refine zmo 3 0 [] (Hn := fun y : Option Addr × Nat × (Nat -> Prop) => [(906, quE p y)]) [(6, some (6, 0)), (8, some (8, 0)), (10, some (10, 0)), (34, some (1000, 0)), (36, some (8, 4))] Tryz.call69 O (by kernel_rfl) O O (fun _ => rfl) (fun _ _ => rfl) (fun _ => rfl) (fun w hI => zi8 906 (zaQ p hpl _ D w (Tr1 hI.k0 hs_p))) ?_
   rintro _ ⟨ax, cx, G2⟩ rfl
   refine zm9 4 40 0 [(0, _)] tR24 ts33 tz33 (by decide) O (by kernel_rfl) O O (by kernel_rfl) (fun b40 => ?_)
   refine zmw 5 0 [901, 906] (Hn := fun u => [(901, OwP 33 2 RQu (fun q => F q \/ G2 q) u (a.asked.take j ++ [p]))]) (u := fun u => u) [(6, some (6, 0)), (8, some (8, 0)), (10, some (10, 0)), (34, some (1000, 0)), (36, some (8, 4))] O (by kernel_rfl) O O (fun _ => rfl) (fun _ => rfl) (fun _ => rfl) (fun w hI => zmx 901 906 40 hI O O O O tu24 Tryz.el33 O (by decide) O O O (fun D x cs h => zfw D x cs h) (by omega) (by omega)) (fun u901 => ?_)
   refine zlE (p := ∃ ao c, u901 = .slice ao (a.asked.take j ++ [p]).length c) (fun w hI => owf (hI.at 901 O)) (fun hu => ?_)
   obtain ⟨an, cn, rfl⟩ := hu
   refine Vd [6] 0 (by kernel_rfl) O O O ?_
   refine Vl 7 O (by kernel_rfl) O ?_
   refine VDx.done (by kernel_rfl) ?_
   refine Va 6 O (by omega) ?_
   rw [<- htj] at *
   refine zjz (⟨j + 1, an, cn, fun q => F q \/ G2 q⟩) (zkZ O) (zl0 O) (by omega) (by first | omega | (dsimp only; omega)) 0 O O
  ·
   obtain rfl : j = a.asked.length := by omega
   rw [zn5] at *
   refine Vs 13 O ?_
   refine V.mrg 900 901 (e' := acY (fun q => G q \/ HE.S (OwP 33 2 RQu F (.slice aj a.asked.length cj) a.asked) q) a (ay, cy, aj, cj, fun _ => False)) [(6, some (6, 0)), (8, some (8, 0))] O O O (fun w hI => ⟨(show SlR 1 zz G w _ _ from hI.at 900 O).wide zb (fun q hq => .inl hq), (show OwH _ _ _ _ _ _ _ from hI.at 901 O).sl (by omega) (fun q hq => .inr hq)⟩) (AcP.loc) (fun _ h => h) (fun q hq => hq) ?_
   generalize (fun q => G q \/ HE.S (OwP 33 2 RQu F (.slice aj a.asked.length cj) a.asked) q) = G3
   refine Vs 1 O ?_
   refine zm5 (σ := Nat × Ac × Y5) [1, 6, 8, 44, 45] [6] [6, 8] O (fun e ⟨i, b, ax, cx, az, cz, G4⟩ => (46, .int .i64 i) :: e) (fun e ⟨i, b, ax, cx, az, cz, G4⟩ => (8, .own b8 [.int .i64 b.mode, .int .i64 b.budget, .int .i64 b.spent, .slice ax b.left.length cx, .slice az b.asked.length cz] 37) :: (900, acY G4 b (ax, cx, az, cz, G4)) :: e) (fun ⟨i, b, ax, cx, az, cz, G4⟩ => RpIn ps a rs i b) (fun ⟨i, b, ax, cx, az, cz, G4⟩ => rs.length - i) ((0, a, ay, cy, aj, cj, G3)) (zkZ O) (zl0 O) (fun _ => rfl) (fun _ => rfl) (fun _ => rfl) (zkB v0 hql) ?_
   rintro ⟨i, b, ax, cx, az, cz, G4⟩ hin
   show V _ _ _ _ _ ((46, .int .i64 i) :: _) _ ((8, .own b8 [.int .i64 b.mode, .int .i64 b.budget, .int .i64 b.spent, .slice ax b.left.length cx, .slice az b.asked.length cz] 37) :: (900, acY G4 b (ax, cx, az, cz, G4)) :: _) _
   have hile := hin.le
   refine Vs 6 O ?_
   refine zjo O (fun hlt3 => ?_) (fun hlt3 => ?_)
   ·
    refine Vs 6 O ?_
    obtain ⟨r, he_r, hm_r⟩ := gE_ rs (i) (by omega)
    obtain ⟨b_r, o_r, c_r, ha_r, _, hc_r, hR_r⟩ := hrs.at he_r
    obtain rfl := hR_r
    refine zm1 2000 0 O O hc_r ?_
    refine zlK 2000 Tryz.runUnderlying84 Tryz.sizeOf91 O ha_r (by omega) (_) (rfl) O ?_
    refine Vs 1 O ?_
    refine V.alloc 12 Tryz.zeroValue91 O O (fun b12 => ?_)
    refine Vs 11 O ?_
    refine zjo O (fun g0 => ?_) (fun g0 => ?_)
    ·
     have hnx := hin.skip he_r g0
     refine Va 8 O (by omega) ?_
     refine zjz (⟨i + 1, b, ax, cx, az, cz, G4⟩) (zkZ O) (zl0 O) (hnx) (by first | omega | (dsimp only; omega)) 0 O O
    ·
     have hab := zl2 hin.ok (by have := hin.al; omega) hin.ql
     refine Vs 7 O ?_
     refine zmn [900] (Hn := fun y : Y5 => [(900, acY y.2.2.2.2 (kr b ps r).1 y)]) [(6, some (6, 0)), (8, some (8, 0)), (12, some (12, 0)), (48, some (2000, 0)), (50, some (12, 8))] Tryz.call70 O (fun _ _ => rfl) (fun _ => rfl) (fun w hI => zg4 900 (zg5 b hab hin.ok ps hz r _ _ _ G4 D1 w (show RAc _ _ _ _ _ from hI.at 900 O) (Tr1 hI.k0 hps) (Tr1 hI.k0 ht))) ?_
     rintro _ ⟨ax2, cx2, az2, cz2, G5⟩ rfl
     refine Vs 3 O ?_
     refine V.alloc 13 tz37 O O (fun b13 => ?_)
     refine Vs 11 O ?_
     refine zjo O (fun g1 => ?_) (fun g1 => ?_)
     ·
      rw [hin.bad he_r g0 g1]
      refine Vs 2 O ?_
      refine zme [Value.int IntKind.i64 0, Value.int IntKind.i64 0, Value.int IntKind.i64 0, Value.slice none 0 0, Value.slice none 0 0] [(0, 1), (1, 1), (2, 1), (3, 1), (4, 1)] [] O O (fun _ => by kernel_rfl) ?_
      refine Vs 12 O ?_
      refine zjT Tryz.results36 tg37 ts37 O O O O (fun w hI => ⟨_, rfl, ⟨_, _, rfl, ⟨SlR.nil, SlR.nil⟩⟩, hI.k0⟩)
     ·
      have hnx := hin.next hz he_r g0 (by omega)
      refine Va 12 O (by omega) ?_
      refine zjz (⟨i + 1, (kr b ps r).1, ax2, cx2, az2, cz2, G5⟩) (zkZ O) (zl0 O) (hnx) (by first | omega | (dsimp only; omega)) 0 O O
   ·
    obtain rfl : i = rs.length := by omega
    rw [hin.done]
    refine Vs 13 O ?_
    refine zjT Tryz.results36 tg37 ts37 O O O O (fun w hI => ⟨_, rfl, ⟨_, _, rfl, (show RAc _ _ _ _ _ from hI.at 900 O).wide fun q hq => hI.own 900 0 O O q hq⟩, hI.k0⟩)
end Go.Proofs.YtbkhagigkglgoaaGreatDoor
