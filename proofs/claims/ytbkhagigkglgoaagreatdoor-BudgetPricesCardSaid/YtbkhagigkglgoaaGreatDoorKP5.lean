/-
  Contracts and the mathematics that the proof needs. Nothing here is a claim.
-/
import Derived.Test.YtbkhagigkglgoaaGreatDoorKP4
namespace Go.Proofs.YtbkhagigkglgoaaGreatDoor
open Go.GL
def LeftOk (D : Nat -> Prop) (W : World) (r : Ins) (s : StS) (q : Int -> Value) : Prop := ∀ k, 1 <= k -> k <= 3 -> SlR 1 zv D W (q k) ((xu r k).drop (jG s k))
theorem zaE {w : World} {b : Nat} {z : Value} {q : Int -> Value} {e : TypeId} {k : Int} (h : Blk w b [z, q 1, q 2, q 3] e) (hk : 1 <= k /\ k <= 3) : w.cell? ⟨b, 0 + k.toNat * 1, none⟩ = some (q k) := by
 have h1 := Blk.cells h 1 _ rfl
 have h2 := Blk.cells h 2 _ rfl
 have h3 := Blk.cells h 3 _ rfl
 rcases (show k = 1 \/ k = 2 \/ k = 3 by omega) with rfl | rfl | rfl
 . exact h1
 . exact h2
 . exact h3
theorem zgT {z u : Value} {q : Int -> Value} {k : Int} (hk : 1 <= k /\ k <= 3) : [z, q 1, q 2, q 3].set k.toNat u = [z, (if 1 = k then u else q 1), (if 2 = k then u else q 2), (if 3 = k then u else q 3)] := by
 rcases (show k = 1 \/ k = 2 \/ k = 3 by omega) with rfl | rfl | rfl <;> rfl
theorem zcD {prev : List Vr} {v : Vr} (h : zM prev v = 0) (hk : v.kind = 0) : v.low <= v.init /\ v.init <= v.high := by
 unfold zM at h
 split at h
 . cases h
 split at h
 . cases h
 split at h
 . cases h
 split at h
 . cases h
 split at h
 . cases h
 ·
  rename_i h5
  omega
theorem zfK {r : Ins} {s : StS} {x : Vr} (h : x.kind = 0) : zp r (some s) x = some ⟨s.vals ++ [x.init], s.a, s.b, s.c⟩ := by simp [zp, h]
theorem zgU {r : Ins} {s : StS} {k : Int} (_ : 1 <= k /\ k <= 3) {l : List Int} (hl : (xu r k).drop (jG s k) = l) : (xu r k)[jG s k]? = l[0]? := by
 rw [<- hl, List.getElem?_drop, Nat.add_zero]
theorem zeH {f : Fl} {r : Ins} {i : Nat} {x : Vr} {s s1 : StS} (he : f.vars[i]? = some x) (hs : (f.vars.take i).foldl (zp r) (some ⟨[], 0, 0, 0⟩) = some s) (h1 : zp r (some s) x = some s1) : (f.vars.take (i + 1)).foldl (zp r) (some ⟨[], 0, 0, 0⟩) = some s1 := by
 rw [zg he, List.foldl_append, hs]; exact h1
theorem Valid.varAt0 {f : Fl} (V : Valid f) {i : Nat} {x : Vr} (he : f.vars[i]? = some x) : zM (f.vars.take i) x = 0 := by
 have h := V.ok
 unfold zQ at h
 split at h
 . cases h
 split at h
 . rename_i h2; exact absurd h h2
 ·
  rename_i h2
  have h := Decidable.not_not.1 h2
  unfold zx at h
  split at h
  . rename_i h2; exact absurd h h2
  ·
   rename_i h2
   rw [<- kU he]
   exact xg f.vars.length 0 (by simpa using h2) i (Nat.zero_le _) (by have := (List.getElem?_eq_some_iff.1 he).1; omega)
theorem LeftOk.next {D : Nat -> Prop} {W : World} {r : Ins} {s : StS} {q : Int -> Value} {k y : Int} {aq : Option Addr} {cq : Nat} {rest : List Int} (hL : LeftOk D W r s q) (hk : 1 <= k /\ k <= 3) (hr : rest = (xu r k).drop (jG s k)) (hq : SlR 1 zv D W (.slice aq rest.length cq) rest) (h1 : 1 <= rest.length) : LeftOk D W r (je s k y) (fun j => if j = k then .slice (if cq = 1 then aq else aq.map (·.add (1 * 1))) (rest.length - 1) (cq - 1) else q j) := by
 intro j hj1 hj3
 have hc := zcw s hk ⟨hj1, hj3⟩ y
 dsimp only
 by_cases e : j = k
 ·
  subst e
  rw [if_pos rfl] at hc
  rw [if_pos rfl, hc]
  have := hq.drop 1 h1
  rw [hr, List.drop_drop] at this
  rwa [<- hr] at this
 ·
  rw [if_neg e] at hc
  rw [if_neg e, hc]
  exact hL j hj1 hj3
theorem zbH {r : Ins} {s : StS} {x : Vr} {y : Int} (h : 1 <= x.kind /\ x.kind <= 3) (hy : (xu r x.kind)[jG s x.kind]? = some y) : zp r (some s) x = some (je s x.kind y) := by
 simp only [zp, Option.bind_some]
 rw [if_neg (by omega), hy]; rfl
theorem zfL {r : Ins} {s : StS} {x : Vr} (h : 1 <= x.kind /\ x.kind <= 3) (hy : (xu r x.kind)[jG s x.kind]? = none) : zp r (some s) x = none := by
 simp only [zp, Option.bind_some]
 rw [if_neg (by omega), hy]; rfl
theorem ziy {x : Vr} {y : Int} (h : ¬ y < x.low) : decide (x.high < y) = (false || !inB (x, y)) := by
 have h1 : decide (x.low <= y) = true := decide_eq_true (by omega)
 simp only [inB, h1, Bool.true_and, Bool.false_or]
 by_cases h2 : y <= x.high
 . rw [decide_eq_false (by omega), decide_eq_true h2]; rfl
 . rw [decide_eq_true (by omega), decide_eq_false h2]; rfl
theorem zi1 {D : Nat -> Prop} {W : World} {r : Ins} {s : StS} {q : Int -> Value} (hL : LeftOk D W r s q) {j : Nat} (hj : j < 4) : ∃ (a : Option Addr) (ln c : Nat), [Value.slice none 0 0, q 1, q 2, q 3][j]? = some (.slice a ln c) /\ (j = 0 -> ln = 0) /\ (1 <= j -> ln = ((xu r (j : Int)).drop (jG s (j : Int))).length) := by
 have key : ∀ k : Int, 1 <= k -> k <= 3 -> ∃ (a : Option Addr) (c : Nat), q k = .slice a ((xu r k).drop (jG s k)).length c := fun k h1 h3 => (hL k h1 h3).form
 obtain ⟨a1, c1, h1⟩ := key 1 (by omega) (by omega)
 obtain ⟨a2, c2, h2⟩ := key 2 (by omega) (by omega)
 obtain ⟨a3, c3, h3⟩ := key 3 (by omega) (by omega)
 rcases (show j = 0 \/ j = 1 \/ j = 2 \/ j = 3 by omega) with rfl | rfl | rfl | rfl
 . exact ⟨_, _, _, rfl, fun _ => rfl, fun h => by omega⟩
 . exact ⟨a1, _, c1, congrArg some h1, fun h => by omega, fun _ => rfl⟩
 . exact ⟨a2, _, c2, congrArg some h2, fun h => by omega, fun _ => rfl⟩
 . exact ⟨a3, _, c3, congrArg some h3, fun h => by omega, fun _ => rfl⟩
theorem zeI {f : Fl} {r : Ins} {s : StS} (hS : jH f.vars r = some s) {k : Int} (hk : 1 <= k /\ k <= 3) (h : 0 < ((xu r k).drop (jG s k)).length) : zu f.vars r = 1 := by
 unfold zu
 rw [hS]
 dsimp only
 unfold yC
 rw [List.length_drop] at h
 rw [if_pos]
 rcases (show k = 1 \/ k = 2 \/ k = 3 by omega) with rfl | rfl | rfl
 ·
  have h : 0 < r.secret.length - s.a := h
  omega
 ·
  have h : 0 < r.pub.length - s.b := h
  omega
 ·
  have h : 0 < r.random.length - s.c := h
  omega
theorem zfM {f : Fl} {r : Ins} {s : StS} (hS : jH f.vars r = some s) (hkd : ∀ v ∈ f.vars, 0 <= v.kind /\ v.kind <= 3) (hz : ∀ k : Int, 1 <= k -> k <= 3 -> ((xu r k).drop (jG s k)).length = 0) : zu f.vars r = if (f.vars.zip s.vals).all inB then 0 else 3 := by
 have hle := zfz hkd f.vars.length s (Nat.le_refl _) (by rw [List.take_length]; exact hS)
 have key : ∀ k : Int, 1 <= k -> k <= 3 -> jG s k = (xu r k).length := fun k h1 h3 => by
  have h4 := hz k h1 h3
  rw [List.length_drop] at h4
  have := hle k h1 h3
  omega
 have h1 : s.a = r.secret.length := key 1 (by omega) (by omega)
 have h2 : s.b = r.pub.length := key 2 (by omega) (by omega)
 have h3 : s.c = r.random.length := key 3 (by omega) (by omega)
 unfold zu
 rw [hS]
 dsimp only
 unfold yC
 rw [if_neg (by omega)]
theorem zgV {H : Hp} {w w0 : World} {bm : Nat} {v1 v2 v3 vv hv : Value} {vals hats : List Int} {m : Nat} (hI : VI [(w0, fun _ => False)] H w) (h0 : zm H 24 = some (.own bm [v1, v2, v3, vv, hv, .slice none 0 0, .int .i64 0] 180)) (h1 : zm H 900 = some (.row 3 1 vv vals.length (vals.map ze))) (h2 : zm H 901 = some (.row 3 1 hv m (hats.map ze))) : MachOk w bm v1 v2 v3 vv hv (.slice none 0 0) ⟨vals, [], 0⟩ /\ SlR 1 zv (fun b => hv.ownBlock = some b) w hv hats /\ (∀ q, qQ bm vv (.slice none 0 0) q \/ hv.ownBlock = some q -> w0.heap.size <= q /\ q < w.heap.size) /\ ∀ q, qQ bm vv (.slice none 0 0) q -> hv.ownBlock ≠ some q := by
 have o0 : ∀ q, q = bm -> w0.heap.size <= q /\ q < w.heap.size := fun q hq => ⟨hI.own 24 0 h0 rfl q hq, hI.low _ (zn h0) q hq⟩
 have o1 : ∀ q, vv.ownBlock = some q -> w0.heap.size <= q /\ q < w.heap.size := fun q hq => ⟨hI.own 900 0 h1 rfl q hq, hI.low _ (zn h1) q hq⟩
 have o2 : ∀ q, hv.ownBlock = some q -> w0.heap.size <= q /\ q < w.heap.size := fun q hq => ⟨hI.own 901 0 h2 rfl q hq, hI.low _ (zn h2) q hq⟩
 refine ⟨⟨hI.at 24 h0, hI.at 900 h1, World.ownsRow_nil w 0 _ 1, fun h => zC hI.apart h0 h1 rfl bm rfl h, fun h => (by cases h), fun q _ h => (by cases h)⟩, SlR.ofRow1 ze (fun _ _ => rfl) (hI.at 901 h2) (fun _ h => h), ?_, ?_⟩
 ·
  rintro q ((hq | hq | hq) | hq)
  . exact o0 q hq
  . exact o1 q hq
  . cases hq
  . exact o2 q hq
 ·
  rintro q (hq | hq | hq) hs
  . exact zC hI.apart h0 h2 rfl q hq hs
  . exact zC hI.apart h1 h2 rfl q hq hs
  . cases hq
theorem kH (f : Fl) (r : Ins) (v1 v2 v3 s1 s2 s3 : Value) (D : Nat -> Prop) (W : World) (hf : RFl D W f v1 v2 v3) (hi1 : SlR 1 zv D W s1 r.secret) (hi2 : SlR 1 zv D W s2 r.pub) (hi3 : SlR 1 zv D W s3 r.random) (hsz : zl f.body + zH f.hatches <= 1024) (hbk : zy f.body <= 1000000) :
  Calls Tryz.prog 119 #[.agg #[v1, v2, v3], .agg #[s1, s2, s3]] W (Ret fun rr w' => (∃ rv, rr = .tuple #[rv, .int .i64 (zA f r)] /\ (zA f r = 0 -> ∃ bm vv hv, rv = .pointer (some ⟨bm, 0, none⟩) /\ MachOk w' bm v1 v2 v3 vv hv (.slice none 0 0) (jh f r) /\ SlR 1 zv (fun b => hv.ownBlock = some b) w' hv (qX f r) /\ (∀ q, qQ bm vv (.slice none 0 0) q \/ hv.ownBlock = some q -> W.heap.size <= q /\ q < w'.heap.size) /\ ∀ q, qQ bm vv (.slice none 0 0) q -> hv.ownBlock ≠ some q)) /\ Ext W w') := by
 have hvs := hf.vars
 have hht := hf.hatches
 obtain ⟨av, cv, rfl⟩ := hvs.form
 obtain ⟨ah, ch, rfl⟩ := hht.form
 have hmx := hvs.max
 obtain ⟨a1, n1, rfl⟩ := hi1.form
 obtain ⟨a2, n2, rfl⟩ := hi2.form
 obtain ⟨a3, n3, rfl⟩ := hi3.form
 refine G.in2 Tryz.func119 rfl Tryz.ntmps119 rfl (V.inn ?_)
 refine Vs 2 rfl ?_
 refine V.box 2 rfl rfl (fun b2 => ?_)
 refine V.box 3 rfl rfl (fun b3 => ?_)
 refine Vs 8 rfl ?_
 refine V.call1 Tryz.call126 rfl (fun w hI => kE f _ _ v3 D w (Tr1 hI.k0 hf) hsz hbk) ?_
 refine Vs 9 rfl ?_
 refine V.ite rfl (fun c0 => ?_) (fun c0 => ?_)
 ·
  have hp : zA f r = zQ f := if_pos c0
  refine Vs 9 rfl ?_
  refine V.ret2 tr119 rfl rfl (fun w hI => ⟨_, rfl, ⟨_, by rw [hp], fun h => absurd (hp ▸ h) c0⟩, hI.k0⟩)
 ·
  have hc0 : zQ f = 0 := Decidable.not_not.1 c0
  have vd : Valid f := ⟨hc0, hsz, hbk⟩
  have hp : zA f r = zu f.vars r := if_neg c0
  have hkd := vd.kinds
  have hl := vd.lens
  refine Vs 5 rfl ?_
  refine V.bld [Value.slice none 0 0, Value.slice none 0 0, Value.slice none 0 0, Value.slice none 0 0, Value.slice none 0 0, Value.slice none 0 0, Value.int IntKind.i64 0] [(0, 3), (3, 1), (4, 1), (5, 1), (6, 1)] [(0, _)] rfl rfl (fun _ => by kernel_rfl) ?_
  refine V.box 24 rfl rfl (fun b24 => ?_)
  refine Vs 11 rfl ?_
  refine V.bld [Value.slice none 0 0, Value.slice none 0 0, Value.slice none 0 0, Value.slice none 0 0] [(0, 1), (1, 1), (2, 1), (3, 1)] [(1, _), (2, _), (3, _)] rfl rfl (fun _ => by kernel_rfl) ?_
  refine V.alloc 8 Tryz.zeroValue212 rfl rfl (fun b8 => ?_)
  refine Vs 18 rfl ?_
  refine V.nilrow 900 3 1 rfl ?_
  refine V.loopK (σ := Nat × StS × (Int -> Value) × Bool × Value) [2, 7, 8, 33, 34] [2] [2, 7, 8] rfl (fun e ⟨i, s, q, o, vv⟩ => (35, .int .i64 i) :: (9, .bool o) :: e) (fun e ⟨i, s, q, o, vv⟩ => (24, .own b24 [.slice av f.vars.length cv, .slice ah f.hatches.length ch, v3, vv, .slice none 0 0, .slice none 0 0, .int .i64 0] 180) :: (900, .row 3 1 vv s.vals.length (s.vals.map ze)) :: (8, .own b8 [.slice none 0 0, q 1, q 2, q 3] 212) :: e) (fun ⟨i, s, q, o, vv⟩ => i <= f.vars.length /\ (f.vars.take i).foldl (zp r) (some ⟨[], 0, 0, 0⟩) = some s /\ LeftOk D W r s q /\ o = !((f.vars.take i).zip s.vals).all inB) (fun ⟨i, s, q, o, vv⟩ => f.vars.length - i) ((0, ⟨[], 0, 0, 0⟩, fun k => if k = 1 then .slice a1 r.secret.length n1 else if k = 2 then .slice a2 r.pub.length n2 else .slice a3 r.random.length n3, false, .slice none 0 0)) (Sub.of rfl) (Has.of rfl) (fun _ => rfl) (fun _ => rfl) (fun _ => rfl) (⟨Nat.zero_le _, rfl, fun k h1 h3 => by rcases (show k = 1 \/ k = 2 \/ k = 3 by omega) with rfl | rfl | rfl <;> assumption, rfl⟩) ?_
  rintro ⟨i, s, q, o, vv⟩ ⟨hi, hS, hL, ho⟩
  show V _ _ _ _ _ ((35, .int .i64 i) :: (9, .bool o) :: _) _ ((24, .own b24 [.slice av f.vars.length cv, .slice ah f.hatches.length ch, v3, vv, .slice none 0 0, .slice none 0 0, .int .i64 0] 180) :: (900, .row 3 1 vv s.vals.length (s.vals.map ze)) :: (8, .own b8 [.slice none 0 0, q 1, q 2, q 3] 212) :: _) _
  refine Vs 6 rfl ?_
  refine V.ite rfl (fun hlt => ?_) (fun hlt => ?_)
  ·
   refine Vs 6 rfl ?_
   obtain ⟨x, he_x⟩ : ∃ z_, f.vars[i]? = some z_ := ⟨_, List.getElem?_eq_getElem (by omega)⟩
   have hm_x := List.mem_of_getElem? he_x
   obtain ⟨b_x, o_x, c_x, ha_x, _, hc_x, hR_x⟩ := hvs.at he_x
   obtain rfl := hR_x
   refine V.fr 1000 0 rfl rfl hc_x ?_
   refine V.ix 1000 tR52 ts120 rfl ha_x (by omega) (_) (rfl) rfl ?_
   obtain ⟨hlv, _⟩ := ki i s hi hS
   have hkx := hkd x hm_x
   have hvc := vd.varAt0 he_x
   refine Vs 1 rfl ?_
   refine V.alloc 11 tz120 rfl rfl (fun b11 => ?_)
   refine Vs 11 rfl ?_
   refine V.cutK (σ := Int × (Int -> Value) × Bool × StS) [2, 7, 8, 33, 34, 35] [2, 24, 900] [2, 7, 8] rfl (fun e ⟨n, q', o', s1⟩ => (12, .int .i64 n) :: (9, .bool o') :: e) (fun e ⟨n, q', o', s1⟩ => (8, .own b8 [.slice none 0 0, q' 1, q' 2, q' 3] 212) :: e) (fun ⟨n, q', o', s1⟩ => zp r (some s) x = some s1 /\ s1.vals = s.vals ++ [n] /\ LeftOk D W r s1 q' /\ o' = (o || !inB (x, n))) (fun _ => rfl) (fun _ => rfl) ?_ ?_
   ·
    refine Vs 7 rfl ?_
    refine V.ite rfl (fun hk => ?_) (fun hk => ?_)
    ·
     have hk3 : 1 <= x.kind /\ x.kind <= 3 := by omega
     obtain ⟨rest, hrest⟩ : ∃ rest, rest = (xu r x.kind).drop (jG s x.kind) := ⟨_, rfl⟩
     have hq := hL x.kind hk3.1 hk3.2
     rw [<- hrest] at hq
     obtain ⟨aq, cq, hqf⟩ := hq.form
     rw [hqf] at hq
     have hg0 := zgU hk3 hrest.symm
     refine Va 6 rfl (by omega) ?_
     refine V.ops1 rfl (fun w hI => R.load tg31 rfl (v := .slice aq rest.length cq) (by rw [<- hqf]; exact zaE (hI.at 8 rfl) hk3)) ?_
     refine Vs 4 rfl ?_
     refine V.ite rfl (fun z => ?_) (fun z => ?_)
     ·
      have hn : (f.vars.take (i + 1)).foldl (zp r) (some ⟨[], 0, 0, 0⟩) = none := by
       rw [zg he_x, List.foldl_append, hS]
       exact zfL hk3 (by rw [hg0, List.getElem?_eq_none (by omega)])
      have h1 : zu f.vars r = 1 := by unfold zu; rw [zaB hn]
      refine Vs 15 rfl ?_
      refine V.ret2 tr119 rfl rfl (fun w hI => ⟨_, rfl, ⟨_, by rw [hp, h1], fun h => by rw [hp, h1] at h; cases h⟩, hI.k0⟩)
     ·
      refine Va 7 rfl (by omega) ?_
      refine V.ops1 rfl (fun w hI => R.load tg31 rfl (v := .slice aq rest.length cq) (by rw [<- hqf]; exact zaE (hI.at 8 rfl) hk3)) ?_
      obtain ⟨y, he_y⟩ : ∃ z_, rest[0]? = some z_ := ⟨_, List.getElem?_eq_getElem (by omega)⟩
      have hm_y := List.mem_of_getElem? he_y
      obtain ⟨b_y, o_y, c_y, ha_y, _, hc_y, hR_y⟩ := hq.at he_y
      obtain rfl := hR_y
      refine V.fr 2000 0 rfl rfl hc_y ?_
      refine V.ix 2000 tR31 ts3 rfl ha_y (by omega) (_) (rfl) rfl ?_
      have hy0 : (xu r x.kind)[jG s x.kind]? = some y := by rw [hg0, he_y]
      refine Vs 5 rfl ?_
      refine Vw [2, 24, 8, 1000, 11, 2000] [8] rfl ?_
      refine Vb [0, 1, 2, 3, 4] 0 (by kernel_rfl) rfl rfl rfl (by omega) ?_
      refine VD.ldH 5 rfl (by kernel_rfl) rfl 0 rfl rfl (fun w hI => R.load tg31 rfl (v := .slice aq rest.length cq) (by rw [<- hqf]; exact zaE (hI.at 8 rfl) hk3)) ?_
      refine VD.pl 6 rfl (by kernel_rfl) rfl (fun w => R.sliceLo tR31 ts3 rfl rfl (by omega)) ?_
      refine Vb [7] 0 (by kernel_rfl) rfl rfl rfl (by omega) ?_
      refine VD.stO 8 8 (x.kind.toNat) ts31 rfl (by kernel_rfl) rfl (rfl) (by omega) (by simp; omega) ?_
      refine VDx.done (by kernel_rfl) ?_
      refine Vs 1 rfl ?_
      refine V.heq 8 rfl (e' := .own b8 [.slice none 0 0, (if 1 = x.kind then (.slice (if cq = 1 then aq else aq.map (·.add (1 * 1))) (rest.length - 1) (cq - 1)) else q 1), (if 2 = x.kind then (.slice (if cq = 1 then aq else aq.map (·.add (1 * 1))) (rest.length - 1) (cq - 1)) else q 2), (if 3 = x.kind then (.slice (if cq = 1 then aq else aq.map (·.add (1 * 1))) (rest.length - 1) (cq - 1)) else q 3)] 212) (by rw [zgT hk3]; rfl) ?_
      refine Vs 3 rfl ?_
      refine V.sb 65 rfl (fun b1 => ?_) (fun b1 => ?_)
      ·
       subst b1
       refine Vs 13 rfl ?_
       refine V.meet (⟨y, fun j => if j = x.kind then (.slice (if cq = 1 then aq else aq.map (·.add (1 * 1))) (rest.length - 1) (cq - 1)) else q j, true, je s x.kind y⟩) (Sub.of rfl) (Has.of rfl) (⟨zbH hk3 hy0, kh _ _ _, hL.next hk3 hrest hq (by omega), rfl⟩) 0 rfl rfl
      ·
       subst b1
       refine Vs 6 rfl ?_
       refine V.sp 71 rfl (fun b2 => ?_) (fun b2 => ?_)
       ·
        refine Vs 7 rfl ?_
        refine V.meet (⟨y, fun j => if j = x.kind then (.slice (if cq = 1 then aq else aq.map (·.add (1 * 1))) (rest.length - 1) (cq - 1)) else q j, true, je s x.kind y⟩) (Sub.of rfl) (Has.of rfl) (⟨zbH hk3 hy0, kh _ _ _, hL.next hk3 hrest hq (by omega), by simp [inB]; omega⟩) 0 rfl rfl
       ·
        refine Vs 7 rfl ?_
        refine V.meet (⟨y, fun j => if j = x.kind then (.slice (if cq = 1 then aq else aq.map (·.add (1 * 1))) (rest.length - 1) (cq - 1)) else q j, decide (x.high < y), je s x.kind y⟩) (Sub.of rfl) (Has.of rfl) (⟨zbH hk3 hy0, kh _ _ _, hL.next hk3 hrest hq (by omega), ziy b2⟩) 0 rfl rfl
    ·
     refine Vs 1 rfl ?_
     refine V.meet (⟨x.init, q, o, ⟨s.vals ++ [x.init], s.a, s.b, s.c⟩⟩) (Sub.of rfl) (Has.of rfl) (⟨zfK (by omega), rfl, hL, by have := zcD hvc (by omega); simp [inB, this.1, this.2]⟩) 0 rfl rfl
   rintro ⟨n, q', o', s1⟩ ⟨hst, hsv, hL', ho'⟩
   show V _ _ _ _ _ ((12, .int .i64 n) :: (9, .bool o') :: _) _ ((8, .own b8 [.slice none 0 0, q' 1, q' 2, q' 3] 212) :: _) _
   refine Vs 8 rfl ?_
   refine V.bs 83 [(0, _)] tR31 ts3 tz3 (by decide) rfl rfl (by kernel_rfl) (fun b83 => ?_)
   refine V.ap 900 83 tu31 Tryz.el3 rfl (by decide) rfl rfl (by omega) (by omega) (fun u900 => ?_)
   refine Vs 2 rfl ?_
   refine V.opened 900 rfl (by omega) ?_
   rintro bq cq rfl hcap_900
   refine Va 8 rfl (by omega) ?_
   refine V.heq 900 rfl (e' := .row 3 1 (.slice (some ⟨bq, 0, none⟩) (s.vals.length + 1) cq) s1.vals.length (s1.vals.map ze)) (by rw [hsv, List.length_append, List.map_append]; rfl) ?_
   refine V.back (⟨i + 1, s1, q', o', _⟩) (Sub.of rfl) (Has.of rfl) (⟨by omega, zeH he_x hS hst, hL', by rw [ho', ho, hsv, zgQ he_x s.vals (by omega) n]; cases ((f.vars.take i).zip s.vals).all inB <;> cases inB (x, n) <;> rfl⟩) (by first | omega | (dsimp only; omega)) 0 rfl rfl
  ·
   obtain rfl : i = f.vars.length := by omega
   rw [List.take_length] at hS ho
   have hSS : jH f.vars r = some s := hS
   refine Vs 13 rfl ?_
   refine V.loopK (σ := Nat) [2, 7, 9, 88] [2, 24, 900] [2, 7] rfl (fun e j => (89, .int .i64 j) :: e) (fun e j => e) (fun j => j <= 4 /\ ∀ k : Int, 1 <= k -> k < j -> k <= 3 -> ((xu r k).drop (jG s k)).length = 0) (fun j => 4 - j) (0) (Sub.of rfl) (Has.of rfl) (fun _ => rfl) (fun _ => rfl) (fun _ => rfl) (⟨by omega, fun k h1 h2 => by omega⟩) ?_
   rintro j ⟨hj, hzero⟩
   refine Vs 6 rfl ?_
   refine V.ite rfl (fun hj4 => ?_) (fun hj4 => ?_)
   ·
    obtain ⟨al, ln, cl, hv, hl0, hl1⟩ := zi1 hL (j := j) (by omega)
    refine Vs 6 rfl ?_
    refine V.ops1 rfl (fun w hI => R.indexG Tryz.runUnderlying212 ts31 tg31 rfl rfl (by omega) (by simpa using hv)) ?_
    refine Vs 10 rfl ?_
    refine V.ite rfl (fun z => ?_) (fun z => ?_)
    ·
     have hj0 : 1 <= j := by omega
     have h1 := zeI hSS (k := (j : Int)) (by omega) (by have := hl1 hj0; omega)
     refine Vs 12 rfl ?_
     refine V.ret2 tr119 rfl rfl (fun w hI => ⟨_, rfl, ⟨_, by rw [hp, h1], fun h => by rw [hp, h1] at h; cases h⟩, hI.k0⟩)
    ·
     refine Va 7 rfl (by omega) ?_
     refine V.back (j + 1) (Sub.of rfl) (Has.of rfl) (⟨by omega, fun k h1 h2 h3 => by by_cases e : k = (j : Int); (· rw [e]; have := hl1 (by omega); omega); (· exact hzero k h1 (by omega) h3)⟩) (by first | omega | (dsimp only; omega)) 0 rfl rfl
   ·
    have hfin := zfM hSS hkd fun k h1 h3 => hzero k h1 (by omega) h3
    refine Vs 11 rfl ?_
    refine V.bool rfl (fun o1 => ?_) (fun o1 => ?_)
    ·
     have h3 : zu f.vars r = 3 := by rw [hfin, if_neg (by rw [ho] at o1; simpa using o1)]
     refine Vs 8 rfl ?_
     refine V.ret2 tr119 rfl rfl (fun w hI => ⟨_, rfl, ⟨_, by rw [hp, h3], fun h => by rw [hp, h3] at h; cases h⟩, hI.k0⟩)
    ·
     have h0 : zu f.vars r = 0 := by rw [hfin, if_pos (by rw [ho] at o1; simpa using o1)]
     have hsv : yw f.vars r = s.vals := by unfold yw; rw [hSS]
     have hV : InV f.vars s.vals := hsv ▸ zaD h0
     refine V.nilrow 901 3 1 rfl ?_
     refine Vs 12 rfl ?_
     refine V.loopK (σ := Nat × Value) [7, 98, 99] [900] [7] rfl (fun e ⟨i, hv⟩ => (100, .int .i64 i) :: e) (fun e ⟨i, hv⟩ => (24, .own b24 [.slice av f.vars.length cv, .slice ah f.hatches.length ch, v3, vv, hv, .slice none 0 0, .int .i64 0] 180) :: (901, .row 3 1 hv i ((zea s.vals (f.hatches.take i)).map ze)) :: e) (fun ⟨i, hv⟩ => i <= f.hatches.length) (fun ⟨i, hv⟩ => f.hatches.length - i) ((0, .slice none 0 0)) (Sub.of rfl) (Has.of rfl) (fun _ => rfl) (fun _ => rfl) (fun _ => rfl) (Nat.zero_le _) ?_
     rintro ⟨i, hv⟩ hi
     show V _ _ _ _ _ ((100, .int .i64 i) :: _) _ ((24, .own b24 [.slice av f.vars.length cv, .slice ah f.hatches.length ch, v3, vv, hv, .slice none 0 0, .int .i64 0] 180) :: (901, .row 3 1 hv i ((zea s.vals (f.hatches.take i)).map ze)) :: _) _
     refine Vs 6 rfl ?_
     refine V.ite rfl (fun hlt => ?_) (fun hlt => ?_)
     ·
      refine Vs 6 rfl ?_
      obtain ⟨x, he_x⟩ : ∃ z_, f.hatches[i]? = some z_ := ⟨_, List.getElem?_eq_getElem (by omega)⟩
      have hm_x := List.mem_of_getElem? he_x
      obtain ⟨b_x, o_x, c_x, ha_x, _, hc_x, hR_x⟩ := hht.at he_x
      obtain ⟨v1_x, rfl, hk_x⟩ := hR_x
      obtain ⟨a1_x, n1_x, rfl⟩ := hk_x.form
      refine V.fr 3000 0 rfl rfl hc_x ?_
      refine V.ix 3000 tR53 ts137 rfl ha_x (by omega) (_) (rfl) rfl ?_
      obtain ⟨g1, g2, _, g4⟩ := vd.hatch x hm_x
      refine Vs 1 rfl ?_
      refine V.alloc 16 tz137 rfl rfl (fun b16 => ?_)
      refine Vs 3 rfl ?_
      refine Vw [24, 3000, 16] [21] rfl ?_
      refine Vd [0, 1, 2, 3, 4, 5, 6, 7, 8, 9, 10, 12, 13, 14, 15] 0 (by kernel_rfl) rfl rfl rfl ?_
      refine VD.call1 11 0 tc148 rfl (by kernel_rfl) rfl rfl (fun w hI => jF vd.good hV x.term g1 g2 _ D (fun _ => True) w _ (SlR.ofRow1 ze (fun _ _ => rfl) (hI.at 900 rfl) (fun _ _ => trivial)) (RTm.put (Tr1 hI.k0 hk_x))) ?_
      refine VD.call1 16 0 Tryz.call147 rfl (by kernel_rfl) rfl rfl (fun w hI => qu _ x.low x.high w g4) ?_
      refine VD.bs 17 121 0 [(0, _)] tR31 ts3 tz3 (by decide) rfl (by kernel_rfl) rfl rfl (by kernel_rfl) (fun b121 => ?_)
      refine VD.ap 18 901 121 0 tu31 Tryz.el3 rfl (by decide) rfl (by kernel_rfl) rfl rfl rfl (by omega) (by omega) (fun u901 => ?_)
      refine Vd [19, 20] 0 (by kernel_rfl) rfl rfl rfl ?_
      refine VD.opened 901 rfl (by omega) ?_
      rintro bh chh rfl hcap_901
      refine Vl 21 rfl (by kernel_rfl) rfl ?_
      refine VDx.done (by kernel_rfl) ?_
      refine Va 6 rfl (by omega) ?_
      refine V.heq 901 rfl (e' := .row 3 1 (.slice (some ⟨bh, 0, none⟩) (i + 1) chh) (i + 1) ((zea s.vals (f.hatches.take (i + 1))).map ze)) (by rw [zcA he_x, List.map_append]; rfl) ?_
      refine V.back (⟨i + 1, _⟩) (Sub.of rfl) (Has.of rfl) (by omega) (by first | omega | (dsimp only; omega)) 0 rfl rfl
     ·
      obtain rfl : i = f.hatches.length := by omega
      have hsg : jh f r = ⟨s.vals, [], 0⟩ := by unfold jh; rw [hsv]
      have hht' : qX f r = zea s.vals (f.hatches.take f.hatches.length) := by rw [List.take_length, <- hsv]
      rw [hsg, hht']
      refine Vs 13 rfl ?_
      refine V.ret2 tr119 rfl rfl (fun w hI => ⟨_, rfl, ⟨_, by rw [hp, h0], fun _ => ⟨b24, vv, hv, rfl, zgV hI rfl rfl rfl⟩⟩, hI.k0⟩)
abbrev ziV (hv : Value) (l : List Int) : HE := .res (fun q => hv.ownBlock = some q) (fun w => SlR 1 zv (fun b => hv.ownBlock = some b) w hv l)
theorem zgW (hv : Value) (l : List Int) : (ziV hv l).loc := fun _ _ _ h hk hT => SlR.keep zb h hk fun q hq hlt => hT q hlt hq
theorem zgX {f : Fl} {r : Ins} {v1 v2 v3 : Value} {H : Hp} {W w : World} {g : FuncId} {args : Array Value} (_ : W.heap.size <= w.heap.size) (h0 : zA f r = 0)
  (hc : Calls Tryz.prog g args w (Ret fun rr w' => (∃ rv, rr = .tuple #[rv, .int .i64 (zA f r)] /\ (zA f r = 0 -> ∃ bm vv hv, rv = .pointer (some ⟨bm, 0, none⟩) /\ MachOk w' bm v1 v2 v3 vv hv (.slice none 0 0) (jh f r) /\ SlR 1 zv (fun b => hv.ownBlock = some b) w' hv (qX f r) /\ (∀ q, qQ bm vv (.slice none 0 0) q \/ hv.ownBlock = some q -> w.heap.size <= q /\ q < w'.heap.size) /\ ∀ q, qQ bm vv (.slice none 0 0) q -> hv.ownBlock ≠ some q)) /\ Ext w w')) :
  Calls Tryz.prog g args w (Ret fun rr w' => ∃ x : Nat × Value × Value, rr = .tuple #[.pointer (some ⟨x.1, 0, none⟩), .int .i64 0] /\ Hands H [] ((903, ziV x.2.2 (qX f r)) :: jj x.1 v1 v2 v3 x.2.1 x.2.2 (.slice none 0 0) (jh f r)) w w') := by
 refine hc.mono ?_
 rintro _ w' ⟨rr, rfl, ⟨rv, rfl, hs⟩, hk⟩
 obtain ⟨bm, vv, hv, rfl, hM, hh, hS, hap⟩ := hs h0
 obtain ⟨l1, l2⟩ := hM.lent
 refine ⟨_, rfl, (bm, vv, hv), by rw [h0], hk.mono fun q _ h => h.elim, fun x hx => ?_, List.pairwise_cons.2 ⟨fun x hx q hq hs => ?_, l2⟩⟩
 ·
  rcases List.mem_cons.1 hx with rfl | hx
  . exact ⟨hh, zgW _ _, fun _ h => h, fun q hq => ⟨.inr (hS q (.inr hq)).1, (hS q (.inr hq)).2⟩⟩
  ·
   obtain ⟨k1, k2, k3, k4⟩ := l1 x hx
   exact ⟨k1, k2, k3, fun q hq => ⟨.inr (hS q (.inl (machHS.1 ⟨x, hx, hq⟩))).1, k4 q hq⟩⟩
 . exact hap q (machHS.1 ⟨x, hx, hs⟩) hq
theorem ziz {f : Fl} (vd : Valid f) : 0 + nbL f.body <= 100000 := by
 have := vd.nb; omega
theorem ziA {H : Hp} {w w0 : World} {D : Nat -> Prop} {bm : Nat} {v1 v2 v3 vv hv ov : Value} {σ : Sg} {l : List Int} (hI : VI [(w0, fun _ => False)] H w) (h0 : zm H 900 = some (.own bm [v1, v2, v3, vv, hv, ov, .int .i64 σ.time] 180)) (h1 : zm H 901 = some (.row 3 1 vv σ.vals.length (σ.vals.map ze))) (h2 : zm H 902 = some (.row 3 1 ov σ.outs.length (σ.outs.map ze))) (h3 : zm H 903 = some (ziV hv l)) : ∀ q, qQ bm vv ov q -> ¬ (D q /\ q < w0.heap.size) /\ hv.ownBlock ≠ some q := by
 rintro q (hq | hq | hq)
 . exact ⟨fun h => by have := hI.own 900 0 h0 rfl q hq; omega, fun h => zC hI.apart h0 h3 rfl q hq h⟩
 . exact ⟨fun h => by have := hI.own 901 0 h1 rfl q hq; omega, fun h => zC hI.apart h1 h3 rfl q hq h⟩
 . exact ⟨fun h => by have := hI.own 902 0 h2 rfl q hq; omega, fun h => zC hI.apart h2 h3 rfl q hq h⟩
theorem zeJ (f : Fl) (r : Ins) (v1 v2 v3 s1 s2 s3 : Value) (D : Nat -> Prop) (W : World) (hf0 : RFl D W f v1 v2 v3) (hi1 : SlR 1 zv D W s1 r.secret) (hi2 : SlR 1 zv D W s2 r.pub) (hi3 : SlR 1 zv D W s3 r.random) (hsz : zl f.body + zH f.hatches <= 1024) (hbk : zy f.body <= 1000000) :
  Calls Tryz.prog 87 #[.agg #[v1, v2, v3], .agg #[s1, s2, s3]] W (Ret fun rr w' => (∃ ov t, rr = .tuple #[.agg #[ov, .int .i64 t], .int .i64 (zA f r)] /\ (zA f r ≠ 0 -> ov = .slice none 0 0 /\ t = 0) /\ (zA f r = 0 -> t = (xF f r).time /\ SlR 1 zv (fun b => W.heap.size <= b) w' ov (xF f r).outs)) /\ Ext W w') := by
 have hf := hf0.narrow
 refine G.in2 Tryz.func87 rfl Tryz.ntmps87 rfl (V.inn ?_)
 refine Vs 2 rfl ?_
 refine V.box 2 rfl rfl (fun b2 => ?_)
 refine V.box 3 rfl rfl (fun b3 => ?_)
 refine V.alloc 4 tz60 rfl rfl (fun b4 => ?_)
 refine Vs 4 rfl ?_
 refine V.cases (p := zA f r = 0) (fun hc => ?_) (fun hc => ?_)
 ·
  have hck : zQ f = 0 := by
   unfold zA at hc
   split at hc
   . rename_i h; exact absurd hc h
   . rename_i h; exact Decidable.not_not.1 h
  have vd : Valid f := ⟨hck, hsz, hbk⟩
  have hst : zu f.vars r = 0 := by unfold zA at hc; rwa [if_neg (by omega)] at hc
  have hvl := vd.lens
  have hss := vd.ssize
  have hnb := ziz vd
  refine Vs 3 rfl ?_
  refine V.callMs [] (Hn := fun x : Nat × Value × Value => [(903, ziV x.2.2 (qX f r)), (900, .own x.1 [v1, v2, v3, x.2.1, x.2.2, (.slice none 0 0), .int .i64 (jh f r).time] 180), (901, .row 3 1 x.2.1 (jh f r).vals.length ((jh f r).vals.map ze)), (902, .row 3 1 (.slice none 0 0) (jh f r).outs.length ((jh f r).outs.map ze))]) [(2, some (2, 0)), (3, some (3, 0)), (4, some (4, 0))] Tryz.call119 rfl (fun _ _ => rfl) (fun _ => rfl) (fun w hI => zgX (hI.k0).size hc (kH f r v1 v2 v3 s1 s2 s3 D w (Tr1 hI.k0 hf0) (Tr1 hI.k0 hi1) (Tr1 hI.k0 hi2) (Tr1 hI.k0 hi3) hsz hbk)) ?_
  rintro _ ⟨bm, vv, hv⟩ rfl
  refine Vs 9 rfl ?_
  refine V.tag 6 900 0 rfl rfl ?_
  refine Vs 5 rfl ?_
  refine V.ite rfl (fun c0 => ?_) (fun c0 => ?_)
  . exact absurd rfl c0
  ·
   refine Vs 7 rfl ?_
   refine V.callMs [900, 901, 902] (Hn := fun ov' : Value => [(900, .own bm [v1, v2, v3, vv, hv, ov', .int .i64 (xF f r).time] 180), (901, .row 3 1 vv (xF f r).vals.length ((xF f r).vals.map ze)), (902, .row 3 1 ov' (xF f r).outs.length ((xF f r).outs.map ze))]) [(2, some (2, 0)), (3, some (3, 0)), (4, some (4, 0)), (6, some (900, 0)), (18, some (900, 0)), (19, some (2, 2))] Tryz.call120 rfl (fun _ _ => rfl) (fun _ => rfl) (fun w hI => jk (σ := jh f r) (zi0 f (qX f r) vd.good (by simp [zea]) (by omega) f.body (kW vd) 0 (jh f r) (jJ hst) hnb (fun b => D b /\ b < W.heap.size) (fun b => hv.ownBlock = some b) w bm v1 v2 v3 vv hv _ _ (fun q hq => hq.elim (fun h => Nat.lt_of_lt_of_le h.2 (hI.k0).size) (fun h => hI.low _ (zn (k := 903) rfl) q h)) (Tr1 hI.k0 hf) (hI.at 903 rfl) (Tr1 hI.k0 hf.body) (kG hI rfl rfl rfl) (ziA hI rfl rfl rfl rfl)) (hI.k0).size rfl rfl rfl) ?_
   rintro _ ov' ⟨rfl, hov⟩
   refine V.fact (fun w hI => qG (show w.ownsRow 0 3 1 ov' _ _ from hI.at 902 rfl)) ?_
   rintro ⟨ao, co, rfl⟩
   refine Vs 3 rfl ?_
   refine Vw [2, 3, 4, 900] [9] rfl ?_
   refine Vd [0, 1, 2, 3, 4, 5, 6, 7] 0 (by kernel_rfl) rfl rfl rfl ?_
   refine VD.bld 8 [Value.slice none 0 0, Value.int IntKind.i64 0] [(0, 1), (1, 1)] [(0, _), (1, _)] rfl (by kernel_rfl) rfl rfl (fun _ => by kernel_rfl) ?_
   refine Vl 9 rfl (by kernel_rfl) rfl ?_
   refine Vx [10] (by kernel_rfl) rfl ?_
   refine VDx.done (by kernel_rfl) ?_
   refine Vs 2 rfl ?_
   refine V.retCT Tryz.results87 tg60 ts60 rfl rfl rfl rfl (fun w hI => ⟨_, rfl, ⟨_, _, by rw [hc], fun h => absurd hc h, fun _ => ⟨rfl, SlR.ofRow1 ze (fun _ _ => rfl) (hI.at 902 rfl) (fun b hb => hI.own 902 0 rfl rfl b hb)⟩⟩, hI.k0⟩)
 ·
  refine Vs 3 rfl ?_
  refine V.call2 Tryz.call119 rfl (fun w hI => kH f r v1 v2 v3 s1 s2 s3 D w (Tr1 hI.k0 hf0) (Tr1 hI.k0 hi1) (Tr1 hI.k0 hi2) (Tr1 hI.k0 hi3) hsz hbk) ?_
  rintro rr w1 w2 hI1 hk12 ⟨rv, rfl, _⟩ hlow
  refine Vs 14 rfl ?_
  refine V.ite rfl (fun c0 => ?_) (fun c0 => ?_)
  ·
   refine Vs 2 rfl ?_
   refine V.bld [Value.slice none 0 0, Value.int IntKind.i64 0] [(0, 1), (1, 1)] [] rfl rfl (fun _ => by kernel_rfl) ?_
   refine Vs 7 rfl ?_
   refine V.retCT Tryz.results87 tg60 ts60 rfl rfl rfl rfl (fun w hI => ⟨_, rfl, ⟨_, _, rfl, fun _ => ⟨rfl, rfl⟩, fun h => absurd h hc⟩, hI.k1⟩)
  . exact absurd hc c0
theorem zed (a : Int) (w : World) : Calls Tryz.prog 154 #[.int .i64 a] w (Ret fun r w' => r = .bool false /\ Ext w w') := by
 refine G.in1 Tryz.func154 rfl Tryz.ntmps154 rfl (Gs 14 rfl (G.ret1 Tryz.results154 rfl ⟨_, rfl, by simp, Keep.refl _ _⟩))
theorem ziB (a b : Int) (w : World) : Calls Tryz.prog 125 #[.int .i64 a, .int .i64 b] w (Ret fun r w' => r = .int .i64 (if a < b then -1 else if b < a then 1 else 0) /\ Ext w w') := by
 refine G.in2 Tryz.func125 rfl Tryz.ntmps125 rfl (Gs 8 rfl (G.call rfl Tryz.call154 (zed a w) ?_))
 rintro _ w1 ⟨rfl, hk1⟩
 refine Gs 6 rfl (G.call rfl Tryz.call154 (zed b w1) ?_)
 rintro _ w2 ⟨rfl, hk2⟩
 refine Gs 9 rfl (G.ff rfl (rfl) (Gs 8 rfl (G.ff rfl (rfl) (Gs 10 rfl (G.ite0 rfl (fun h => ?_) (fun h => ?_))))))
 . refine Gs 7 rfl (G.ret1 Tryz.results125 rfl ⟨_, rfl, by rw [if_pos h], hk1.ext hk2⟩)
 ·
  refine Gs 10 rfl (G.ite0 rfl (fun h2 => ?_) (fun h2 => ?_))
  . refine Gs 7 rfl (G.ret1 Tryz.results125 rfl ⟨_, rfl, by rw [if_neg h, if_pos h2], hk1.ext hk2⟩)
  . refine Gs 8 rfl (G.ret1 Tryz.results125 rfl ⟨_, rfl, by rw [if_neg h, if_neg (by omega)], hk1.ext hk2⟩)
def xW : List Int -> List Int -> Int
 | [], [] => 0
 | [], _ :: _ => -1
 | _ :: _, [] => 1
 | x :: xs, y :: ys => if x < y then -1 else if y < x then 1 else xW xs ys
theorem zdy (xs ys : List Int) (u v : Value) (D D' : Nat -> Prop) (w : World) (hx : SlR 1 zv D w u xs) (hy : SlR 1 zv D' w v ys) : Calls Tryz.prog 90 #[u, v] w (Ret fun r w' => r = .int .i64 (xW xs ys) /\ Ext w w') := by
 obtain ⟨ao, cx, rfl, hxc, hxm, hxe⟩ := hx
 obtain ⟨bo, cy, rfl, hyc, hym, hye⟩ := hy
 refine G.in2 Tryz.func90 rfl Tryz.ntmps90 rfl (Gs 14 rfl (G.loop (σ := Nat) (fun k => [(0, .slice ao xs.length cx), (1, .slice bo ys.length cy), (9, .slice ao xs.length cx), (10, .int .i64 xs.length), (11, .int .i64 k)]) (fun k => fun w' => k <= xs.length /\ k <= ys.length /\ xW (xs.drop k) (ys.drop k) = xW xs ys /\ Ext w w') (fun k => xs.length - k) (0) (Sub.of rfl) (⟨Nat.zero_le _, Nat.zero_le _, rfl, Keep.refl _ _⟩) ?_))
 rintro k w1 ⟨hkx, hky, hc, hk1⟩
 refine Gs 6 rfl (G.ite0 rfl (fun hlt => ?_) (fun hge => ?_))
 ·
  obtain ⟨x, hx⟩ : ∃ x, xs[k]? = some x := ⟨_, List.getElem?_eq_getElem (by omega)⟩
  obtain ⟨b1, o1, c1, hao, _, hcl1, hcs1, rfl⟩ := hxe k x hx
  have hdx : xs.drop k = x :: xs.drop (k + 1) := by
   obtain ⟨h1, h2⟩ := List.getElem?_eq_some_iff.1 hx
   rw [List.drop_eq_getElem_cons h1, h2]
  refine Gs 7 rfl (G.ops1 rfl rfl (R.indexS tR31 ts3 rfl rfl hao (by omega)) (G.ld rfl tg3 ((hk1.cells hcs1 (fun h => h)) 0 _ rfl) (Gs 13 rfl (G.ite0 rfl (fun hgy => ?_) (fun hly => ?_)))))
  ·
   have : ys.drop k = [] := List.drop_of_length_le (by omega)
   refine Gs 12 rfl (G.ret1 tr90 rfl ⟨_, rfl, by rw [<- hc, hdx, this]; rfl, hk1⟩)
  ·
   obtain ⟨y, hy⟩ : ∃ y, ys[k]? = some y := ⟨_, List.getElem?_eq_getElem (by omega)⟩
   obtain ⟨b2, o2, c2, hbo, _, hcl2, hcs2, rfl⟩ := hye k y hy
   have hdy : ys.drop k = y :: ys.drop (k + 1) := by
    obtain ⟨h1, h2⟩ := List.getElem?_eq_some_iff.1 hy
    rw [List.drop_eq_getElem_cons h1, h2]
   have hcc : (if x < y then -1 else if y < x then 1 else xW (xs.drop (k + 1)) (ys.drop (k + 1))) = xW xs ys := by rw [<- hc, hdx, hdy]; rfl
   refine Gs 6 rfl (G.ops1 rfl rfl (R.indexS tR31 ts3 rfl rfl hbo (by omega)) (G.ld rfl tg3 ((hk1.cells hcs2 (fun h => h)) 0 _ rfl) (Gs 7 rfl (G.call rfl Tryz.call125 (ziB x y w1) ?_))))
   rintro _ w2 ⟨rfl, hk2⟩
   refine Gs 9 rfl (G.ite0 rfl (fun hn => ?_) (fun he => ?_))
   ·
    refine Gs 12 rfl (G.ret1 tr90 rfl ⟨_, rfl, ?_, hk1.ext hk2⟩)
    rw [<- hcc]
    by_cases h1 : x < y
    . rw [if_pos h1, if_pos h1]
    ·
     by_cases h2 : y < x
     . rw [if_neg h1, if_pos h2, if_neg h1, if_pos h2]
     . exact absurd (by rw [if_neg h1, if_neg h2]) hn
   ·
    have h1 : ¬ x < y := fun h => he (by rw [if_pos h]; decide)
    have h2 : ¬ y < x := fun h => he (by rw [if_neg h1, if_pos h]; decide)
    rw [if_neg h1, if_neg h2] at hcc
    refine Ga 7 rfl (by omega) (G.back (k + 1) (Sub.of rfl) (⟨by omega, by omega, hcc, hk1.ext hk2⟩) (by first | omega | (dsimp only; omega)))
 ·
  have hdx : xs.drop k = [] := List.drop_of_length_le (by omega)
  refine Gs 15 rfl (G.ite0 rfl (fun hl2 => ?_) (fun hg2 => ?_))
  ·
   obtain ⟨y, hy⟩ : ∃ y, ys[k]? = some y := ⟨_, List.getElem?_eq_getElem (by omega)⟩
   have hdy : ys.drop k = y :: ys.drop (k + 1) := by
    obtain ⟨h1, h2⟩ := List.getElem?_eq_some_iff.1 hy
    rw [List.drop_eq_getElem_cons h1, h2]
   refine Gs 7 rfl (G.ret1 tr90 rfl ⟨_, rfl, by rw [<- hc, hdx, hdy]; rfl, hk1⟩)
  ·
   have hdy : ys.drop k = [] := List.drop_of_length_le (by omega)
   refine Gs 8 rfl (G.ret1 tr90 rfl ⟨_, rfl, by rw [<- hc, hdx, hdy]; rfl, hk1⟩)
def yj (x y : List Int × Int) : Int := if xW x.1 y.1 ≠ 0 then xW x.1 y.1 else if x.2 < y.2 then -1 else if y.2 < x.2 then 1 else 0
theorem xN (x y : List Int × Int) (u v : Value) (D D' : Nat -> Prop) (W : World) (hx : SlR 1 zv D W u x.1) (hy : SlR 1 zv D' W v y.1) :
  Calls Tryz.prog 54 #[.agg #[u, .int .i64 x.2], .agg #[v, .int .i64 y.2]] W (Ret fun r w' => r = .int .i64 (yj x y) /\ Ext W w') := by
 refine G.in2 Tryz.func54 rfl Tryz.ntmps54 rfl (V.inn ?_)
 refine Vs 2 rfl ?_
 refine V.box 2 rfl rfl (fun b2 => ?_)
 refine V.box 3 rfl rfl (fun b3 => ?_)
 refine Vs 10 rfl ?_
 refine V.call1 Tryz.call90 rfl (fun w hI => zdy x.1 y.1 u v D D' w (Tr1 hI.k0 hx) (Tr1 hI.k0 hy)) ?_
 refine Vs 9 rfl ?_
 refine V.ite rfl (fun h0 => ?_) (fun h0 => ?_)
 ·
  refine Vs 8 rfl ?_
  refine V.ret1 tr54 rfl (fun w hI => ⟨_, rfl, by unfold yj; rw [if_pos h0], hI.k0⟩)
 ·
  refine Vs 14 rfl ?_
  refine V.ite rfl (fun h1 => ?_) (fun h1 => ?_)
  ·
   refine Vs 8 rfl ?_
   refine V.ret1 tr54 rfl (fun w hI => ⟨_, rfl, by unfold yj; rw [if_neg h0, if_pos h1], hI.k0⟩)
  ·
   refine Vs 10 rfl ?_
   refine V.ite rfl (fun h2 => ?_) (fun h2 => ?_)
   ·
    refine Vs 8 rfl ?_
    refine V.ret1 tr54 rfl (fun w hI => ⟨_, rfl, by unfold yj; rw [if_neg h0, if_neg h1, if_pos h2], hI.k0⟩)
   ·
    refine Vs 9 rfl ?_
    refine V.ret1 tr54 rfl (fun w hI => ⟨_, rfl, by unfold yj; rw [if_neg h0, if_neg h1, if_neg (by omega)], hI.k0⟩)
def kN : List Vr -> List Int -> Int -> Option Int
 | v :: vs, x :: xs, n => if x < v.low \/ v.high < x then none else kN vs xs (n * (v.high - v.low + 1) + x - v.low)
 | _, _, n => some n
def yR (k : Int) (vs : List Vr) (r : List Int) : Int × Int :=
 if (zj k vs).isSome then (if r.length = (zd k vs).length then (match kN (zd k vs) r 0 with | none => (0, 3) | some n => (n, 0)) else (0, 2)) else (0, 4)
theorem zb3 {k : Int} {vs : List Vr} (h : (zj k vs).isSome = true) (i : Nat) : ∃ m, zL k ((zd k vs).take i) 1 = some m := by
 unfold zj at h
 rw [<- yu, <- List.take_append_drop i (zd k vs), zI] at h
 cases hm : zL k ((zd k vs).take i) 1 with
 | none => rw [hm] at h; cases h
 | some m => exact ⟨m, rfl⟩
theorem yY {k : Int} {vs : List Vr} {v : Vr} (h : v ∈ zd k vs) : v ∈ vs := (List.mem_filter.1 h).1
theorem yD {α : Type} {l : List α} {i : Nat} {x : α} (h : l[i]? = some x) : l.drop i = x :: l.drop (i + 1) := by
 obtain ⟨h1, h2⟩ := List.getElem?_eq_some_iff.1 h
 rw [List.drop_eq_getElem_cons h1, h2]
theorem zcE {n m s x l : Int} (h0 : 0 <= n) (h1 : n < m) (h2 : x - l < s) (h3 : 0 <= x - l) (h4 : m * s <= 4096) : 0 <= n * s /\ n * s <= 4096 /\ n * s + x - l < m * s /\ 0 <= n * s + x - l := by
 have hs : 0 <= s := by omega
 have a : 0 <= n * s := Int.mul_nonneg h0 hs
 have b : (n + 1) * s <= m * s := Int.mul_le_mul_of_nonneg_right (by omega) hs
 rw [Int.add_mul, Int.one_mul] at b
 omega
theorem zeK (vs : List Vr) (k : Int) (r : List Int) (vv rv : Value) (D D' : Nat -> Prop) (W : World) (hk : 0 <= k /\ k <= 3) (hg : ∀ v ∈ vs, yf (v.low, v.high)) (hlen : vs.length <= 1000000) (hvs : SlR 5 RVr D W vv vs) (hr : SlR 1 zv D' W rv r) :
  Calls Tryz.prog 96 #[vv, .int .i64 k, rv] W (Ret fun rr w' => rr = .tuple #[.int .i64 (yR k vs r).1, .int .i64 (yR k vs r).2] /\ Ext W w') := by
 obtain ⟨ar, cr, rfl⟩ := hr.form
 have hmr := hr.max
 refine G.in3 Tryz.func96 rfl Tryz.ntmps96 rfl (V.inn ?_)
 refine V.cases (p := (zj k vs).isSome = true) (fun hc => ?_) (fun hc => ?_)
 ·
  refine Vs 10 rfl ?_
  refine V.call2 tc117 rfl (fun w hI => qy vs k vv D w hk hg (Tr1 hI.k0 hvs) hlen) ?_
  rintro rr w1 w2 hI1 hk12 ⟨vl, rfl, hs1, _⟩ hlow
  have hos := hs1 hc
  obtain ⟨al, cl, rfl⟩ := hos.form
  have hml := hos.max
  refine Vs 18 rfl ?_
  refine V.ite rfl (fun c0 => ?_) (fun c0 => ?_)
  . exact absurd (if_pos hc) c0
  ·
   refine Vs 10 rfl ?_
   refine V.ite rfl (fun c1 => ?_) (fun c1 => ?_)
   ·
    refine Vs 9 rfl ?_
    refine V.ret2 tr96 rfl rfl (fun w hI => ⟨_, rfl, by unfold yR; rw [if_pos hc, if_neg (by omega)], hI.k1⟩)
   ·
    have hel : r.length = (zd k vs).length := by omega
    refine Vs 17 rfl ?_
    refine V.loopK (σ := Nat × Int) [2, 31, 32] [] [] rfl (fun e ⟨i, n⟩ => (11, .int .i64 n) :: (33, .int .i64 i) :: e) (fun e ⟨i, n⟩ => e) (fun ⟨i, n⟩ => i <= (zd k vs).length /\ kN ((zd k vs).drop i) (r.drop i) n = kN (zd k vs) r 0 /\ ∃ m, zL k ((zd k vs).take i) 1 = some m /\ 0 <= n /\ n < m) (fun ⟨i, n⟩ => (zd k vs).length - i) ((0, 0)) (Sub.of rfl) (Has.of rfl) (fun _ => rfl) (fun _ => rfl) (fun _ => rfl) (⟨Nat.zero_le _, rfl, 1, rfl, by omega, by omega⟩) ?_
    rintro ⟨i, n⟩ ⟨hi, hrk, m, hm, hn0, hn1⟩
    show V _ _ _ _ _ ((11, .int .i64 n) :: (33, .int .i64 i) :: _) _ (_) _
    refine Vs 6 rfl ?_
    refine V.ite rfl (fun hlt => ?_) (fun hlt => ?_)
    ·
     refine Vs 7 rfl ?_
     obtain ⟨x, he_x⟩ : ∃ z_, (zd k vs)[i]? = some z_ := ⟨_, List.getElem?_eq_getElem (by omega)⟩
     have hm_x := List.mem_of_getElem? he_x
     obtain ⟨b_x, o_x, c_x, ha_x, hd_x, hc_x, hR_x⟩ := hos.atD he_x
     obtain rfl := hR_x
     refine V.frS 1000 0 rfl rfl (fun h_ => by have h1_ := hlow _ h_; have h2_ := hd_x; first | omega | exact h1_ h2_) hc_x ?_
     refine V.ix 1000 tR52 ts120 rfl ha_x (by omega) (_) (rfl) rfl ?_
     refine Vs 1 rfl ?_
     refine V.alloc 13 tz120 rfl rfl (fun b13 => ?_)
     refine Vs 6 rfl ?_
     obtain ⟨y, he_y⟩ : ∃ z_, r[i]? = some z_ := ⟨_, List.getElem?_eq_getElem (by omega)⟩
     have hm_y := List.mem_of_getElem? he_y
     obtain ⟨b_y, o_y, c_y, ha_y, _, hc_y, hR_y⟩ := hr.at he_y
     obtain rfl := hR_y
     refine V.fr 2000 1 rfl rfl hc_y ?_
     have hry : i < r.length := by omega
     have hgx := hg x (yY hm_x)
     unfold yf at hgx
     dsimp only at hgx
     have hdx := yD he_x
     have hdy := yD he_y
     refine Vq (by kernel_rfl) ?_
     refine Vs 2 rfl ?_
     refine V.ixQ 2000 tR31 ts3 rfl ha_y (by omega) (_) (rfl) rfl ?_
     refine Vs 5 rfl ?_
     refine V.sp 45 rfl (fun b1 => ?_) (fun b1 => ?_)
     ·
      refine Vs 24 rfl ?_
      refine V.ret2 tr96 rfl rfl (fun w hI => ⟨_, rfl, by unfold yR; rw [if_pos hc, if_pos hel, <- hrk, hdx, hdy]; unfold kN; rw [if_pos (by omega)], hI.k1⟩)
     ·
      refine Vs 2 rfl ?_
      refine V.ixQ 2000 tR31 ts3 rfl ha_y (by omega) (_) (rfl) rfl ?_
      refine Vs 7 rfl ?_
      refine V.ite rfl (fun d1 => ?_) (fun d1 => ?_)
      ·
       refine Vs 13 rfl ?_
       refine V.ret2 tr96 rfl rfl (fun w hI => ⟨_, rfl, by unfold yR; rw [if_pos hc, if_pos hel, <- hrk, hdx, hdy]; unfold kN; rw [if_pos (by omega)], hI.k1⟩)
      ·
       obtain ⟨m', hm'⟩ := zb3 hc (i + 1)
       have hp := zT k ((zd k vs).take (i + 1)) 1 m' (fun v hv => hg v (yY (List.mem_of_mem_take hv))) (by omega) (by omega) hm'
       have hst := hm'
       rw [zg he_x, zI, hm] at hst
       have hkx : x.kind = k := of_decide_eq_true (List.mem_filter.1 hm_x).2
       have hmm : m * (x.high - x.low + 1) = m' := by
        simp only [Option.bind, zL] at hst
        rw [if_pos hkx] at hst
        split at hst
        . cases hst
        . exact Option.some.inj hst
       have hrs := zcE (s := x.high - x.low + 1) (x := y) (l := x.low) hn0 hn1 (by omega) (by omega) (by omega)
       refine Vs 2 rfl ?_
       refine Vw [1000, 13, 2000] [] rfl ?_
       refine Vd [0, 1, 4, 5, 9, 10] 0 (by kernel_rfl) rfl rfl rfl ?_
       refine VD.ix 6 2000 tR31 ts3 rfl (by kernel_rfl) rfl ha_y (by omega) (_) (rfl) rfl ?_
       refine Vd [7] 0 (by kernel_rfl) rfl rfl rfl ?_
       refine VD.call1 2 0 Tryz.call118 rfl (by kernel_rfl) rfl rfl (fun w hI => jZ x w (hg x (yY hm_x))) ?_
       refine Vb [3, 8, 11, 12] 0 (by kernel_rfl) rfl rfl rfl (by omega) ?_
       refine VD.done (by kernel_rfl) ?_
       refine Va 6 rfl (by omega) ?_
       refine V.back ((i + 1, n * (x.high - x.low + 1) + y - x.low)) (Sub.of rfl) (Has.of rfl) (⟨by omega, by rw [<- hrk, hdx, hdy]; conv => rhs; unfold kN; rw [if_neg (by omega)], m', hm', by omega, by omega⟩) (by first | omega | (dsimp only; omega)) 0 rfl rfl
    ·
     have : i = (zd k vs).length := by omega
     subst this
     rw [List.drop_length, <- hel, List.drop_length] at hrk
     refine Vs 13 rfl ?_
     refine V.ret2 tr96 rfl rfl (fun w hI => ⟨_, rfl, by unfold yR; rw [if_pos hc, if_pos hel, <- hrk]; rfl, hI.k1⟩)
 ·
  refine Vs 10 rfl ?_
  refine V.call2 tc117 rfl (fun w hI => qy vs k vv D w hk hg (Tr1 hI.k0 hvs) hlen) ?_
  rintro rr w1 w2 hI1 hk12 ⟨vl, rfl, _, _⟩ hlow
  refine Vs 18 rfl ?_
  refine V.ite rfl (fun c0 => ?_) (fun c0 => ?_)
  ·
   refine Vs 10 rfl ?_
   refine V.ret2 tr96 rfl rfl (fun w hI => ⟨_, rfl, by unfold yR; rw [if_neg hc, if_neg hc], hI.k1⟩)
  . exact absurd (by rw [if_neg hc]; decide) c0
def zG : List Vr -> Int -> List Int × Int
 | [], n => ([], n)
 | v :: vs, n => ((v.low + (zG vs n).2.tmod (v.high - v.low + 1)) :: (zG vs n).1, (zG vs n).2.tdiv (v.high - v.low + 1))
theorem qi : ∀ (vs : List Vr) (n : Int), (zG vs n).1.length = vs.length
 | [], _ => rfl
 | v :: vs, n => by simp [zG, qi vs n]
structure UnIn (os : List Vr) (n : Int) (i q : Int) (xs : List Int) : Prop where
 low : -1 <= i
 lt : i < os.length
 row : xs = List.replicate (i + 1).toNat 0 ++ (zG (os.drop (i + 1).toNat) n).1
 rest : q = (zG (os.drop (i + 1).toNat) n).2
 q0 : 0 <= q /\ q <= n
theorem UnIn.start {os : List Vr} {n : Int} (h : 0 <= n) : UnIn os n ((os.length : Int) - 1) n (List.replicate os.length 0) := by
 have e : ((os.length : Int) - 1 + 1).toNat = os.length := by omega
 exact ⟨by omega, by omega, by rw [e, List.drop_length]; simp [zG], by rw [e, List.drop_length]; rfl, h, Int.le_refl _⟩
theorem UnIn.len {os : List Vr} {n i q : Int} {xs : List Int} (h : UnIn os n i q xs) : xs.length = os.length := by
 have := h.low
 have := h.lt
 rw [h.row, List.length_append, List.length_replicate, qi, List.length_drop]
 omega
theorem zee {k : Int} {vs : List Vr} (hg : ∀ v ∈ vs, yf (v.low, v.high)) (h : (zj k vs).isSome = true) : (zj k vs).getD 0 <= 4096 := by
 cases hm : zj k vs with
 | none => rw [hm] at h; cases h
 | some m => exact (zT k vs 1 m hg (by omega) (by omega) hm).2
theorem UnIn.step {os : List Vr} {n q : Int} {j : Nat} {xs : List Int} {x : Vr} (h : UnIn os n j q xs) (hx : os[j]? = some x) (hs : 1 <= x.high - x.low + 1) : UnIn os n ((j : Int) - 1) (q.tdiv (x.high - x.low + 1)) (xs.set j (x.low + q.tmod (x.high - x.low + 1))) := by
 have e1 : ((j : Int) + 1).toNat = j + 1 := by omega
 have e2 : ((j : Int) - 1 + 1).toNat = j := by omega
 have hx0 := h.row
 have hq0 := h.rest
 rw [e1] at hx0 hq0
 have hd : zG (os.drop j) n = ((x.low + q.tmod (x.high - x.low + 1)) :: (zG (os.drop (j + 1)) n).1, q.tdiv (x.high - x.low + 1)) := by
  rw [yD hx, zG, <- hq0]
 have hl := h.lt
 refine ⟨by omega, by omega, ?_, by rw [e2, hd], Int.tdiv_nonneg h.q0.1 (by omega), Int.le_trans (Int.tdiv_le_self _ h.q0.1) h.q0.2⟩
 rw [e2, hd, hx0, List.replicate_succ', List.append_assoc]
 rw [List.set_append_right _ _ (by simp)]
 simp
def zr (k : Int) (vs : List Vr) (n : Int) : Int :=
 if (zj k vs).isSome then (if n < 0 \/ (zj k vs).getD 0 <= n then 3 else 0) else 4
theorem zcF (vs : List Vr) (k n : Int) (vv : Value) (D : Nat -> Prop) (W : World) (hk : 0 <= k /\ k <= 3) (hg : ∀ v ∈ vs, yf (v.low, v.high)) (hlen : vs.length <= 1000000) (hvs : SlR 5 RVr D W vv vs) :
  Calls Tryz.prog 86 #[vv, .int .i64 k, .int .i64 n] W (Ret fun rr w' => (∃ u, rr = .tuple #[u, .int .i64 (zr k vs n)] /\ (zr k vs n ≠ 0 -> u = .slice none 0 0) /\ (zr k vs n = 0 -> SlR 1 zv (fun b => W.heap.size <= b) w' u (zG (zd k vs) n).1)) /\ Ext W w') := by
 refine G.in3 Tryz.func86 rfl Tryz.ntmps86 rfl (V.inn ?_)
 refine V.cases (p := (zj k vs).isSome = true) (fun hc => ?_) (fun hc => ?_)
 ·
  refine Vs 10 rfl ?_
  refine V.call2 tc117 rfl (fun w hI => qy vs k vv D w hk hg (Tr1 hI.k0 hvs) hlen) ?_
  rintro rr w1 w2 hI1 hk12 ⟨vl, rfl, hs1, _⟩ hlow
  have hos := hs1 hc
  obtain ⟨al, cl, rfl⟩ := hos.form
  have hml := hos.max
  have hN := zee hg hc
  have hol := Nat.le_trans (yK k vs) hlen
  refine Vs 18 rfl ?_
  refine V.ite rfl (fun c0 => ?_) (fun c0 => ?_)
  . exact absurd (if_pos hc) c0
  ·
   refine Vs 5 rfl ?_
   refine V.sp 28 rfl (fun c1 => ?_) (fun c1 => ?_)
   ·
    have hC : zr k vs n = 3 := by unfold zr; rw [if_pos hc, if_pos (.inl c1)]
    refine Vs 17 rfl ?_
    refine V.ret2 tr86 rfl rfl (fun w hI => ⟨_, rfl, ⟨_, by rw [hC], fun _ => rfl, fun h => by rw [hC] at h; cases h⟩, hI.k1⟩)
   ·
    refine Vs 7 rfl ?_
    refine V.ite rfl (fun c2 => ?_) (fun c2 => ?_)
    ·
     have hC : zr k vs n = 3 := by unfold zr; rw [if_pos hc, if_pos (.inr c2)]
     refine Vs 9 rfl ?_
     refine V.ret2 tr86 rfl rfl (fun w hI => ⟨_, rfl, ⟨_, by rw [hC], fun _ => rfl, fun h => by rw [hC] at h; cases h⟩, hI.k1⟩)
    ·
     have hC : zr k vs n = 0 := by unfold zr; rw [if_pos hc, if_neg (by omega)]
     refine Vs 7 rfl ?_
     refine V.make 35 tu31 Tryz.el3 rfl (by omega) (by omega) (zs := List.replicate (zd k vs).length (.int .i64 0)) (ziW _ _ rfl) (by simp) (fun b35 => ?_)
     refine V.heq 35 rfl (e' := .row 3 1 (.slice (some ⟨b35, 0, none⟩) (zd k vs).length (zd k vs).length) (zd k vs).length ((List.replicate (zd k vs).length (0 : Int)).map ze)) (by rw [List.map_replicate]) ?_
     refine Va 13 rfl (by omega) ?_
     refine V.loopK (σ := Int × Int × List Int) [8, 11] [] [] rfl (fun e ⟨i, q, xs⟩ => (12, .int .i64 i) :: (2, .int .i64 q) :: e) (fun e ⟨i, q, xs⟩ => (35, .row 3 1 (.slice (some ⟨b35, 0, none⟩) (zd k vs).length (zd k vs).length) (zd k vs).length (xs.map ze)) :: e) (fun ⟨i, q, xs⟩ => UnIn (zd k vs) n i q xs) (fun ⟨i, q, xs⟩ => (i + 1).toNat) ((((zd k vs).length : Int) - 1, n, List.replicate (zd k vs).length 0)) (Sub.of rfl) (Has.of rfl) (fun _ => rfl) (fun _ => rfl) (fun _ => rfl) (UnIn.start (by omega)) ?_
     rintro ⟨i, q, xs⟩ hU
     show V _ _ _ _ _ ((12, .int .i64 i) :: (2, .int .i64 q) :: _) _ ((35, .row 3 1 (.slice (some ⟨b35, 0, none⟩) (zd k vs).length (zd k vs).length) (zd k vs).length (xs.map ze)) :: _) _
     refine Vs 7 rfl ?_
     refine V.ite rfl (fun hlt => ?_) (fun hlt => ?_)
     ·
      obtain ⟨j, rfl⟩ : ∃ j : Nat, i = j := ⟨i.toNat, by omega⟩
      have hjl := hU.lt
      refine Vs 8 rfl ?_
      obtain ⟨x, he_x⟩ : ∃ z_, (zd k vs)[j]? = some z_ := ⟨_, List.getElem?_eq_getElem (by omega)⟩
      have hm_x := List.mem_of_getElem? he_x
      obtain ⟨b_x, o_x, c_x, ha_x, hd_x, hc_x, hR_x⟩ := hos.atD he_x
      obtain rfl := hR_x
      refine V.frS 1000 0 rfl rfl (fun h_ => by have h1_ := hlow _ h_; have h2_ := hd_x; first | omega | exact h1_ h2_) hc_x ?_
      refine V.ix 1000 tR52 ts120 rfl ha_x (by omega) (_) (rfl) rfl ?_
      have hgx := hg x (yY hm_x)
      unfold yf at hgx
      dsimp only at hgx
      have hq := hU.q0
      have hxl := hU.len
      have hr0 := Int.tmod_nonneg (x.high - x.low + 1) hq.1
      have hr1 := Int.tmod_lt_of_pos q (show 0 < x.high - x.low + 1 by omega)
      refine Vs 1 rfl ?_
      refine V.call1 Tryz.call118 rfl (fun w hI => jZ x w (hg x (yY hm_x))) ?_
      refine Vs 4 rfl ?_
      refine Vw [1000] [] rfl ?_
      refine Vd [0, 1, 2, 3, 7, 8] 0 (by kernel_rfl) rfl rfl rfl ?_
      refine VD.ix 4 1000 tR52 ts120 rfl (by kernel_rfl) rfl ha_x (by omega) (_) (rfl) rfl ?_
      refine Vd [5, 6] 0 (by kernel_rfl) rfl rfl rfl ?_
      refine VD.pl 9 rfl (by kernel_rfl) rfl (fun w => R.rem rfl rfl (by omega) (by omega)) ?_
      refine Vb [10, 11] 0 (by kernel_rfl) rfl rfl rfl (by omega) ?_
      refine VD.rs 12 35 0 (j) ts3 rfl (by kernel_rfl) rfl rfl (by omega) (by simp; omega) ?_
      refine VD.done (by kernel_rfl) ?_
      refine Vs 1 rfl ?_
      refine V.heq 35 rfl (e' := .row 3 1 (.slice (some ⟨b35, 0, none⟩) (zd k vs).length (zd k vs).length) (zd k vs).length ((xs.set j (x.low + q.tmod (x.high - x.low + 1))).map ze)) (by rw [List.map_set] <;> rfl) ?_
      refine Vs 3 rfl ?_
      refine V.ops1 rfl (fun w hI => R.quo rfl rfl (by omega) (by omega)) ?_
      refine Va 9 rfl (by omega) ?_
      refine V.back (⟨(j : Int) - 1, q.tdiv (x.high - x.low + 1), xs.set j (x.low + q.tmod (x.high - x.low + 1))⟩) (Sub.of rfl) (Has.of rfl) (hU.step he_x (by omega)) (by first | omega | (dsimp only; omega)) 0 rfl rfl
     ·
      have hi : i = -1 := by have := hU.low; omega
      subst hi
      have hx := hU.row
      simp at hx
      refine Vs 13 rfl ?_
      refine V.ret2 tr86 rfl rfl (fun w hI => ⟨_, rfl, ⟨_, by rw [hC], fun h => absurd hC h, fun _ => by rw [<- hx]; exact SlR.ofRow1 ze (fun _ _ => rfl) (hI.at 35 rfl) (fun b hb => hI.own 35 1 rfl rfl b hb)⟩, hI.k1⟩)
 ·
  refine Vs 10 rfl ?_
  refine V.call2 tc117 rfl (fun w hI => qy vs k vv D w hk hg (Tr1 hI.k0 hvs) hlen) ?_
  rintro rr w1 w2 hI1 hk12 ⟨vl, rfl, _, _⟩ hlow
  have hC : zr k vs n = 4 := by unfold zr; rw [if_neg hc]
  refine Vs 18 rfl ?_
  refine V.ite rfl (fun c0 => ?_) (fun c0 => ?_)
  ·
   refine Vs 10 rfl ?_
   refine V.ret2 tr86 rfl rfl (fun w hI => ⟨_, rfl, ⟨_, by rw [hC, if_neg hc], fun _ => rfl, fun h => by rw [hC] at h; cases h⟩, hI.k1⟩)
  . exact absurd (by rw [if_neg hc]; decide) c0
def zeL (a b : Int) : Int := if a < b then -1 else if b < a then 1 else 0
theorem zbI : ∀ (i : Nat) (xs ys : List Int), xs.take i = ys.take i -> i <= xs.length -> i <= ys.length -> xW xs ys = xW (xs.drop i) (ys.drop i)
 | 0, _, _, _, _, _ => rfl
 | i + 1, [], _, _, h, _ => by simp at h
 | i + 1, _ :: _, [], _, _, h => by simp at h
 | i + 1, x :: xs, y :: ys, h, h1, h2 => by
  simp only [List.take_succ_cons, List.cons.injEq] at h
  obtain ⟨rfl, h⟩ := h
  simp only [List.length_cons] at h1 h2
  simp only [List.drop_succ_cons]
  rw [<- zbI i xs ys h (by omega) (by omega)]
  simp [xW]
theorem kY (a b : Int) (W : World) : Calls Tryz.prog 73 #[.int .i64 a, .int .i64 b] W (Ret fun r w' => r = .int .i64 (zeL a b) /\ Ext W w') := by
 refine G.in2 Tryz.func73 rfl Tryz.ntmps73 rfl (V.inn ?_)
 refine Vs 13 rfl ?_
 refine V.ite rfl (fun h1 => ?_) (fun h1 => ?_)
 ·
  refine Vs 7 rfl ?_
  refine V.ret1 Tryz.results73 rfl (fun w hI => ⟨_, rfl, by unfold zeL; rw [if_pos h1], hI.k0⟩)
 ·
  refine Vs 7 rfl ?_
  refine V.call1 tc101 rfl (fun w hI => zZ (decide (b < a)) w) ?_
  refine Vs 4 rfl ?_
  refine V.ret1 Tryz.results73 rfl (fun w hI => ⟨_, rfl, by unfold zeL; rw [if_neg h1]; by_cases h : b < a <;> simp [h], hI.k0⟩)
theorem zgY {xs ys X Y : List Int} {t t' p q : Int} (h : xW xs ys = xW (p :: X) (q :: Y)) (hn : p ≠ q) : yj (xs, t) (ys, t') = zeL p q := by
 have e : xW (p :: X) (q :: Y) = zeL p q := by
  unfold zeL
  simp only [xW]
  split
  . rfl
  ·
   split
   . rfl
   . omega
 have n : zeL p q ≠ 0 := by
  unfold zeL
  split
  . decide
  ·
   split
   . decide
   . omega
 unfold yj
 dsimp only
 rw [h, e, if_pos n]
theorem zcG {xs ys : List Int} {t t' : Int} {i : Nat} (h : xW xs ys = xW (xs.drop i) (ys.drop i)) (h1 : i <= xs.length) (h2 : i <= ys.length) (hi : xs.length <= i \/ ys.length <= i) (hn : (xs.length : Int) ≠ ys.length) : yj (xs, t) (ys, t') = zeL xs.length ys.length := by
 rcases hi with hi | hi
 ·
  obtain ⟨y, hy⟩ : ∃ y, ys[i]? = some y := ⟨_, List.getElem?_eq_getElem (by omega)⟩
  rw [List.drop_of_length_le hi, yD hy] at h
  unfold yj zeL
  dsimp only
  rw [h, if_pos (show (xs.length : Int) < ys.length by omega)]
  rfl
 ·
  obtain ⟨x, hx⟩ : ∃ x, xs[i]? = some x := ⟨_, List.getElem?_eq_getElem (by omega)⟩
  rw [List.drop_of_length_le hi, yD hx] at h
  unfold yj zeL
  dsimp only
  rw [h, if_neg (show ¬ (xs.length : Int) < ys.length by omega), if_pos (show (ys.length : Int) < xs.length by omega)]
  rfl
theorem zgZ {xs ys : List Int} {t t' : Int} {i : Nat} (h : xW xs ys = xW (xs.drop i) (ys.drop i)) (hi : xs.length <= i) (hj : ys.length <= i) : yj (xs, t) (ys, t') = zeL t t' := by
 rw [List.drop_of_length_le hi, List.drop_of_length_le hj] at h
 unfold yj zeL
 dsimp only
 rw [h]
 rfl
theorem qz (x y : List Int × Int) (u v : Value) (D D' : Nat -> Prop) (W : World) (hx : SlR 1 zv D W u x.1) (hy : SlR 1 zv D' W v y.1) :
  Calls Tryz.prog 39 #[.agg #[u, .int .i64 x.2], .agg #[v, .int .i64 y.2]] W (Ret fun r w' => r = .int .i64 (yj x y) /\ Ext W w') := by
 obtain ⟨xs, t⟩ := x
 obtain ⟨ys, t'⟩ := y
 dsimp only at hx hy
 obtain ⟨ax, cx, rfl⟩ := hx.form
 obtain ⟨ay, cy, rfl⟩ := hy.form
 have hmx := hx.max
 have hmy := hy.max
 refine G.in2 Tryz.func39 rfl Tryz.ntmps39 rfl (V.inn ?_)
 refine Vs 2 rfl ?_
 refine V.box 2 rfl rfl (fun b2 => ?_)
 refine V.box 3 rfl rfl (fun b3 => ?_)
 refine Vs 10 rfl ?_
 refine V.loopK (σ := Nat) [2, 3] [2, 3] [2, 3] rfl (fun e i => (5, .int .i64 i) :: e) (fun e i => e) (fun i => (i <= xs.length /\ i <= ys.length) /\ xs.take i = ys.take i) (fun i => xs.length - i) (0) (Sub.of rfl) (Has.of rfl) (fun _ => rfl) (fun _ => rfl) (fun _ => rfl) (⟨⟨Nat.zero_le _, Nat.zero_le _⟩, rfl⟩) ?_
 rintro i ⟨⟨hi, hj⟩, he⟩
 refine Vs 9 rfl ?_
 refine V.sp 11 rfl (fun b1 => ?_) (fun b1 => ?_)
 ·
  refine Vs 8 rfl ?_
  refine V.ite rfl (fun b2 => ?_) (fun b2 => ?_)
  ·
   refine Vs 5 rfl ?_
   obtain ⟨p, he_p⟩ : ∃ z_, xs[i]? = some z_ := ⟨_, List.getElem?_eq_getElem (by omega)⟩
   have hm_p := List.mem_of_getElem? he_p
   obtain ⟨b_p, o_p, c_p, ha_p, _, hc_p, hR_p⟩ := hx.at he_p
   obtain rfl := hR_p
   refine V.fr 1000 0 rfl rfl hc_p ?_
   obtain ⟨q, he_q⟩ : ∃ z_, ys[i]? = some z_ := ⟨_, List.getElem?_eq_getElem (by omega)⟩
   have hm_q := List.mem_of_getElem? he_q
   obtain ⟨b_q, o_q, c_q, ha_q, _, hc_q, hR_q⟩ := hy.at he_q
   obtain rfl := hR_q
   refine V.fr 2000 0 rfl rfl hc_q ?_
   have hdx := yD he_p
   have hdy := yD he_q
   have hcc := zbI i xs ys he hi hj
   rw [hdx, hdy] at hcc
   refine Vq (by kernel_rfl) ?_
   refine Vs 3 rfl ?_
   refine V.ixQ 1000 tR31 ts3 rfl ha_p (by omega) (_) (rfl) rfl ?_
   refine Vs 4 rfl ?_
   refine V.ixQ 2000 tR31 ts3 rfl ha_q (by omega) (_) (rfl) rfl ?_
   refine Vs 4 rfl ?_
   refine V.ite rfl (fun b3 => ?_) (fun b3 => ?_)
   ·
    refine Vs 1 rfl ?_
    refine Vw [2, 3, 1000, 2000] [] rfl ?_
    refine Vd [0, 1, 2, 5, 6, 7] 0 (by kernel_rfl) rfl rfl rfl ?_
    refine VD.ix 3 1000 tR31 ts3 rfl (by kernel_rfl) rfl ha_p (by omega) (_) (rfl) rfl ?_
    refine Vd [4] 0 (by kernel_rfl) rfl rfl rfl ?_
    refine VD.ix 8 2000 tR31 ts3 rfl (by kernel_rfl) rfl ha_q (by omega) (_) (rfl) rfl ?_
    refine Vd [9] 0 (by kernel_rfl) rfl rfl rfl ?_
    refine VD.call1 10 0 Tryz.call73 rfl (by kernel_rfl) rfl rfl (fun w hI => kY p q w) ?_
    refine Vd [11] 0 (by kernel_rfl) rfl rfl rfl ?_
    refine VD.done (by kernel_rfl) ?_
    refine Vs 7 rfl ?_
    refine V.ret1 tr39 rfl (fun w hI => ⟨_, rfl, by rw [zgY hcc b3], hI.k0⟩)
   ·
    refine Va 8 rfl (by omega) ?_
    refine V.back (i + 1) (Sub.of rfl) (Has.of rfl) (⟨⟨by omega, by omega⟩, by rw [List.take_add_one, List.take_add_one, he, he_p, he_q, Decidable.not_not.1 b3]⟩) (by first | omega | (dsimp only; omega)) 0 rfl rfl
  ·
   have hcc := zbI i xs ys he hi hj
   refine Vs 17 rfl ?_
   refine V.ite rfl (fun b3 => ?_) (fun b3 => ?_)
   ·
    refine Vs 8 rfl ?_
    refine V.call1 Tryz.call73 rfl (fun w hI => kY xs.length ys.length w) ?_
    refine Vs 5 rfl ?_
    refine V.ret1 tr39 rfl (fun w hI => ⟨_, rfl, by rw [zcG hcc hi hj (by omega) b3], hI.k0⟩)
   . exact absurd (by omega) b3
 ·
  have hcc := zbI i xs ys he hi hj
  refine Vs 26 rfl ?_
  refine V.ite rfl (fun b3 => ?_) (fun b3 => ?_)
  ·
   refine Vs 8 rfl ?_
   refine V.call1 Tryz.call73 rfl (fun w hI => kY xs.length ys.length w) ?_
   refine Vs 5 rfl ?_
   refine V.ret1 tr39 rfl (fun w hI => ⟨_, rfl, by rw [zcG hcc hi hj (by omega) b3], hI.k0⟩)
  ·
   refine Vs 8 rfl ?_
   refine V.call1 Tryz.call73 rfl (fun w hI => kY t t' w) ?_
   refine Vs 4 rfl ?_
   refine V.ret1 tr39 rfl (fun w hI => ⟨_, rfl, by rw [zgZ hcc (by omega) (by omega)], hI.k0⟩)
abbrev Ob := List Int × Int
theorem zcH : ∀ (x y : List Int), xW y x = - xW x y
 | [], [] => rfl
 | [], _ :: _ => rfl
 | _ :: _, [] => rfl
 | a :: x, b :: y => by
  simp only [xW]
  have := zcH x y
  (repeat' split); all_goals omega
theorem zbJ : ∀ {x y : List Int}, xW x y = 0 -> x = y
 | [], [], _ => rfl
 | [], _ :: _, h => by simp [xW] at h
 | _ :: _, [], h => by simp [xW] at h
 | a :: x, b :: y, h => by
  simp only [xW] at h
  split at h
  . simp at h
  ·
   split at h
   . simp at h
   . rw [show a = b by omega, zbJ h]
theorem zaF : ∀ (x : List Int), xW x x = 0
 | [] => rfl
 | a :: x => by simp [xW, zaF x]
theorem zb4 : ∀ {x y z : List Int}, xW x y < 0 -> xW y z < 0 -> xW x z < 0
 | [], [], _, h, _ => by simp [xW] at h
 | [], _ :: _, [], _, h => by simp [xW] at h
 | [], _ :: _, _ :: _, _, _ => by simp [xW]
 | _ :: _, [], _, h, _ => by simp [xW] at h
 | _ :: _, _ :: _, [], _, h => by simp [xW] at h
 | a :: x, b :: y, c :: z, h, h' => by
  simp only [xW] at h h' ⊢
  by_cases h1 : a < b
  ·
   by_cases h2 : b < c
   . rw [if_pos (by omega)]; omega
   ·
    by_cases h3 : c < b
    . rw [if_neg h2, if_pos h3] at h'; omega
    . rw [if_pos (by omega)]; omega
  ·
   by_cases h2 : b < a
   . rw [if_neg h1, if_pos h2] at h; omega
   ·
    rw [if_neg h1, if_neg h2] at h
    by_cases h3 : b < c
    . rw [if_pos (by omega)]; omega
    ·
     by_cases h4 : c < b
     . rw [if_neg h3, if_pos h4] at h'; omega
     ·
      rw [if_neg h3, if_neg h4] at h'
      rw [if_neg (by omega), if_neg (by omega)]
      exact zb4 h h'
theorem xy (x y : Ob) : yj y x = - yj x y := by
 unfold yj
 have := zcH x.1 y.1
 (repeat' split); all_goals omega
theorem kn (x : Ob) : yj x x = 0 := by
 unfold yj
 simp [zaF]
theorem jK {x y : Ob} (h : yj x y = 0) : x = y := by
 unfold yj at h
 split at h
 . rename_i h1; exact absurd h h1
 ·
  rename_i h1
  split at h
  . simp at h
  ·
   split at h
   . simp at h
   . exact Prod.ext (zbJ (Decidable.not_not.1 h1)) (by omega)
theorem cmpOb_iff {x y : Ob} : yj x y = 0 ↔ x = y := ⟨jK, fun h => h ▸ kn x⟩
theorem zh0 {x y : Ob} : yj x y < 0 ↔ xW x.1 y.1 < 0 \/ (x.1 = y.1 /\ x.2 < y.2) := by
 unfold yj
 by_cases h : x.1 = y.1
 ·
  have h1 : xW x.1 y.1 = 0 := by rw [h]; exact zaF _
  rw [if_neg (by rw [h1]; decide), h1]
  by_cases h2 : x.2 < y.2
  . simp [h2, h]
  ·
   rw [if_neg h2]
   by_cases h3 : y.2 < x.2
   . simp [h3, h2]
   . simp [h3, h2]
 ·
  have h1 : xW x.1 y.1 ≠ 0 := fun e => h (zbJ e)
  rw [if_pos h1]
  simp [h]
theorem jl {x y z : Ob} (h : yj x y < 0) (h' : yj y z < 0) : yj x z < 0 := by
 rw [zh0] at h h' ⊢
 rcases h with h | ⟨h1, h2⟩
 ·
  rcases h' with h' | ⟨h3, h4⟩
  . exact .inl (zb4 h h')
  . exact .inl (h3 ▸ h)
 ·
  rcases h' with h' | ⟨h3, h4⟩
  . exact .inl (h1 ▸ h')
  . exact .inr ⟨h1.trans h3, by omega⟩
abbrev Asc (l : List Ob) : Prop := l.Pairwise fun a b => yj a b < 0
theorem Asc.irr {l : List Ob} {x : Ob} (h : Asc (x :: l)) : x ∉ l := fun hm => by
 have := (List.pairwise_cons.1 h).1 x hm
 rw [kn] at this
 omega
theorem zfN : ∀ {l l' : List Ob}, Asc l -> Asc l' -> (∀ x, x ∈ l ↔ x ∈ l') -> l = l'
 | [], [], _, _, _ => rfl
 | [], y :: l', _, _, h => absurd ((h y).2 (List.mem_cons_self ..)) (by simp)
 | x :: l, [], _, _, h => absurd ((h x).1 (List.mem_cons_self ..)) (by simp)
 | x :: l, y :: l', h1, h2, h => by
  have hxy : x = y := by
   rcases List.mem_cons.1 ((h x).1 (List.mem_cons_self ..)) with e | e
   . exact e
   ·
    rcases List.mem_cons.1 ((h y).2 (List.mem_cons_self ..)) with e' | e'
    . exact e'.symm
    ·
     have a := (List.pairwise_cons.1 h2).1 x e
     have b := (List.pairwise_cons.1 h1).1 y e'
     have c := xy x y
     omega
  subst hxy
  rw [zfN (List.pairwise_cons.1 h1).2 (List.pairwise_cons.1 h2).2 fun z => ?_]
  constructor
  ·
   intro hz
   rcases List.mem_cons.1 ((h z).1 (List.mem_cons_of_mem _ hz)) with rfl | h3
   . exact absurd hz h1.irr
   . exact h3
  ·
   intro hz
   rcases List.mem_cons.1 ((h z).2 (List.mem_cons_of_mem _ hz)) with rfl | h3
   . exact absurd hz h2.irr
   . exact h3
def zhv (x : Ob) : List Ob -> List Ob
 | [] => [x]
 | y :: l => if yj x y < 0 then x :: y :: l else if x = y then y :: l else y :: zhv x l
def zcI (l : List Ob) : List Ob := l.foldr zhv []
theorem mem_insO {x z : Ob} : ∀ {l : List Ob}, z ∈ zhv x l ↔ z = x \/ z ∈ l
 | [] => by simp [zhv]
 | y :: l => by
  simp only [zhv]
  split
  . simp
  ·
   split
   . rename_i h; subst h; simp
   ·
    simp only [List.mem_cons, mem_insO (l := l)]
    constructor
    ·
     rintro (h | h | h)
     . exact .inr (.inl h)
     . exact .inl h
     . exact .inr (.inr h)
    ·
     rintro (h | h | h)
     . exact .inr (.inl h)
     . exact .inl h
     . exact .inr (.inr h)
theorem zef {x : Ob} : ∀ {l : List Ob}, Asc l -> Asc (zhv x l)
 | [], _ => List.pairwise_singleton _ _
 | y :: l, h => by
  simp only [zhv]
  split
  ·
   rename_i h1
   refine List.pairwise_cons.2 ⟨fun z hz => ?_, h⟩
   rcases List.mem_cons.1 hz with rfl | hz
   . exact h1
   . exact jl h1 ((List.pairwise_cons.1 h).1 z hz)
  ·
   split
   . exact h
   ·
    rename_i h1 h2
    refine List.pairwise_cons.2 ⟨fun z hz => ?_, zef (List.pairwise_cons.1 h).2⟩
    rcases mem_insO.1 hz with rfl | hz
    ·
     have a := xy z y
     have b : yj z y ≠ 0 := fun e => h2 (jK e)
     omega
    . exact (List.pairwise_cons.1 h).1 z hz
theorem mem_distO {z : Ob} : ∀ {l : List Ob}, z ∈ zcI l ↔ z ∈ l
 | [] => Iff.rfl
 | x :: l => by
  show z ∈ zhv x (zcI l) ↔ _
  rw [mem_insO, mem_distO, List.mem_cons]
theorem zcJ : ∀ (l : List Ob), Asc (zcI l)
 | [] => List.Pairwise.nil
 | _ :: l => zef (zcJ l)
theorem zh1 {l m : List Ob} (h : Asc l) (hm : ∀ x, x ∈ l ↔ x ∈ m) : l = zcI m := zfN h (zcJ m) fun x => by rw [hm, mem_distO]
theorem kI {l s m : List Ob} (hp : s.Perm l) (hn : l.Nodup) (hs : s.Pairwise fun a b => ¬ yj b a < 0) (hm : ∀ x, x ∈ l ↔ x ∈ m) : s = zcI m := by
 have hsn : s.Nodup := hp.nodup_iff.2 hn
 refine zh1 ?_ fun x => by rw [hp.mem_iff, hm]
 refine (hs.and hsn).imp ?_
 intro a b h
 have h1 := xy a b
 have h2 : yj a b ≠ 0 := fun e => h.2 (jK e)
 omega
end Go.Proofs.YtbkhagigkglgoaaGreatDoor
namespace Go.GL
def ROb : Rel (List Int × Int) := fun D w o cs => ∃ v, cs = [v, .int .i64 o.2] /\ SlR 1 zv D w v o.1
def RQu : Rel (Int × List Int) := fun D w q cs => ∃ v, cs = [.int .i64 q.1, v] /\ SlR 1 zv D w v q.2
def RPg : Rel Fl := fun D w f cs => ∃ v1 v2 v3, cs = [v1, v2, v3] /\ RFl D w f v1 v2 v3
theorem zaG : yb ROb := fun _ _ _ _ hD hk _ _ ⟨v, h1, h2⟩ => ⟨v, h1, h2.stable zb hD hk⟩
theorem xT : yb RQu := fun _ _ _ _ hD hk _ _ ⟨v, h1, h2⟩ => ⟨v, h1, h2.stable zb hD hk⟩
theorem zaH : yb RPg := fun _ _ _ _ hD hk _ _ ⟨v1, v2, v3, h1, h2⟩ => ⟨v1, v2, v3, h1, h2.vars.stable xa hD hk, h2.hatches.stable xb hD hk, h2.body.stable zf hD hk⟩
theorem zfO : xP ROb := fun _ _ _ _ ⟨v, h1, h2⟩ => ⟨v, h1, h2.narrow (by omega) yI⟩
theorem zcK : xP RQu := fun _ _ _ _ ⟨v, h1, h2⟩ => ⟨v, h1, h2.narrow (by omega) yI⟩
theorem zcL : xP RPg := fun _ _ _ _ ⟨v1, v2, v3, h1, h2⟩ => ⟨v1, v2, v3, h1, h2.narrow⟩
instance : StC ROb := ⟨zaG⟩
instance : StC RQu := ⟨xT⟩
instance : StC RPg := ⟨zaH⟩
instance : Dt ROb := ⟨zaG, zfO⟩
instance : Dt RQu := ⟨xT, zcK⟩
instance : Dt RPg := ⟨zaH, zcL⟩
theorem zfP (D : Nat -> Prop) {w : World} (x : List Int × Int) (cs : List Value) (h : ROb D w x cs) : ∀ u ∈ cs, u.oneCell' = true := by
 obtain ⟨v, rfl, h1⟩ := h
 obtain ⟨a, c, rfl⟩ := h1.form
 simp [Value.oneCell']
theorem zhw (D : Nat -> Prop) {w : World} (x : Int × List Int) (cs : List Value) (h : RQu D w x cs) : ∀ u ∈ cs, u.oneCell' = true := by
 obtain ⟨v, rfl, h1⟩ := h
 obtain ⟨a, c, rfl⟩ := h1.form
 simp [Value.oneCell']
@[ext] structure Ac where
 mode : Int
 budget : Int
 spent : Int
 left : List Int
 asked : List (Int × List Int)
deriving DecidableEq
structure RAc (D : Nat -> Prop) (w : World) (a : Ac) (v1 v2 : Value) : Prop where
 left : SlR 1 zv D w v1 a.left
 asked : SlR 2 RQu D w v2 a.asked
theorem RAc.ext {D : Nat -> Prop} {w w' : World} {a : Ac} {v1 v2 : Value} (h : RAc D w a v1 v2) (hk : Ext w w') : RAc D w' a v1 v2 := ⟨h.left.ext zb hk, h.asked.ext xT hk⟩
instance {D : Nat -> Prop} {w w' : World} {a : Ac} {v1 v2 : Value} : Tr (RAc D w a v1 v2) w w' (RAc D w' a v1 v2) := ⟨fun h hk => RAc.ext h hk⟩
theorem RAc.wide {D D' : Nat -> Prop} {w : World} {a : Ac} {v1 v2 : Value} (h : RAc D w a v1 v2) (hD : ∀ q, D q -> D' q) : RAc D' w a v1 v2 := ⟨h.left.wide zb hD, h.asked.wide xT hD⟩
open Go.RowKit
section
variable {P : Program} {env : Env} {w : World} {dst : Option Tmp} {ty : TypeId} {pos : String} {aft : Array Edge} {g : Option (Nat × Bool)}
theorem M.appendStr {t u e : TypeId} {x y : Operand} {v : Value} {m : Nat} {xs : List Value} {s : ByteArray} (hu : P.underlying t = some (.slice e)) (huu : P.underlying u = some .string) (he : (P.info? e).map (fun i => (i.zero, i.size, i.bytes)) = some (some (.int .u8 0), 1, 1))
  (hx : ev env x = some v) (hy : ev env y = some (.string s)) (hown : w.ownsRow 0 e 1 v m xs) (h0 : 0 < s.size) (hmax : m + s.size <= 9223372036854775807) (hby : m + s.size <= 140737488355328) :
  yA P ⟨dst, .call ⟨.builtin .append, #[x, y], #[t, u]⟩, ty, pos, aft, g⟩ env w (fun r w' => w'.ownsRow 0 e 1 r (m + s.size) (xs ++ Lib.strCells s) /\ (r.ownBlock = v.ownBlock \/ ∃ g, r.ownBlock = some g /\ w.heap.size <= g) /\ Keep (fun k => v.ownBlock = some k) w w') := by
 obtain ⟨i, hi, hz0, hz1, hz2⟩ := info_parts he
 obtain ⟨v', w', h1, h2, h3, _⟩ := Lib.run_append_own_string (P := P) w 0 t u ty e i hu huu hi hz0 hz1 hz2 v m xs hown s (by unfold maxLen; omega) hby (Nat.zero_le _)
 have hd : w.drawn <= w'.drawn /\ (v'.ownBlock = v.ownBlock \/ ∃ g, v'.ownBlock = some g /\ w.heap.size <= g) := by
  rcases hown.2 with ⟨rfl, rfl⟩ | ⟨g0, cap, cur, rfl, hbg, hg0, hnc, hcm, hcs, htake⟩
  ·
   have hr := run_append_nil_string (P := P) w t u ty e i (.int .u8 0) hu huu hi hz0 s h0 (by omega) (by rw [hz2]; omega)
   rw [h1] at hr
   cases hr
   exact ⟨Nat.le_succ _, .inr ⟨_, rfl, Nat.le_refl _⟩⟩
  ·
   by_cases hroom : m + s.size <= cap
   ·
    have hcs' : cur.size = cap := by simpa using hcs
    have hr := Lib.run_append_room_string (P := P) w t u ty e i hu huu hi hz1 g0 m cap cur hg0 s hroom (by omega)
    rw [h1] at hr
    cases hr
    exact ⟨Nat.le_refl _, .inl rfl⟩
   ·
    have holds : ∀ j u, xs[j]? = some u -> w.cell? ((⟨g0, 0, none⟩ : Addr).add j) = some u := hown.cells (g := g0) rfl
    have hxl : xs.length = m := by have := hown.1; omega
    have hr := Lib.run_append_grow_string (P := P) w t u ty e i (.int .u8 0) hu huu hi hz0 ⟨g0, 0, none⟩ m cap xs (by rw [hz1]; omega) holds s (by omega) (by omega) (by rw [hz2]; exact growslice_fits (by omega) (by omega))
    rw [h1] at hr
    cases hr
    exact ⟨Nat.le_succ _, .inr ⟨_, rfl, Nat.le_refl _⟩⟩
 refine ⟨v', w', ?_, h2, hd.2, h3.os, h3.tape, h3.output, hd.1, h3.size, fun k hk hn => h3.block k hk (fun e => hn e.symm)⟩
 intro n a ha
 simp [execOp, resolve, invoke, builtin, ha.eval hx, ha.eval hy, h1]
theorem R.addStr {t t' : TypeId} {x y : Operand} {a b : ByteArray} (hx : ev env x = some (.string a)) (hy : ev env y = some (.string b)) (hs : a.size + b.size <= 9223372036854775807) : yr P ⟨dst, .binOp .add t x y t', ty, pos, aft, g⟩ env w (.string (a ++ b)) w := by
 intro n c hc
 have hg : (eqGuard BinOp.add t x y (Value.string a) (Value.string b)).run P w = .ok () w := by simp [eqGuard]
 simp [execOp, hc.eval hx, hc.eval hy, binOp, hg, Op.stringOp]
 omega
end
section
variable {P : Program} {n : Nat} {Q : Exit -> Act -> World -> Prop} {ks : List Fr} {pos : Pos} {env : Env} {A : Tgs} {H Hs : Hp} {Bs B0 : yk} {ops : Array Oper} {rest : List Oper} {v : Value} {L : List Nat} {fuel : Nat} {listed : Array Bool}
variable {d : Nat} {op : Op} {ty : TypeId} {ps : String} {aft : Array Edge} {g : Option (Nat × Bool)}
theorem V.apStr (k : Nat) {t u e : TypeId} {x y : Operand} {m : Nat} {xs : List Value} {s : ByteArray} (hu : P.underlying t = some (.slice e)) (huu : P.underlying u = some .string) (he : (P.info? e).map (fun i => (i.zero, i.size, i.bytes)) = some (some (.int .u8 0), 1, 1))
  (hn : (Nat.blt d n, gd ops env g, zm H k, ev env x, ev env y) = (true, some true, some (.row e 1 v m xs), some v, some (.string s))) (h0 : 0 < s.size) (hmax : m + s.size <= 9223372036854775807) (hby : m + s.size <= 140737488355328)
  (h : ∀ r, V P n Q ks (.o ops rest) ((d, r) :: env) ((d, none) :: A) (hset H k (.row e 1 r (m + s.size) (xs ++ Lib.strCells s))) Bs) : V P n Q ks (.o ops (⟨some d, .call ⟨.builtin .append, #[x, y], #[t, u]⟩, ty, ps, aft, g⟩ :: rest)) env A H Bs := by
 simp only [Prod.mk.injEq] at hn
 obtain ⟨h1, h2, h3, h4, h5⟩ := hn
 refine fun hA w hI => G.mem h1 h2 (M.appendStr hu huu he h4 h5 (hI.at k h3) h0 hmax hby) ?_
 rintro r w' ⟨ho, hf, hk⟩
 refine h r (TgOk.none (hA.res h3 (by simp [qm, h3]))) w' (hI.set h3 hk ho trivial (fun _ h => h) (fun q hq => ⟨?_, xm ho hq⟩))
 rcases hf with hf | ⟨g', hf, hg'⟩
 . exact .inl (by show v.ownBlock = some q; rw [<- hf]; exact hq)
 ·
  have hq : r.ownBlock = some q := hq
  rw [hf] at hq; cases hq; exact .inr hg'
theorem V.opM (k : Nat) {e e' : HE} {r : Value} (hn : (Nat.blt d n, gd ops env g, zm H k, qm H k) = (true, some true, some e, none)) (hl : e'.loc) (hz : ∀ b, ¬ e'.fz b) (hm : ∀ w, VI Bs H w -> yA P ⟨some d, op, ty, ps, aft, g⟩ env w (fun u w' => u = r /\ e'.holds w' /\ Keep e.S w w' /\ ∀ q, e'.S q -> (e.S q \/ w.heap.size <= q) /\ q < w'.heap.size))
  (h : V P n Q ks (.o ops rest) ((d, r) :: env) ((d, none) :: A) (hset H k e') Bs) : V P n Q ks (.o ops (⟨some d, op, ty, ps, aft, g⟩ :: rest)) env A H Bs := by
 simp only [Prod.mk.injEq] at hn
 refine fun hA w hI => G.mem hn.1 hn.2.1 (hm w hI) ?_
 rintro _ w' ⟨rfl, hh, hk, hS⟩
 exact h (TgOk.none (hA.res hn.2.2.1 hn.2.2.2)) w' (hI.set hn.2.2.1 hk hh hl hz hS)
theorem VD.opM (i k j : Nat) {e e' : HE} {r : Value} (hi : ops[i]? = some ⟨some d, op, ty, ps, aft, g⟩) (hr : Region.ready .any ops listed = [i]) (hn : (Nat.blt d n, gd ops env g, zm H k, qm H k, qJ (Hs.map (·.1)), qn k (Hs.map (·.1))) = (true, some true, some e, none, true, true)) (hB : Bs.drop j = B0) (hl : e'.loc) (hz : ∀ b, ¬ e'.fz b)
  (hm : ∀ w, VI Bs H w -> yA P ⟨some d, op, ty, ps, aft, g⟩ env w (fun u w' => u = r /\ e'.holds w' /\ Keep e.S w w' /\ ∀ q, e'.S q -> (e.S q \/ w.heap.size <= q) /\ q < w'.heap.size))
  (h : VD P n Q ks ops Hs B0 L fuel (listed.setIfInBounds i true) ((d, r) :: env) ((d, none) :: A) (hset H k e') Bs) : VD P n Q ks ops Hs B0 L (fuel + 1) listed env A H Bs := by
 simp only [Prod.mk.injEq] at hn
 subst hB
 obtain ⟨h1, h2, h3, h4, h5, h6⟩ := hn
 refine fun hH hA w hI => VD.eff i hi hr h1 h2 (.inl (hm w hI)) ?_
 rintro _ w' ⟨rfl, hh, hk, hS⟩
 have hI' := hI.set h3 hk hh hl hz hS
 have hH' : Has Hs (hset H k e') := hH.set h3 h6
 exact ⟨(hI'.drop j).pick hH' h5, h hH' (TgOk.none (hA.res h3 h4)) w' hI'⟩
theorem VD.opMs (i j : Nat) (kks : List Nat) {β : Type} {Hn : β -> Hp} {u : β -> Value} (A1 : Tgs) (hi : ops[i]? = some ⟨some d, op, ty, ps, aft, g⟩) (hr : Region.ready .any ops listed = [i]) (hn : (Nat.blt d n, gd ops env g, qJ (Hs.map (·.1))) = (true, some true, true)) (hB : Bs.drop j = B0)
  (hHs : ∀ x, Hs.map (fun y => zm (Hn x ++ yT kks H) y.1) = Hs.map (fun y => some y.2))
  (hA1 : ∀ x, A1.map (fun p => zev ((d, u x) :: env) p.1) = A1.map (fun p => kL (Hn x ++ yT kks H) p.2)) (hA2 : ∀ x, A1.all (fun p => (kL (Hn x ++ yT kks H) p.2).isSome) = true)
  (hm : ∀ w, VI Bs H w -> yA P ⟨some d, op, ty, ps, aft, g⟩ env w (fun r w' => ∃ x, r = u x /\ Hands H kks (Hn x) w w'))
  (h : ∀ x, VD P n Q ks ops Hs B0 L fuel (listed.setIfInBounds i true) ((d, u x) :: env) A1 (Hn x ++ yT kks H) Bs) : VD P n Q ks ops Hs B0 L (fuel + 1) listed env A H Bs := by
 simp only [Prod.mk.injEq] at hn
 subst hB
 intro hH hA w hI
 refine VD.eff i hi hr hn.1 hn.2.1 (.inl (hm w hI)) ?_
 rintro _ w' ⟨x, rfl, hh⟩
 have hI' := hI.hands hh
 exact ⟨(hI'.drop j).pick (Has.of (hHs x)) hn.2.2, h x (Has.of (hHs x)) (TgOk.of (hA1 x) (hA2 x)) w' hI'⟩
end
theorem yo {p : Prop} [Decidable p] (h : p) : some (Value.bool true) = some (Value.bool (decide p)) := by rw [decide_eq_true h]
theorem yp {p : Prop} [Decidable p] (h : ¬ p) : some (Value.bool false) = some (Value.bool (decide p)) := by rw [decide_eq_false h]
theorem yq {q p : Prop} [Decidable q] [Decidable p] (h : q ↔ p) : some (Value.bool (decide q)) = some (Value.bool (decide p)) := by rw [decide_eq_decide.2 h]
open Go.RowKit
section
variable {P : Program} {env : Env} {w : World} {dst : Option Tmp} {ty : TypeId} {pos : String} {aft : Array Edge} {g : Option (Nat × Bool)}
theorem R.ptrNil {tp t' te : TypeId} {x y : Operand} {p : Option Addr} (hp : P.underlying tp = some (.pointer te)) (hx : ev env x = some (.pointer p)) (hy : ev env y = some (.pointer none)) : yr P ⟨dst, .binOp .eql tp x y t', ty, pos, aft, g⟩ env w (.bool p.isNone) w := by
 intro n a ha
 have h : ∀ d : Nat, (Op.equalIn (d + 1) tp (.pointer p) (.pointer none)).run P w = .ok p.isNone w := fun d => by
  cases p <;> simp [Op.equalIn, run_underlying hp]
 have hg : (eqGuard BinOp.eql tp x y (.pointer p) (.pointer none)).run P w = .ok () w := by simp [eqGuard]
 have hb : (binOp .eql tp (.pointer p) (.pointer none)).run P w = .ok (.bool p.isNone) w := by
  simp only [binOp]
  simp [Op.equal, Op.maxDepth, h 9999]
 simp [execOp, ha.eval hx, ha.eval hy, hg, hb]
theorem R.ptrNe {tp t' te : TypeId} {j : TypeInfo} {x y : Operand} {a0 : Addr} (hp : P.underlying tp = some (.pointer te)) (hte : P.info? te = some j) (hx : ev env x = some (.pointer (some a0))) (hy : ev env y = some (.pointer (some a0))) : yr P ⟨dst, .binOp .neq tp x y t', ty, pos, aft, g⟩ env w (.bool false) w := by
 intro n a ha
 have hg : (eqGuard BinOp.neq tp x y (.pointer (some a0)) (.pointer (some a0))).run P w = .ok () w := by simp [eqGuard]
 simp [execOp, ha.eval hx, ha.eval hy, hg, Lib.run_neq_ptr_same w a0 hp hte]
theorem R.conv {s d : TypeId} {x : Operand} {v u : Value} (hx : ev env x = some v) (h : (convert s d v).run P w = .ok u w) : yr P ⟨dst, .convert s d x, ty, pos, aft, g⟩ env w u w := by
 intro n a ha
 simp [execOp, ha.eval hx, h]
theorem R.same {f : FuncId} {fn : Func} {x : Operand} {ts : Array TypeId} {v : Value} (hf : P.funcs[f]? = some fn) (hname : (fn.name == "runtime.NumGoroutine") = false) (hb : fn.body.isNone = true) (hn : Extern.findNext fn = none) (he : Extern.find fn = some Extern.AbiNoEscape.same) (hx : ev env x = some v) :
  yr P ⟨dst, .call ⟨.value (.func f), #[x], ts⟩, ty, pos, aft, g⟩ env w v w := by
 intro n a ha
 have hfv : a.eval (.func f) = .func (.func f) #[] #[] := rfl
 simp [execOp, resolve, invoke, Deferred.ofValue, hfv, ha.eval hx, run_callFunc_extern hf hname hb hn he, Lib.run_noEscape]
theorem R.sliceData {t : TypeId} {x : Operand} {a : Addr} {m c : Nat} (hx : ev env x = some (.slice (some a) m c)) (hc : c ≠ 0) : yr P ⟨dst, .call ⟨.builtin .unsafeSliceData, #[x], #[t]⟩, ty, pos, aft, g⟩ env w (.pointer (some a)) w := by
 intro n c' ha
 simp [execOp, resolve, invoke, builtin, ha.eval hx, Lib.run_unsafeSliceData_row w _ _ a m c hc]
theorem R.sliceData0 {t : TypeId} {x : Operand} {m c : Nat} (hx : ev env x = some (.slice none m c)) : yr P ⟨dst, .call ⟨.builtin .unsafeSliceData, #[x], #[t]⟩, ty, pos, aft, g⟩ env w (.pointer none) w := by
 intro n c' ha
 simp [execOp, resolve, invoke, builtin, ha.eval hx, Lib.run_unsafeSliceData_nil w _ _ m c]
theorem R.unsafeString0 {t t' : TypeId} {x y : Operand} {p : Option Addr} (hx : ev env x = some (.pointer p)) (hy : ev env y = some (.int .i64 0)) : yr P ⟨dst, .call ⟨.builtin .unsafeString, #[x, y], #[t, t']⟩, ty, pos, aft, g⟩ env w (.string .empty) w := by
 intro n c' ha
 simp [execOp, resolve, invoke, builtin, ha.eval hx, ha.eval hy, Lib.run_unsafeString_none w t t' ty p]
theorem M.unsafeString {pt it e : TypeId} {x y : Operand} {b c : Nat} {l : List UInt8} (hp : P.underlying pt = some (.pointer e)) (hc : P.cellsOf e = 1) (hx : ev env x = some (.pointer (some ⟨b, 0, none⟩))) (hy : ev env y = some (.int .i64 l.length)) (h0 : l ≠ []) (hown : w.ownsRow 0 e 1 (.slice (some ⟨b, 0, none⟩) l.length c) l.length (Lib.byteCells l)) :
  yA P ⟨dst, .call ⟨.builtin .unsafeString, #[x, y], #[pt, it]⟩, ty, pos, aft, g⟩ env w (fun u w' => u = .string ⟨l.toArray⟩ /\ Keep (fun q => q = b) w w') := by
 have hcl := (jV hown).2.2
 obtain ⟨sp, hB, hcap, hcm, hlen⟩ := zbk hown
 have hsh : w.shape? b = some (e, c * 1) := by
  unfold Blk at hB
  simp [World.shape?, hB]
  rw [List.length_append] at hlen
  omega
 have hr := Lib.run_unsafeString_row (P := P) w pt it ty e hp hc b (c * 1) hsh l h0 (by omega) (by omega) (fun j x hx => by
  have := hcl j (.int .u8 x.toNat) (by simp [Lib.byteCells, hx])
  by_cases hj : j = 0
  . subst hj; simpa [Addr.add] using this
  ·
   simpa [Addr.add, hj] using this)
 refine ⟨.string ⟨l.toArray⟩, w.freeze ⟨b, 0, none⟩ l.length, ?_, rfl, ?_⟩
 ·
  intro n a ha
  simp [execOp, resolve, invoke, builtin, ha.eval hx, ha.eval hy, hr]
 ·
  have hl : l.length ≠ 0 := by simpa using h0
  unfold World.freeze
  rw [if_neg hl]
  refine ⟨rfl, rfl, rfl, Nat.le_refl _, by simp, fun k hk hn => ?_⟩
  simp only [Array.getElem?_modify]
  rw [if_neg (fun e => hn e.symm)]
end
end Go.GL
namespace Go.Proofs.YtbkhagigkglgoaaGreatDoor
open Go.GL
theorem zcM (p v : Value) (b : Nat) (hp : p = .pointer none \/ p = .pointer (some ⟨b, 0, none⟩)) (W : World) (hB : Blk W b [p, v] 184) :
  Calls Tryz.prog 152 #[.pointer (some ⟨b, 0, none⟩)] W (Ret fun r w' => r = .tuple #[] /\ Blk w' b [.pointer (some ⟨b, 0, none⟩), v] 184 /\ Keep (fun q => q = b) W w') := by
 have hsh : ∀ w, Blk w b [p, v] 184 -> w.shape? b = some (184, 2) := fun w h => by
  unfold Blk at h
  simp [World.shape?, h]
 obtain ⟨j, hj, hjs⟩ : ∃ j, Tryz.prog.info? 184 = some j /\ j.size = 2 := Option.map_eq_some_iff.1 (show (Tryz.prog.info? 184).map (·.size) = some 2 by kernel_rfl)
 have hlies : liesAt Tryz.prog Tryz.prog.depth 184 (2 / Tryz.prog.cellsOf 184) 0 184 1 = true := by kernel_rfl
 refine G.in1 Tryz.func152 rfl Tryz.ntmps152 rfl (V.inH [(900, .own b [p, v] 184)] (fun x hx => by rw [List.mem_singleton] at hx; subst hx; exact ⟨hB, trivial, fun _ h => h, fun q hq => by have hq : q = b := hq; rw [hq]; exact hB.lt⟩) (List.pairwise_singleton _ _) ?_)
 refine V.tag 0 900 0 rfl rfl ?_
 rcases hp with rfl | rfl
 ·
  refine Vs 6 rfl ?_
  refine V.ops1 rfl (fun w hI => R.ptrNil tu181 rfl rfl) ?_
  refine Vs 2 rfl ?_
  refine V.bool rfl (fun c => ?_) (fun c => ?_)
  ·
   refine Vs 3 rfl ?_
   refine V.ops1 rfl (fun w hI => R.conv rfl (Lib.run_to_unsafe w ⟨b, 0, none⟩ tu181 Tryz.underlying238 hj (by rw [hjs]; decide) (hsh w (hI.at 900 rfl)) (Nat.zero_lt_succ 1))) ?_
   refine V.ops1 rfl (fun w hI => R.same Tryz.func179 rfl rfl rfl rfl rfl) ?_
   refine V.ops1 rfl (fun w hI => R.conv rfl (Lib.run_from_unsafe w ⟨b, 0, none⟩ Tryz.underlying238 tu181 hj (hsh w (hI.at 900 rfl)) hlies)) ?_
   refine Vs 4 rfl ?_
   refine V.end0 Tryz.results152 (fun w hI => ⟨_, rfl, rfl, hI.at 900 rfl, hI.k0.mono fun q _ ⟨x, hx, hq⟩ => by rw [List.mem_singleton] at hx; subst hx; exact hq⟩)
  . cases c
 ·
  refine Vs 6 rfl ?_
  refine V.ops1 rfl (fun w hI => R.ptrNil tu181 rfl rfl) ?_
  refine Vs 2 rfl ?_
  refine V.bool rfl (fun c => ?_) (fun c => ?_)
  . cases c
  ·
   refine Vs 7 rfl ?_
   refine V.ops1 rfl (fun w hI => R.ptrNe tu181 hj rfl rfl) ?_
   refine Vs 2 rfl ?_
   refine V.bool rfl (fun d => ?_) (fun d => ?_)
   . cases d
   ·
    refine Vs 1 rfl ?_
    refine V.end0 Tryz.results152 (fun w hI => ⟨_, rfl, rfl, hI.at 900 rfl, hI.k0.mono fun q _ ⟨x, hx, hq⟩ => by rw [List.mem_singleton] at hx; subst hx; exact hq⟩)
end Go.Proofs.YtbkhagigkglgoaaGreatDoor
namespace Go.GL
open Go.Lib
def Dig (c : UInt8) : Prop := 48 <= c.toNat /\ c.toNat <= 57
theorem zeg {m : Nat} (h : m < 10) : (UInt8.ofNat (48 + m)).toNat = 48 + m := by
 have : (48 + m) % 256 = 48 + m := Nat.mod_eq_of_lt (by omega)
 simp [this]
theorem xv (u : Nat) : ∀ c ∈ decDigits u, Dig c := by
 induction u using Nat.strongRecOn with
 | _ u ih =>
  intro c hc
  rw [decDigits] at hc
  split at hc
  ·
   rename_i h
   rw [List.mem_singleton] at hc
   subst hc
   unfold Dig
   rw [zeg h]; omega
  ·
   rename_i h
   rcases List.mem_append.1 hc with hc | hc
   . exact ih (u / 10) (by omega) c hc
   ·
    rw [List.mem_singleton] at hc
    subst hc
    unfold Dig
    rw [zeg (Nat.mod_lt _ (by decide))]
    have := Nat.mod_lt u (show 0 < 10 by decide)
    omega
def zj0 (l : List UInt8) : Nat := l.foldl (fun a c => a * 10 + (c.toNat - 48)) 0
theorem zeh (u : Nat) : zj0 (decDigits u) = u := by
 induction u using Nat.strongRecOn with
 | _ u ih =>
  rw [decDigits]
  split
  ·
   rename_i h
   simp only [zj0, List.foldl_cons, List.foldl_nil]
   rw [zeg h]; omega
  ·
   rename_i h
   have h1 := ih (u / 10) (by omega)
   unfold zj0 at h1 ⊢
   rw [List.foldl_append, h1]
   simp only [List.foldl_cons, List.foldl_nil]
   rw [zeg (Nat.mod_lt _ (by decide))]
   omega
theorem jL {u v : Nat} (h : decDigits u = decDigits v) : u = v := by
 rw [<- zeh u, <- zeh v, h]
theorem zei {a b : Int} (h : itoa a = itoa b) : a = b := by
 unfold itoa at h
 split at h <;> split at h
 ·
  have := jL (List.cons.inj h).2
  omega
 ·
  have := xv b.toNat 45 (by rw [<- h]; exact List.mem_cons_self ..)
  exact absurd this (by unfold Dig; decide)
 ·
  have := xv a.toNat 45 (by rw [h]; exact List.mem_cons_self ..)
  exact absurd this (by unfold Dig; decide)
 ·
  have := jL h
  omega
theorem zbK {a : Int} {c : UInt8} (h : c.toNat < 45) : c ∉ itoa a := by
 intro hc
 unfold itoa at hc
 split at hc
 ·
  rcases List.mem_cons.1 hc with rfl | hc
  . exact absurd h (by decide)
  . have := (xv _ c hc).1; omega
 . have := (xv _ c hc).1; omega
theorem zej {α : Type} {c : α} : ∀ {a b x y : List α}, c ∉ a -> c ∉ b -> a ++ c :: x = b ++ c :: y -> a = b /\ x = y
 | [], [], _, _, _, _, h => ⟨rfl, (List.cons.inj h).2⟩
 | [], _ :: _, _, _, _, hb, h => absurd (List.mem_cons.2 (.inl (List.cons.inj h).1)) hb
 | _ :: _, [], _, _, ha, _, h => absurd (List.mem_cons.2 (.inl (List.cons.inj h).1.symm)) ha
 | p :: a, q :: b, x, y, ha, hb, h => by
  obtain ⟨h1, h2⟩ := List.cons.inj h
  obtain ⟨h3, h4⟩ := zej (fun h => ha (List.mem_cons_of_mem _ h)) (fun h => hb (List.mem_cons_of_mem _ h)) h2
  exact ⟨by rw [h1, h3], h4⟩
def xw (c : UInt8) (l : List Int) : List UInt8 := l.flatMap fun n => itoa n ++ [c]
theorem qO (c : UInt8) (n : Int) (l : List Int) : xw c (n :: l) = itoa n ++ c :: xw c l := by simp [xw]
theorem zcN (c : UInt8) (l l' : List Int) : xw c (l ++ l') = xw c l ++ xw c l' := by simp [xw]
def xU (o : List Int × Int) : List UInt8 := xw 44 o.1 ++ itoa o.2
theorem zb5 : ∀ {o p : List Int × Int}, xU o = xU p -> o = p
 | ([], t), ([], t'), h => by
  have : itoa t = itoa t' := h
  rw [zei this]
 | ([], t), (n :: l, t'), h => by
  unfold xU at h
  simp only [qO, List.append_assoc, List.cons_append] at h
  have h : itoa t = itoa n ++ 44 :: (xw 44 l ++ itoa t') := h
  exact absurd (show (44 : UInt8) ∈ itoa t by rw [h]; simp) (zbK (by decide))
 | (n :: l, t), ([], t'), h => by
  unfold xU at h
  simp only [qO, List.append_assoc, List.cons_append] at h
  have h : itoa n ++ 44 :: (xw 44 l ++ itoa t) = itoa t' := h
  exact absurd (show (44 : UInt8) ∈ itoa t' by rw [<- h]; simp) (zbK (by decide))
 | (n :: l, t), (m :: l', t'), h => by
  unfold xU at h
  simp only [qO, List.append_assoc, List.cons_append] at h
  obtain ⟨h1, h2⟩ := zej (zbK (by decide)) (zbK (by decide)) h
  have := zb5 (o := (l, t)) (p := (l', t')) h2
  rw [Prod.mk.injEq] at this
  rw [zei h1, this.1, this.2]
end Go.GL
namespace Go.Proofs
open Go.Shelf
def Tryz.laysM171_ren : Go.Shelf.Ren := ⟨fun | 171 => 122 | 243 => 153 | 246 => 180 | 283 => 193 | 284 => 194 | 285 => 195 | 286 => 196 | 129 => 139 | 317 => 207 | 318 => 208 | 319 => 209 | 320 => 210 | 337 => 213 | 338 => 214 | n => n, fun | 3 => 3 | 9 => 9 | 2 => 2 | 4 => 4 | 171 => 249 | 0 => 0 | 53 => 204 | 37 => 182 | 5 => 5 | 173 => 251 | 212 => 259 | 51 => 202 | 20 => 20 | 213 => 260 | 46 => 157 | 232 => 266 | 233 => 267 | n => n, fun | 17 => 0 | 18 => 1 | 19 => 2 | n => n⟩
theorem Tryz.laysM171 : Go.Proofs.LaysM.n171 Tryz.prog Tryz.laysM171_ren := {
 mixed := by kernel_rfl
 f129 := Tryz.func139.trans (congrArg some (by kernel_rfl))
 f171 := Tryz.func122.trans (congrArg some (by kernel_rfl))
 f243 := Tryz.func153.trans (congrArg some (by kernel_rfl))
 f246 := Tryz.func180.trans (congrArg some (by kernel_rfl))
 f283 := Tryz.func193.trans (congrArg some (by kernel_rfl))
 f284 := Tryz.func194.trans (congrArg some (by kernel_rfl))
 f285 := Tryz.func195.trans (congrArg some (by kernel_rfl))
 f286 := Tryz.func196.trans (congrArg some (by kernel_rfl))
 f317 := Tryz.func207.trans (congrArg some (by kernel_rfl))
 f318 := Tryz.func208.trans (congrArg some (by kernel_rfl))
 f319 := Tryz.func209.trans (congrArg some (by kernel_rfl))
 f320 := Tryz.func210.trans (congrArg some (by kernel_rfl))
 f337 := Tryz.func213.trans (congrArg some (by kernel_rfl))
 f338 := Tryz.func214.trans (congrArg some (by kernel_rfl))
 t0 := Tryz.underlying0
 a0 := Tryz.isAgg0
 z0 := Tryz.sizeOf0
 v0 := Tryz.zeroValue0
 t2 := Tryz.underlying2
 a2 := Tryz.isAgg2
 z2 := Tryz.sizeOf2
 v2 := Tryz.zeroValue2
 t3 := tu3
 a3 := tg3
 z3 := ts3
 v3 := tz3
 t4 := tu4
 a4 := tg4
 z4 := ts4
 v4 := tz4
 t5 := Tryz.underlying5
 a5 := Tryz.isAgg5
 z5 := ts5
 v5 := Tryz.zeroValue5
 t9 := tu9
 a9 := tg9
 z9 := ts9
 v9 := Tryz.zeroValue9
 t20 := Tryz.underlying20
 a20 := Tryz.isAgg20
 z20 := Tryz.sizeOf20
 v20 := Tryz.zeroValue20
 t37 := Tryz.underlying182
 a37 := Tryz.isAgg182
 z37 := Tryz.sizeOf182
 v37 := Tryz.zeroValue182
 t46 := Tryz.underlying157
 a46 := Tryz.isAgg157
 z46 := Tryz.sizeOf157
 v46 := Tryz.zeroValue157
 t51 := Tryz.underlying202
 a51 := Tryz.isAgg202
 z51 := Tryz.sizeOf202
 v51 := Tryz.zeroValue202
 t53 := Tryz.underlying204
 a53 := Tryz.isAgg204
 z53 := Tryz.sizeOf204
 v53 := Tryz.zeroValue204
 t171 := Tryz.underlying249
 a171 := Tryz.isAgg249
 z171 := Tryz.sizeOf249
 v171 := Tryz.zeroValue249
 t173 := Tryz.underlying251
 a173 := Tryz.isAgg251
 z173 := Tryz.sizeOf251
 v173 := Tryz.zeroValue251
 t212 := Tryz.underlying259
 a212 := Tryz.isAgg259
 z212 := Tryz.sizeOf259
 v212 := Tryz.zeroValue259
 t213 := Tryz.underlying260
 a213 := Tryz.isAgg260
 z213 := Tryz.sizeOf260
 t232 := Tryz.underlying266
 a232 := Tryz.isAgg266
 z232 := Tryz.sizeOf266
 v232 := Tryz.zeroValue266
 t233 := Tryz.underlying267
 a233 := Tryz.isAgg267
 z233 := Tryz.sizeOf267
 v233 := Tryz.zeroValue267
 g17 := by kernel_rfl
 g18 := by kernel_rfl
 g19 := by kernel_rfl
 i0 := by kernel_rfl
 i2 := by kernel_rfl
 i3 := by kernel_rfl
 i4 := by kernel_rfl
 i5 := by kernel_rfl
 i9 := by kernel_rfl
 i20 := by kernel_rfl
 i37 := by kernel_rfl
 i46 := by kernel_rfl
 i51 := by kernel_rfl
 i53 := by kernel_rfl
 i171 := by kernel_rfl
 i173 := by kernel_rfl
 i212 := by kernel_rfl
 i232 := by kernel_rfl
 i233 := by kernel_rfl
 m17 := by kernel_rfl
 m18 := by kernel_rfl
 m19 := by kernel_rfl }
open Go.RowKit Go.Sort Go.Lib in
theorem Tryz.strconv_Itoa (n : Int) (h0 : -9223372036854775808 <= n) (h1 : n <= 9223372036854775807) (w : World) (htab : Lib.TabIs Tryz.prog w "internal/strconv.uint64pow10" .u64 Lib.pow10Tab) :
  Calls Tryz.prog 122 #[.int .i64 n] w fun e w' => e = .returned (.string ⟨(Lib.itoa n).toArray⟩) /\ ∃ k os, w' = grow (w.drewN k) os := Any.strconv_Itoa Tryz.laysM171 n h0 h1 w htab
end Go.Proofs
namespace Go.Proofs.YtbkhagigkglgoaaGreatDoor
open Go.GL
theorem zfQ (a b : List UInt8) : (⟨a.toArray⟩ : ByteArray) ++ ⟨b.toArray⟩ = ⟨(a ++ b).toArray⟩ := by
 apply ByteArray.ext
 simp
theorem zbL (a : List UInt8) : Lib.strCells ⟨a.toArray⟩ = Lib.byteCells a := by simp [Lib.strCells_eq]
theorem zbM (a : List UInt8) : (⟨a.toArray⟩ : ByteArray).size = a.length := by simp [ByteArray.size]
def Tab (w : World) : Prop := Lib.TabIs Tryz.prog w "internal/strconv.uint64pow10" .u64 Lib.pow10Tab
theorem Tab.ext {w w' : World} (h : Tab w) (hk : Ext w w') : Tab w' :=
 Go.Joins.tab_stays (P := Tryz.prog) (g := 0) (by kernel_rfl) h (B := w.heap.size) ⟨hk.os, hk.tape, hk.output, hk.size, fun k hk' => hk.block k hk' (fun h => h)⟩ (Nat.le_refl _)
instance {w w' : World} : Tr (Tab w) w w' (Tab w') := ⟨Tab.ext⟩
theorem zdz (w : World) (k : Nat) (os : Array Obj) : Ext w (Go.Sort.grow (w.drewN k) os) := by
 refine ⟨rfl, rfl, rfl, Nat.le_add_right _ _, ?_, fun i hi _ => ?_⟩
 ·
  show w.heap.size <= (w.heap ++ os).size
  rw [Array.size_append]; omega
 ·
  show (w.heap ++ os)[i]? = _
  rw [Array.getElem?_append_left hi]
theorem zfR (n : Int) (h0 : -9223372036854775808 <= n) (h1 : n <= 9223372036854775807) (w : World) (ht : Tab w) : Calls Tryz.prog 122 #[.int .i64 n] w (Ret fun r w' => r = .string ⟨(Lib.itoa n).toArray⟩ /\ Ext w w') := by
 refine (Tryz.strconv_Itoa n h0 h1 w ht).mono ?_
 rintro e w' ⟨rfl, k, os, rfl⟩
 exact ⟨_, rfl, rfl, zdz w k os⟩
abbrev ziC (k1 k2 b : Nat) (p v : Value) (m : Nat) (bs : List Value) : Hp := [(k1, .own b [p, v] 184), (k2, .row 5 1 v m bs)]
theorem zfS {k1 k2 b m : Nat} {p v : Value} {bs : List Value} {w : World} (hB : Blk w b [p, v] 184) (hR : w.ownsRow 0 5 1 v m bs) (hne : v.ownBlock ≠ some b) :
  (∀ x ∈ ziC k1 k2 b p v m bs, x.2.holds w /\ x.2.loc /\ (∀ b, ¬ x.2.fz b) /\ ∀ q, x.2.S q -> q < w.heap.size) /\ (ziC k1 k2 b p v m bs).Pairwise (fun x y => ∀ q, x.2.S q -> ¬ y.2.S q) := by
 refine ⟨fun x hx => ?_, List.pairwise_cons.2 ⟨fun x hx q hq hs => ?_, List.pairwise_singleton _ _⟩⟩
 ·
  simp only [List.mem_cons, List.not_mem_nil, or_false] at hx
  rcases hx with rfl | rfl
  . exact ⟨hB, trivial, fun _ h => h, fun q hq => by have hq : q = b := hq; rw [hq]; exact hB.lt⟩
  . exact ⟨hR, trivial, fun _ h => h, fun q hq => xm hR hq⟩
 ·
  rw [List.mem_singleton] at hx
  subst hx
  have hq : q = b := hq
  subst hq
  exact hne hs
theorem zi2 {H : Hp} {p v : Value} {b : Nat} {w : World} (hp : p = .pointer none \/ p = .pointer (some ⟨b, 0, none⟩)) (hB : Blk w b [p, v] 184) (h0 : zm H 900 = some (.own b [p, v] 184)) :
  Calls Tryz.prog 152 #[.pointer (some ⟨b, 0, none⟩)] w (Ret fun r w' => ∃ _x : Unit, r = .tuple #[] /\ Hands H [900] [(900, .own b [.pointer (some ⟨b, 0, none⟩), v] 184)] w w') := by
 refine (zcM p v b hp w hB).mono ?_
 rintro e w' ⟨_, rfl, rfl, h1, h2⟩
 refine ⟨_, rfl, (), rfl, h2.mono fun q _ hq => ⟨_, zn h0, rfl, hq⟩, fun x hx => ?_, List.pairwise_singleton _ _⟩
 rw [List.mem_singleton] at hx
 subst hx
 exact ⟨h1, trivial, fun _ h => h, fun q hq => ⟨.inl ⟨_, zn h0, rfl, hq⟩, by have hq : q = b := hq; rw [hq]; exact h1.lt⟩⟩
theorem zj1 {k1 k2 b m q : Nat} {p v : Value} {bs : List Value} (h : HS (ziC k1 k2 b p v m bs) q) : q = b \/ v.ownBlock = some q := by
 obtain ⟨x, hx, hq⟩ := h
 simp only [List.mem_cons, List.not_mem_nil, or_false] at hx
 rcases hx with rfl | rfl
 . exact .inl hq
 . exact .inr hq
theorem bldB {H : Hp} {w0 w : World} {b m m' : Nat} {p p' v v' : Value} {bs bs' : List Value} (hI : VI [(w0, HS (ziC 900 901 b p v m bs))] H w) (h0 : zm H 900 = some (.own b [p', v'] 184)) (h1 : zm H 901 = some (.row 5 1 v' m' bs')) : ∀ q, v'.ownBlock = some q -> v.ownBlock = some q \/ w0.heap.size <= q := by
 intro q hq
 rcases (hI.base _ (List.mem_cons_self ..)).2 _ (zn h1) q hq with h | h
 ·
  rcases zj1 h with h | h
  . exact absurd hq (fun hq => zC hI.apart h0 h1 rfl b rfl (h ▸ hq))
  . exact .inl h
 . exact .inr h
theorem zdA (p v : Value) (b : Nat) (bs : List Value) (s : ByteArray) (hp : p = .pointer none \/ p = .pointer (some ⟨b, 0, none⟩)) (W : World) (hB : Blk W b [p, v] 184) (hR : W.ownsRow 0 5 1 v bs.length bs) (hne : v.ownBlock ≠ some b) (h0 : 0 < s.size) (hlen : bs.length + s.size <= 140737488355328) :
  Calls Tryz.prog 121 #[.pointer (some ⟨b, 0, none⟩), .string s] W (Ret fun r w' => r = .tuple #[.int .i64 s.size, .nilIface] /\ ∃ v', Blk w' b [.pointer (some ⟨b, 0, none⟩), v'] 184 /\ w'.ownsRow 0 5 1 v' (bs.length + s.size) (bs ++ Lib.strCells s) /\ v'.ownBlock ≠ some b /\ Keep (fun q => q = b \/ v.ownBlock = some q) W w' /\ ∀ q, v'.ownBlock = some q -> v.ownBlock = some q \/ W.heap.size <= q) := by
 refine G.in2 Tryz.func121 rfl Tryz.ntmps121 rfl (V.inH [(900, .own b [p, v] 184), (901, .row 5 1 v bs.length bs)] (zfS (k1 := 900) (k2 := 901) hB hR hne).1 (zfS (k1 := 900) (k2 := 901) hB hR hne).2 ?_)
 refine V.tag 0 900 0 rfl rfl ?_
 refine Vs 9 rfl ?_
 refine V.callMs [900] (Hn := fun _x : Unit => [(900, .own b [.pointer (some ⟨b, 0, none⟩), v] 184)]) [(0, some (900, 0)), (6, some (900, 0))] Tryz.call152 rfl (fun _ _ => rfl) (fun _ => rfl) (fun w hI => zi2 hp (hI.at 900 rfl) rfl) ?_
 rintro _ ⟨⟩ rfl
 refine Vs 10 rfl ?_
 refine V.apStr 901 Tryz.underlying182 tu9 Tryz.el5 rfl (h0) (by omega) (by omega) (fun u901 => ?_)
 refine V.opened 901 rfl (by omega) ?_
 rintro bq cq rfl hcap_901
 refine Vs 14 rfl ?_
 refine V.ret2 Tryz.results121 rfl rfl (fun w hI => ⟨_, rfl, rfl, _, hI.at 900 rfl, hI.at 901 rfl, fun h => zC hI.apart (k := 900) (k' := 901) rfl rfl rfl b rfl h, hI.k0.mono (fun q _ h => zj1 h), bldB hI rfl rfl⟩)
open Go.GL Go.ChangeShapes Go.WideShapes Go.ChangeAt Go.RowKit
section
variable {H : Type} {enc : TypeId × Value -> H} {w : World} {base : Nat} {sp : Nat -> Bool} {held : Bool}
set_option maxRecDepth 100000 in
theorem zi3 (k : Nat) (cs : List Value) (x : DataW H × List MemPlace) (h : DataW.trod enc Tryz.prog w base sp held k 56 cs = some x) : ∃ t, RPg (fun _ => True) w t cs := by
 obtain ⟨xs, m, hk, _, hl, hx, hat⟩ := DataW.trod_struct Tryz.underlying56 h
 rw [show Tryz.prog.cellsOf 56 = 3 by kernel_rfl] at hl
 match cs, hl with
 | [c0, c1, c2], _ =>
  obtain ⟨y0, h0⟩ := zq hx hat 0 rfl (c := 1) (by kernel_rfl)
  obtain ⟨y1, h1⟩ := zq hx hat 1 rfl (c := 1) (by kernel_rfl)
  obtain ⟨y2, h2⟩ := zq hx hat 2 rfl (c := 1) (by kernel_rfl)
  obtain ⟨v0, l0, e0, hs0⟩ := za4 tu52 (show Tryz.prog.cellsOf 120 = 5 by kernel_rfl) (by decide) (fun n cs y hy => zhH n cs y hy) h0
  obtain ⟨v1, l1, e1, hs1⟩ := za4 Tryz.underlying53 (show Tryz.prog.cellsOf 137 = 6 by kernel_rfl) (by decide) (fun n cs y hy => zhI n cs y hy) h1
  obtain ⟨v2, l2, e2, hs2⟩ := za4 tu54 zbg (by decide) (fun n cs y hy => zhG n cs y hy) h2
  simp at e0 e1 e2
  subst e0; subst e1; subst e2
  exact ⟨⟨l0, l1, l2⟩, _, _, _, rfl, hs0, hs1, hs2⟩
set_option maxRecDepth 100000 in
theorem zfT (k : Nat) (cs : List Value) (x : DataW H × List MemPlace) (h : DataW.trod enc Tryz.prog w base sp held k 33 cs = some x) : ∃ t, RQu (fun _ => True) w t cs := by
 obtain ⟨xs, m, hk, _, hl, hx, hat⟩ := DataW.trod_struct Tryz.underlying33 h
 rw [show Tryz.prog.cellsOf 33 = 2 by kernel_rfl] at hl
 match cs, hl with
 | [c0, c1], _ =>
  obtain ⟨y0, h0⟩ := zq hx hat 0 rfl (c := 1) (by kernel_rfl)
  obtain ⟨y1, h1⟩ := zq hx hat 1 rfl (c := 1) (by kernel_rfl)
  obtain ⟨n0, e0, _⟩ := DataW.trod_int tu3 h0
  obtain ⟨v1, l1, e1, hs1⟩ := za4 tu31 zbf (by decide) (fun n cs y hy => zde tu3 hy) h1
  simp at e0 e1
  subst e0; subst e1
  exact ⟨(n0, l1), _, rfl, hs1⟩
set_option maxRecDepth 100000 in
theorem zi4 (k : Nat) (cs : List Value) (x : DataW H × List MemPlace) (h : DataW.trod enc Tryz.prog w base sp held k 37 cs = some x) : ∃ (a : Ac) (u1 u2 : Value), cs = [.int .i64 a.mode, .int .i64 a.budget, .int .i64 a.spent, u1, u2] /\ RAc (fun _ => True) w a u1 u2 := by
 obtain ⟨xs, m, hk, _, hl, hx, hat⟩ := DataW.trod_struct Tryz.underlying37 h
 rw [show Tryz.prog.cellsOf 37 = 5 by kernel_rfl] at hl
 match cs, hl with
 | [c0, c1, c2, c3, c4], _ =>
  obtain ⟨y0, h0⟩ := zq hx hat 0 rfl (c := 1) (by kernel_rfl)
  obtain ⟨y1, h1⟩ := zq hx hat 1 rfl (c := 1) (by kernel_rfl)
  obtain ⟨y2, h2⟩ := zq hx hat 2 rfl (c := 1) (by kernel_rfl)
  obtain ⟨y3, h3⟩ := zq hx hat 3 rfl (c := 1) (by kernel_rfl)
  obtain ⟨y4, h4⟩ := zq hx hat 4 rfl (c := 1) (by kernel_rfl)
  obtain ⟨n0, e0, _⟩ := DataW.trod_int Tryz.underlying22 h0
  obtain ⟨n1, e1, _⟩ := DataW.trod_int tu3 h1
  obtain ⟨n2, e2, _⟩ := DataW.trod_int tu3 h2
  obtain ⟨v3, l3, e3, hs3⟩ := za4 tu31 zbf (by decide) (fun n cs y hy => zde tu3 hy) h3
  obtain ⟨v4, l4, e4, hs4⟩ := za4 tu24 (show Tryz.prog.cellsOf 33 = 2 by kernel_rfl) (by decide) (fun n cs y hy => zfT n cs y hy) h4
  simp at e0 e1 e2 e3 e4
  subst e0; subst e1; subst e2; subst e3; subst e4
  exact ⟨⟨n0, n1, n2, l3, l4⟩, _, _, rfl, hs3, hs4⟩
set_option maxRecDepth 100000 in
theorem zh2 {r : Reach} {b0 : Nat} {v : Value} {d : DataW H} {ps : List MemPlace} (hval : Value.okWide Tryz.prog w r b0 37 v) (hd : DataW.Trod enc Tryz.prog w base sp held 37 v d ps) :
  ∃ (a : Ac) (u1 u2 : Value), v = .agg #[.int .i64 a.mode, .int .i64 a.budget, .int .i64 a.spent, u1, u2] /\ RAc (fun _ => True) w a u1 u2 := by
 unfold Value.okWide at hval
 rw [Tryz.underlying37] at hval
 obtain ⟨cs, rfl, hsz, _⟩ := hval
 obtain ⟨k, hn⟩ := hd
 obtain ⟨a, u1, u2, e, ha⟩ := zi4 k _ _ hn
 simp [Value.cells] at e
 exact ⟨a, u1, u2, by rw [<- e], ha⟩
set_option maxRecDepth 100000 in
theorem zeM {r : Reach} {b0 : Nat} {v : Value} {d : DataW H} {ps : List MemPlace} (hval : Value.okWide Tryz.prog w r b0 33 v) (hd : DataW.Trod enc Tryz.prog w base sp held 33 v d ps) :
  ∃ (q : Int × List Int) (u : Value), v = .agg #[.int .i64 q.1, u] /\ SlR 1 zv (fun _ => True) w u q.2 := by
 unfold Value.okWide at hval
 rw [Tryz.underlying33] at hval
 obtain ⟨cs, rfl, hsz, _⟩ := hval
 obtain ⟨k, hn⟩ := hd
 obtain ⟨q, u, e, ha⟩ := zfT k _ _ hn
 simp [Value.cells] at e
 exact ⟨q, u, by rw [<- e], ha⟩
set_option maxRecDepth 100000 in
theorem zh3 {r : Reach} {b0 : Nat} {v : Value} {d : DataW H} {ps : List MemPlace} (hval : Value.okWide Tryz.prog w r b0 23 v) (hd : DataW.Trod enc Tryz.prog w base sp held 23 v d ps) :
  ∃ l, SlR 3 RPg (fun _ => True) w v l := by
 obtain ⟨a, len, cap, rfl⟩ := okWide_slice Tryz.underlying23 hval
 obtain ⟨k, hn⟩ := hd
 obtain ⟨ev, es, hev, hsl⟩ := za4 Tryz.underlying23 (show Tryz.prog.cellsOf 56 = 3 by kernel_rfl) (by decide) (fun n cs y h => zi3 n cs y h) hn
 simp [Value.cells] at hev
 subst hev
 exact ⟨es, hsl⟩
end
def zjf {H : Type} : List (String × DataW H) := [("math/bits.deBruijn32tab", Rows.laid_math_bits_deBruijn32tab), ("math/bits.deBruijn64tab", Rows.laid_math_bits_deBruijn64tab), ("internal/strconv.uint64pow10", Rows.laid_internal_strconv_uint64pow10)]
theorem ziD {W : World} (h : laidMet Tryz.prog zjf W) : Tab W := by
 obtain ⟨ps, ⟨_, _, _, _, _, _, _, _, _, _, ⟨_, _, _, _, _, _, _, _, _, _, ⟨g, t, cs, fuel, p, q, hg, ht, hvar, hd, _, _⟩, _⟩, _⟩, _⟩ := h
 obtain rfl := Option.some.inj ((show Tryz.prog.globalNamed "internal/strconv.uint64pow10" = some 0 by kernel_rfl).symm.trans hg)
 obtain rfl := Option.some.inj ((show (Tryz.prog.globals[0]?).map (·.type) = some 259 by kernel_rfl).symm.trans ht)
 rw [show (Rows.laid_internal_strconv_uint64pow10 : DataW Unit) = Lib.tabData .u64 Lib.pow10Tab by kernel_rfl] at hd
 show W.var? _ _ = _
 have h1 := Lib.cells_of_tab (n := 20) (e := 204) (by kernel_rfl) (by kernel_rfl) (by kernel_rfl) (by kernel_rfl) hd
 rw [hvar, <- h1]
def zfU : DataW Unit -> Array Value
 | .agg l => (l.map fun d => match d with
  | .lit (.int k z) => Value.int k z
  | _ => .int .i64 0).toArray
 | _ => #[]
def zj2 (cs : Array Value) : Obj -> Obj
 | .cells _ t frozen => .cells cs t frozen
 | o => o
noncomputable def zcO (os : Os) : World :=
 let w0 := World.holding Tryz.prog os ⟨#[], #[], []⟩
 { w0 with heap := ((w0.heap.modify 0 (zj2 (zfU Rows.laid_internal_strconv_uint64pow10))).modify 1 (zj2 (zfU Rows.laid_math_bits_deBruijn32tab))).modify 2 (zj2 (zfU Rows.laid_math_bits_deBruijn64tab)) }
set_option maxRecDepth 100000 in
theorem zbN (os : Os) (args : Array Value) : laidMet Tryz.prog zjf ((zcO os).forCall (fun _ _ => 0) ⟨#[], args, []⟩).memory :=
 laidMet_of_run' 8 (by kernel_rfl) (by kernel_rfl)
end Go.Proofs.YtbkhagigkglgoaaGreatDoor
namespace Go.GL
section
variable {P : Program} {env : Env} {w : World} {dst : Option Tmp} {ty : TypeId} {pos : String} {aft : Array Edge} {g : Option (Nat × Bool)}
theorem M.bs0 {t e : TypeId} {k : Nat} (hu : ∀ w, (underlying t).run P w = .ok (.slice e) w) (hs : ∀ w, (sizeOf e).run P w = .ok k w) :
  yA P ⟨dst, .buildSlice t 0 #[], ty, pos, aft, g⟩ env w (fun u w' => ∃ b, u = .slice (some ⟨b, 0, none⟩) 0 0 /\ New w [] e b w') := by
 refine ⟨.slice (some ⟨w.heap.size, 0, none⟩) 0 0, w.alloc (.cells #[] e), ?_, _, rfl, New.mk w [] e⟩
 intro n a ha
 have h0 : Array.range 0 = #[] := Array.eq_empty_of_size_eq_zero (by simp)
 simp [execOp, Instr.buildSlice, hu, hs, newRow, Instr.fill, h0]
end
end Go.GL
namespace Go.Proofs.YtbkhagigkglgoaaGreatDoor
open Go.GL
theorem jM (vs : List Vr) (k : Int) (vv : Value) (D : Nat -> Prop) (w : World) (hvs : SlR 5 RVr D w vv vs) (hlen : vs.length <= 1000000) : Calls Tryz.prog 72 #[vv, .int .i64 k] w (Ret fun r w' => SlR 5 RVr (fun b => w.heap.size <= b) w' r (zd k vs) /\ Ext w w') := by
 obtain ⟨av, nv, rfl⟩ := hvs.form
 have hvs0 := hvs
 have hE := Keep.refl (fun _ => False) w
 refine G.in2 Tryz.func72 rfl Tryz.ntmps72 rfl (Gs 7 rfl (G.mem rfl rfl (M.bs0 tR52 ts120) ?_))
 rintro _ w0 ⟨b0, rfl, hg_b0, hs_b0, hB_b0, hk_b0⟩
 obtain ⟨hE, hvs⟩ := Tr2 hk_b0 hE hvs
 have ho0 : w0.ownsRow 0 120 5 (.slice (some ⟨b0, 0, none⟩) 0 0) 0 [] := yx (k := 5) (n := 0) (cap := 0) hB_b0 (Nat.le_refl _) (by decide) rfl
 refine Gs 10 rfl (G.loop (σ := Nat × Value) (fun ⟨i, vl⟩ => [(0, .slice av vs.length nv), (1, .int .i64 k), (5, vl), (6, .int .i64 i)]) (fun ⟨i, vl⟩ => fun w' => i <= vs.length /\ w'.ownsRow 0 120 5 vl (zd k (vs.take i)).length ((zd k (vs.take i)).flatMap zdl) /\ (∀ q, vl.ownBlock = some q -> w.heap.size <= q) /\ Ext w w') (fun ⟨i, vl⟩ => vs.length - i) ((0, .slice (some ⟨b0, 0, none⟩) 0 0)) (Sub.of rfl) (⟨Nat.zero_le _, ho0, fun q hq => by obtain rfl : b0 = q := Option.some.inj hq; omega, hE⟩) ?_)
 rintro ⟨i, vl⟩ w2 ⟨hi, hown, hfr, hE2⟩
 show G _ _ _ _ _ [(0, .slice av vs.length nv), (1, .int .i64 k), (5, vl), (6, .int .i64 i)] _
 have hvs2 := hvs0.ext xa hE2
 refine Gs 9 rfl (G.ite rfl (fun hlt => ?_) (fun hlt => ?_))
 ·
  obtain ⟨x, he_x⟩ : ∃ x, vs[i]? = some x := ⟨_, List.getElem?_eq_getElem (by omega)⟩
  have hm_x := List.mem_of_getElem? he_x
  obtain ⟨b_x, o_x, c_x, ha_x, _, hc_x, hR_x⟩ := hvs2.at he_x
  have h1_x := RVr.one hR_x
  obtain rfl := hR_x
  have hlt_x : b_x < _ := World.block_lt_of_cell? _ _ (hc_x 0 _ rfl)
  have hot := zau (k := k) he_x
  have hol := yK k (vs.take i)
  rw [List.length_take] at hol
  refine Gs 8 rfl (G.ops1 rfl rfl (R.indexS tR52 ts120 rfl rfl ha_x (by omega)) (Gs 1 rfl (G.ld rfl tg89 (hc_x 1 _ rfl) (Gs 4 rfl (G.ite rfl (fun hkx => ?_) (fun hkx => ?_))))))
  ·
   rw [if_pos hkx] at hot
   refine Gs 4 rfl (G.ops1 rfl rfl (R.indexS tR52 ts120 rfl rfl ha_x (by omega)) (G.ldK rfl tg120 ts120 hc_x rfl (G.mem rfl rfl (M.buildSlice (cs := zdl x) [(0, _)] tR52 ts120 tz120 (by decide) rfl (by kernel_rfl)) ?_)))
   rintro _ w5 ⟨b5, rfl, hg_b5, hs_b5, hB_b5, hk_b5⟩
   have hown5 := zR hown hk_b5 (fun _ _ h => h)
   have hE5 := hE2.ext hk_b5
   have hs5 := hE5.size
   refine G.mem rfl rfl (M.append tu52 Tryz.el120 rfl (by decide) rfl rfl hown5 rfl (Cells.add hB_b5.cells) (ze3 _) (by omega) (by omega)) ?_
   rintro vl' w6 ⟨hown6, hfr6, hk6, _⟩
   refine Ga 9 rfl (by omega) (G.back ((i + 1, vl')) (Sub.of rfl) (⟨by omega, ?_, ?_, hE5.trans hk6 (fun q hq h => by have := hfr q h; omega)⟩) (by first | omega | (dsimp only; omega)))
   ·
    rw [hot, List.length_append, List.flatMap_append]
    exact hown6
   ·
    intro q hq
    rcases hfr6 with h | ⟨q', h, h'⟩
    . exact hfr q (by rw [<- h]; exact hq)
    . rw [h] at hq; cases hq; omega
  ·
   rw [if_neg hkx, List.append_nil] at hot
   refine Ga 8 rfl (by omega) (G.back ((i + 1, vl)) (Sub.of rfl) (⟨by omega, by rw [hot]; exact hown, hfr, hE2⟩) (by first | omega | (dsimp only; omega)))
 ·
  obtain rfl : i = vs.length := by omega
  rw [List.take_length] at hown
  refine Gs 12 rfl (G.ret1 Tryz.results72 rfl ⟨_, rfl, SlR.ofRowK (by omega) zdl ze2 (fun x _ => rfl) hown hfr, hE2⟩)
theorem qj (vs : List Vr) (k : Int) (vv : Value) (D : Nat -> Prop) (w : World) (hvs : SlR 5 RVr D w vv vs) (hlen : vs.length <= 1000000) : Calls Tryz.prog 66 #[vv, .int .i64 k] w (Ret fun r w' => (∃ a b : Int, r = .tuple #[.int .i64 a, .int .i64 b]) /\ Ext w w') := by
 obtain ⟨av, nv, rfl⟩ := hvs.form
 have hE := Keep.refl (fun _ => False) w
 refine G.in2 Tryz.func66 rfl Tryz.ntmps66 rfl (Gs 8 rfl (G.cut (σ := Bool) (fun q => [(0, .slice av vs.length nv), (1, .int .i64 k), (23, .bool q)]) (fun q => fun w' => w' = w) ?_ ?_))
 ·
  refine Gs 4 rfl (G.sp 12 rfl (fun hh1 => ?_) (fun hh1 => ?_))
  ·
   refine Gs 4 rfl (G.sp 16 rfl (fun hh2 => ?_) (fun hh2 => ?_))
   ·
    refine Gs 4 rfl (G.sp 20 rfl (fun hh3 => ?_) (fun hh3 => ?_))
    ·
     refine Gs 4 rfl ?_
     refine G.meet (_) (Sub.of rfl) (rfl)
    ·
     refine Gs 4 rfl ?_
     refine G.meet (_) (Sub.cons rfl (Sub.cons rfl (Sub.cons (by first | rfl | (show some (Value.bool false) = some (Value.bool _); simp [*])) Sub.nil))) (rfl)
   ·
    refine Gs 8 rfl ?_
    refine G.meet (_) (Sub.cons rfl (Sub.cons rfl (Sub.cons (by first | rfl | (show some (Value.bool false) = some (Value.bool _); simp [*])) Sub.nil))) (rfl)
  ·
   refine Gs 12 rfl ?_
   refine G.meet (_) (Sub.cons rfl (Sub.cons rfl (Sub.cons (by first | rfl | (show some (Value.bool false) = some (Value.bool _); simp [*])) Sub.nil))) (rfl)
 rintro q w1 hw1
 subst hw1
 refine Gs 1 rfl (G.bool rfl (fun q1 => ?_) (fun q1 => ?_))
 . refine Gs 8 rfl (G.ret2 tr66 rfl rfl ⟨_, rfl, ⟨_, _, rfl⟩, hE⟩)
 ·
  refine Gs 6 rfl (G.call rfl tc72 (jM vs k _ D _ hvs hlen) ?_)
  rintro _ wz4 ⟨hl, hz4⟩
  obtain ⟨hE, hvs⟩ := Tr2 hz4 hE hvs
  have hol := yK k vs
  generalize zd k vs = l at hl hol
  obtain ⟨al, nl, rfl⟩ := hl.form
  refine Gs 10 rfl ?_
  have hlm := hl.max
  refine G.loop (σ := Nat) (fun i => [(6, .slice al l.length nl), (7, .int .i64 i)]) (fun i => fun w' => i <= l.length /\ (∀ v ∈ l.take i, v.low <= v.high /\ -1048576 <= v.low /\ v.high <= 1048576) /\ Ext wz4 w') (fun i => l.length - i) (0) (Sub.of rfl) (⟨Nat.zero_le _, by simp, Keep.refl _ _⟩) ?_
  rintro i w2 ⟨hi, hgood, hL1⟩
  obtain ⟨hE, hvs, hl⟩ := Tr3 hL1 hE hvs hl
  refine Gs 9 rfl (G.ite rfl (fun hlt => ?_) (fun hlt => ?_))
  ·
   obtain ⟨x, he_x⟩ : ∃ x, l[i]? = some x := ⟨_, List.getElem?_eq_getElem (by omega)⟩
   have hm_x := List.mem_of_getElem? he_x
   obtain ⟨b_x, o_x, c_x, ha_x, _, hc_x, hR_x⟩ := hl.at he_x
   have h1_x := RVr.one hR_x
   obtain rfl := hR_x
   have hlt_x : b_x < _ := World.block_lt_of_cell? _ _ (hc_x 0 _ rfl)
   refine Gs 5 rfl (Qt (by kernel_rfl) (Gs 2 rfl (G.opQ rfl rfl (fun w1 hw1 => R.indexS tR52 ts120 rfl rfl ha_x (by omega)) (Gs 1 rfl (G.ldQ rfl tg3 (fun w1 hw1 => ((hw1.cells hc_x (fun h => h)) 2 _ rfl)) (Gs 2 rfl (G.opQ rfl rfl (fun w1 hw1 => R.indexS tR52 ts120 rfl rfl ha_x (by omega)) (Gs 1 rfl (G.ldQ rfl tg3 (fun w1 hw1 => ((hw1.cells hc_x (fun h => h)) 3 _ rfl)) (Gs 2 rfl (G.sp 44 rfl (fun p1 => ?_) (fun p1 => ?_))))))))))))
   ·
    refine Gs 15 rfl (G.nilQ (fun wz5 hz5 => ?_))
    obtain ⟨hE, hvs, hl, hL1, hc_x⟩ := Tr5 hz5 hE hvs hl hL1 hc_x
    refine Gs 14 rfl (G.ret2 tr66 rfl rfl ⟨_, rfl, ⟨_, _, rfl⟩, hE⟩)
   ·
    refine Gs 2 rfl (G.opQ rfl rfl (fun w1 hw1 => R.indexS tR52 ts120 rfl rfl ha_x (by omega)) (Gs 1 rfl (G.ldQ rfl tg3 (fun w1 hw1 => ((hw1.cells hc_x (fun h => h)) 2 _ rfl)) (Gs 3 rfl (G.sp 52 rfl (fun p2 => ?_) (fun p2 => ?_))))))
    ·
     refine Gs 7 rfl (G.nilQ (fun wz6 hz6 => ?_))
     obtain ⟨hE, hvs, hl, hL1, hc_x⟩ := Tr5 hz6 hE hvs hl hL1 hc_x
     refine Gs 14 rfl (G.ret2 tr66 rfl rfl ⟨_, rfl, ⟨_, _, rfl⟩, hE⟩)
    ·
     refine Gs 2 rfl (G.opQ rfl rfl (fun w1 hw1 => R.indexS tR52 ts120 rfl rfl ha_x (by omega)) (Gs 1 rfl (G.ldQ rfl tg3 (fun w1 hw1 => ((hw1.cells hc_x (fun h => h)) 3 _ rfl)) (Gs 2 rfl (G.nilQ (fun wz7 hz7 => ?_))))))
     obtain ⟨hE, hvs, hl, hL1, hc_x⟩ := Tr5 hz7 hE hvs hl hL1 hc_x
     refine Gs 1 rfl (G.ite rfl (fun p3 => ?_) (fun p3 => ?_))
     . refine Gs 12 rfl (G.ret2 tr66 rfl rfl ⟨_, rfl, ⟨_, _, rfl⟩, hE⟩)
     ·
      refine Ga 8 rfl (by omega) ?_
      have hgood2 : ∀ v ∈ l.take (i + 1), v.low <= v.high /\ -1048576 <= v.low /\ v.high <= 1048576 := fun v hv => by
       rw [zg he_x, List.mem_append, List.mem_singleton] at hv
       rcases hv with hv | rfl
       . exact hgood v hv
       . omega
      refine G.back (i + 1) (Sub.of rfl) (⟨by omega, hgood2, hL1⟩) (by first | omega | (dsimp only; omega))
  ·
   obtain rfl : i = l.length := by omega
   rw [List.take_length] at hgood
   refine Gs 17 rfl (G.loop (σ := Nat × Int) (fun ⟨j, n⟩ => [(6, .slice al l.length nl), (8, .int .i64 n), (9, .int .i64 j)]) (fun ⟨j, n⟩ => fun w' => j <= l.length /\ 0 <= n /\ n <= 4096 /\ Ext w2 w') (fun ⟨j, n⟩ => l.length - j) ((0, 1)) (Sub.of rfl) (⟨Nat.zero_le _, by decide, by decide, Keep.refl _ _⟩) ?_)
   rintro ⟨j, n⟩ w3 ⟨hj, hn0, hn1, hL2⟩
   show G _ _ _ _ _ [(6, .slice al l.length nl), (8, .int .i64 n), (9, .int .i64 j)] _
   obtain ⟨hE, hvs, hl, hL1⟩ := Tr4 hL2 hE hvs hl hL1
   refine Gs 9 rfl (G.ite rfl (fun hlt2 => ?_) (fun hlt2 => ?_))
   ·
    obtain ⟨x, he_x⟩ : ∃ x, l[j]? = some x := ⟨_, List.getElem?_eq_getElem (by omega)⟩
    have hm_x := List.mem_of_getElem? he_x
    obtain ⟨b_x, o_x, c_x, ha_x, _, hc_x, hR_x⟩ := hl.at he_x
    have h1_x := RVr.one hR_x
    obtain rfl := hR_x
    have hlt_x : b_x < _ := World.block_lt_of_cell? _ _ (hc_x 0 _ rfl)
    have hgx := hgood x hm_x
    have hm1 : 0 <= n * (x.high - x.low + 1) := Int.mul_nonneg hn0 (by omega)
    have hm2 : n * (x.high - x.low + 1) <= 4096 * 2097153 := Int.mul_le_mul hn1 (by omega) (by omega) (by omega)
    refine Gs 5 rfl (Qt (by kernel_rfl) (Gs 3 rfl (G.opQ rfl rfl (fun w1 hw1 => R.indexS tR52 ts120 rfl rfl ha_x (by omega)) (Gs 1 rfl (G.ldQ rfl tg3 (fun w1 hw1 => ((hw1.cells hc_x (fun h => h)) 3 _ rfl)) (Gs 2 rfl (G.opQ rfl rfl (fun w1 hw1 => R.indexS tR52 ts120 rfl rfl ha_x (by omega)) (Gs 1 rfl (G.ldQ rfl tg3 (fun w1 hw1 => ((hw1.cells hc_x (fun h => h)) 2 _ rfl)) (Ga 4 rfl (by omega) (G.nilQ (fun wz8 hz8 => ?_))))))))))))
    obtain ⟨hE, hvs, hl, hL1, hL2, hc_x⟩ := Tr6 hz8 hE hvs hl hL1 hL2 hc_x
    refine Gs 7 rfl (G.ite rfl (fun p4 => ?_) (fun p4 => ?_))
    . refine Gs 12 rfl (G.ret2 tr66 rfl rfl ⟨_, rfl, ⟨_, _, rfl⟩, hE⟩)
    . refine Ga 8 rfl (by omega) (G.back ((j + 1, n * (x.high - x.low + 1))) (Sub.of rfl) (⟨by omega, hm1, by omega, hL2⟩) (by first | omega | (dsimp only; omega)))
   . refine Gs 13 rfl (G.ret2 tr66 rfl rfl ⟨_, rfl, ⟨_, _, rfl⟩, hE⟩)
def jN : List Vr -> Int
 | [] => 1
 | v :: vs => (v.high - v.low + 1) * jN vs
theorem jO : ∀ {vs : List Vr}, (∀ v ∈ vs, 1 <= v.high - v.low + 1) -> 1 <= jN vs
 | [], _ => Int.le_refl _
 | v :: vs, h => by
  have h1 := h v (List.mem_cons_self ..)
  have h2 := jO (vs := vs) fun x hx => h x (List.mem_cons_of_mem _ hx)
  have : (1 : Int) * 1 <= (v.high - v.low + 1) * jN vs := Int.mul_le_mul h1 h2 (by omega) (by omega)
  exact this
theorem zaI {k : Int} : ∀ (vs : List Vr) (n m : Int), (∀ v ∈ vs, v.kind = k) -> zL k vs n = some m -> m = n * jN vs
 | [], n, m, _, h => by simp only [zL, Option.some.injEq] at h; rw [<- h, jN, Int.mul_one]
 | v :: vs, n, m, hk, h => by
  simp only [zL] at h
  rw [if_pos (hk v (List.mem_cons_self ..))] at h
  split at h
  . cases h
  . rw [zaI vs _ m (fun x hx => hk x (List.mem_cons_of_mem _ hx)) h, jN, Int.mul_assoc]
theorem zeN {k : Int} {vs : List Vr} {m : Int} (h : zj k vs = some m) : m = jN (zd k vs) := by
 unfold zj at h
 rw [<- yu] at h
 rw [zaI (zd k vs) _ _ (fun v hv => of_decide_eq_true (List.mem_filter.1 hv).2) h, Int.one_mul]
theorem zaJ : ∀ {vs : List Vr} {r : Int}, 0 <= r -> (∀ v ∈ vs, 1 <= v.high - v.low + 1) -> (zG vs r).2 = r / jN vs
 | [], r, _, _ => by simp [zG, jN]
 | v :: vs, r, h0, h => by
  have h1 := h v (List.mem_cons_self ..)
  have hp := jO (vs := vs) fun x hx => h x (List.mem_cons_of_mem _ hx)
  rw [zG]
  simp only
  rw [zaJ h0 fun x hx => h x (List.mem_cons_of_mem _ hx), Int.tdiv_eq_ediv_of_nonneg (Int.ediv_nonneg h0 (by omega)), Int.ediv_ediv, if_neg (by omega), jN, Int.mul_comm (v.high - v.low + 1), Int.sub_zero]
theorem zb6 {r : Int} (h0 : 0 <= r) : ∀ {vs : List Vr} {i : Nat} {x : Vr}, (∀ v ∈ vs, 1 <= v.high - v.low + 1) -> vs[i]? = some x -> (zG vs r).1[i]? = some (x.low + (r / jN (vs.drop (i + 1))).tmod (x.high - x.low + 1))
 | [], _, _, _, hx => by simp at hx
 | v :: vs, 0, x, h, hx => by
  simp only [List.getElem?_cons_zero, Option.some.injEq] at hx
  subst hx
  simp only [zG, List.getElem?_cons_zero, List.drop_succ_cons, List.drop_zero]
  rw [zaJ h0 fun x hx => h x (List.mem_cons_of_mem _ hx)]
 | v :: vs, i + 1, x, h, hx => by
  simp only [List.getElem?_cons_succ] at hx
  simp only [zG, List.getElem?_cons_succ, List.drop_succ_cons]
  exact zb6 h0 (fun x hx => h x (List.mem_cons_of_mem _ hx)) hx
theorem jm (vs : List Vr) (k : Int) (vv : Value) (D : Nat -> Prop) (W : World) (hk : 0 <= k /\ k <= 3) (hg : ∀ v ∈ vs, yf (v.low, v.high)) (hlen : vs.length <= 1000000) (hvs : SlR 5 RVr D W vv vs) :
  Calls Tryz.prog 66 #[vv, .int .i64 k] W (Ret fun r w' => r = .tuple #[.int .i64 ((zj k vs).getD 0), .int .i64 (if (zj k vs).isSome then 0 else 4)] /\ Ext W w') := by
 have hgo : ∀ v ∈ zd k vs, yf (v.low, v.high) := fun v hv => hg v (List.mem_filter.1 hv).1
 have hsp : zL k (zd k vs) 1 = zj k vs := yu k vs 1
 have hall : ∀ v ∈ zd k vs, v.kind = k := fun v hv => by simpa using (List.mem_filter.1 hv).2
 have hol := Nat.le_trans (yK k vs) hlen
 refine G.in2 Tryz.func66 rfl Tryz.ntmps66 rfl (V.inn ?_)
 refine Vs 8 rfl ?_
 refine V.cutK (σ := Unit) [0, 1] [] [] rfl (fun e u => (23, .bool (decide (¬ (0 <= k /\ k <= 3)))) :: e) (fun e u => e) (fun u => True) (fun _ => rfl) (fun _ => rfl) ?_ ?_
 ·
  refine Vs 4 rfl ?_
  refine V.sp 12 rfl (fun k1_ => ?_) (fun k1_ => ?_)
  ·
   refine Vs 4 rfl ?_
   refine V.sp 16 rfl (fun k2_ => ?_) (fun k2_ => ?_)
   ·
    refine Vs 4 rfl ?_
    refine V.sp 20 rfl (fun k3_ => ?_) (fun k3_ => ?_)
    ·
     refine Vs 4 rfl ?_
     refine V.meet (()) (Sub.cons (by first | exact yo (by omega) | exact yp (by omega) | exact yq (by omega)) (Sub.of rfl)) (Has.of rfl) (trivial) 0 rfl rfl
    ·
     refine Vs 4 rfl ?_
     refine V.meet (()) (Sub.cons (by first | exact yo (by omega) | exact yp (by omega) | exact yq (by omega)) (Sub.of rfl)) (Has.of rfl) (trivial) 0 rfl rfl
   ·
    refine Vs 8 rfl ?_
    refine V.meet (()) (Sub.cons (by first | exact yo (by omega) | exact yp (by omega) | exact yq (by omega)) (Sub.of rfl)) (Has.of rfl) (trivial) 0 rfl rfl
  ·
   refine Vs 12 rfl ?_
   refine V.meet (()) (Sub.cons (by first | exact yo (by omega) | exact yp (by omega) | exact yq (by omega)) (Sub.of rfl)) (Has.of rfl) (trivial) 0 rfl rfl
 rintro u _
 refine Vs 1 rfl ?_
 refine V.ite rfl (fun h0 => ?_) (fun h0 => ?_)
 . exact absurd hk h0
 ·
  refine Vs 6 rfl ?_
  refine V.call2 tc72 rfl (fun w hI => jM vs k vv D w (Tr1 hI.k0 hvs) hlen) ?_
  rintro l w1 w2 hI1 hk12 hos hlow
  obtain ⟨al, cl, rfl⟩ := hos.form
  have hml := hos.max
  refine Vs 10 rfl ?_
  refine V.loopK (σ := Nat) [6] [] [] rfl (fun e i => (7, .int .i64 i) :: e) (fun e i => e) (fun i => i <= (zd k vs).length) (fun i => (zd k vs).length - i) (0) (Sub.of rfl) (Has.of rfl) (fun _ => rfl) (fun _ => rfl) (fun _ => rfl) (Nat.zero_le _) ?_
  rintro i hi
  refine Vs 9 rfl ?_
  refine V.ite rfl (fun hlt => ?_) (fun hlt => ?_)
  ·
   refine Vs 5 rfl ?_
   obtain ⟨x, he_x⟩ : ∃ z_, (zd k vs)[i]? = some z_ := ⟨_, List.getElem?_eq_getElem (by omega)⟩
   have hm_x := List.mem_of_getElem? he_x
   obtain ⟨b_x, o_x, c_x, ha_x, hd_x, hc_x, hR_x⟩ := hos.atD he_x
   obtain rfl := hR_x
   refine V.frS 1000 0 rfl rfl (fun h_ => by have h1_ := hlow _ h_; have h2_ := hd_x; first | omega | exact h1_ h2_) hc_x ?_
   have hgx := hgo x hm_x
   unfold yf at hgx
   dsimp only at hgx
   refine Vq (by kernel_rfl) ?_
   refine Vs 2 rfl ?_
   refine V.ixQ 1000 tR52 ts120 rfl ha_x (by omega) (_) (rfl) rfl ?_
   refine Vs 4 rfl ?_
   refine V.ixQ 1000 tR52 ts120 rfl ha_x (by omega) (_) (rfl) rfl ?_
   refine Vs 4 rfl ?_
   refine V.sp 44 rfl (fun b1 => ?_) (fun b1 => ?_)
   . exact absurd b1 (by omega)
   ·
    refine Vs 2 rfl ?_
    refine V.ixQ 1000 tR52 ts120 rfl ha_x (by omega) (_) (rfl) rfl ?_
    refine Vs 5 rfl ?_
    refine V.sp 52 rfl (fun b2 => ?_) (fun b2 => ?_)
    . exact absurd b2 (by omega)
    ·
     refine Vs 2 rfl ?_
     refine V.ixQ 1000 tR52 ts120 rfl ha_x (by omega) (_) (rfl) rfl ?_
     refine Vs 6 rfl ?_
     refine V.ite rfl (fun b3 => ?_) (fun b3 => ?_)
     . exact absurd b3 (by omega)
     ·
      refine Va 8 rfl (by omega) ?_
      refine V.back (i + 1) (Sub.of rfl) (Has.of rfl) (by omega) (by first | omega | (dsimp only; omega)) 0 rfl rfl
  ·
   refine Vs 17 rfl ?_
   refine V.loopK (σ := Nat × Int) [6] [] [] rfl (fun e ⟨j, n⟩ => (8, .int .i64 n) :: (9, .int .i64 j) :: e) (fun e ⟨j, n⟩ => e) (fun ⟨j, n⟩ => j <= (zd k vs).length /\ zL k ((zd k vs).take j) 1 = some n) (fun ⟨j, n⟩ => (zd k vs).length - j) ((0, 1)) (Sub.of rfl) (Has.of rfl) (fun _ => rfl) (fun _ => rfl) (fun _ => rfl) (⟨Nat.zero_le _, rfl⟩) ?_
   rintro ⟨j, n⟩ ⟨hj, hs⟩
   show V _ _ _ _ _ ((8, .int .i64 n) :: (9, .int .i64 j) :: _) _ (_) _
   have hn := zT k ((zd k vs).take j) 1 n (fun v hv => hgo v (List.mem_of_mem_take hv)) (by omega) (by omega) hs
   refine Vs 9 rfl ?_
   refine V.ite rfl (fun hlt2 => ?_) (fun hlt2 => ?_)
   ·
    refine Vs 5 rfl ?_
    obtain ⟨x, he_x⟩ : ∃ z_, (zd k vs)[j]? = some z_ := ⟨_, List.getElem?_eq_getElem (by omega)⟩
    have hm_x := List.mem_of_getElem? he_x
    obtain ⟨b_x, o_x, c_x, ha_x, hd_x, hc_x, hR_x⟩ := hos.atD he_x
    obtain rfl := hR_x
    refine V.frS 2000 0 rfl rfl (fun h_ => by have h1_ := hlow _ h_; have h2_ := hd_x; first | omega | exact h1_ h2_) hc_x ?_
    have hgx := hgo x hm_x
    unfold yf at hgx
    dsimp only at hgx
    have hp := zdk (n := n) (s := x.high - x.low + 1) hn.1 hn.2 (by omega) (by omega)
    have hst : zL k ((zd k vs).take (j + 1)) 1 = if 4096 < n * (x.high - x.low + 1) then none else some (n * (x.high - x.low + 1)) := by
     rw [zg he_x, zI, hs]; simp [zL, hall x hm_x]
    refine Vq (by kernel_rfl) ?_
    refine Vs 3 rfl ?_
    refine V.ixQ 2000 tR52 ts120 rfl ha_x (by omega) (_) (rfl) rfl ?_
    refine Vs 4 rfl ?_
    refine V.ixQ 2000 tR52 ts120 rfl ha_x (by omega) (_) (rfl) rfl ?_
    refine Va 14 rfl (by omega) ?_
    refine V.ite rfl (fun hb => ?_) (fun hb => ?_)
    ·
     rw [if_pos hb] at hst
     have hnone : zj k vs = none := by
      rw [<- hsp, <- List.take_append_drop (j + 1) (zd k vs), zI, hst]; rfl
     refine Vs 12 rfl ?_
     refine V.ret2 tr66 rfl rfl (fun w hI => ⟨_, rfl, by rw [hnone]; rfl, hI.k1⟩)
    ·
     rw [if_neg hb] at hst
     refine Va 8 rfl (by omega) ?_
     refine V.back ((j + 1, n * (x.high - x.low + 1))) (Sub.of rfl) (Has.of rfl) (⟨by omega, hst⟩) (by first | omega | (dsimp only; omega)) 0 rfl rfl
   ·
    have : j = (zd k vs).length := by omega
    subst this
    rw [List.take_length, hsp] at hs
    refine Vs 13 rfl ?_
    refine V.ret2 tr66 rfl rfl (fun w hI => ⟨_, rfl, by rw [hs]; rfl, hI.k1⟩)
theorem zeO (vs : List Vr) (k : Int) (r : List Int) (vv rv : Value) (D D' : Nat -> Prop) (W : World) (hk : 0 <= k /\ k <= 3) (hg : ∀ v ∈ vs, yf (v.low, v.high)) (hlen : vs.length <= 1000000) (hvs : SlR 5 RVr D W vv vs) (hr : SlR 1 zv D' W rv r) :
  Calls Tryz.prog 38 #[vv, .int .i64 k, rv] W (Ret fun rr w' => rr = .tuple #[.int .i64 (yR k vs r).1, .int .i64 (yR k vs r).2] /\ Ext W w') := by
 obtain ⟨ar, cr, rfl⟩ := hr.form
 have hmr := hr.max
 refine G.in3 Tryz.func38 rfl Tryz.ntmps38 rfl (V.inn ?_)
 refine Vs 10 rfl ?_
 refine V.call1 tc66 rfl (fun w hI => jm vs k vv D w hk hg hlen (Tr1 hI.k0 hvs)) ?_
 refine Vs 14 rfl ?_
 refine V.ite rfl (fun c0 => ?_) (fun c0 => ?_)
 ·
  have hc : ¬ (zj k vs).isSome = true := fun h => c0 (if_pos h)
  refine Vs 9 rfl ?_
  refine V.ret2 tr38 rfl rfl (fun w hI => ⟨_, rfl, by unfold yR; rw [if_neg hc, if_neg hc], hI.k0⟩)
 ·
  have hc : (zj k vs).isSome = true := by
   cases h : (zj k vs).isSome with
   | true => rfl
   | false => rw [h] at c0; exact absurd (by decide) c0
  refine Vs 6 rfl ?_
  refine V.call2 tc72 rfl (fun w hI => jM vs k vv D w (Tr1 hI.k0 hvs) hlen) ?_
  rintro l w1 w2 hI1 hk12 hos hlow
  obtain ⟨al, cl, rfl⟩ := hos.form
  have hml := hos.max
  refine Vs 13 rfl ?_
  refine V.ite rfl (fun c1 => ?_) (fun c1 => ?_)
  ·
   refine Vs 8 rfl ?_
   refine V.ret2 tr38 rfl rfl (fun w hI => ⟨_, rfl, by unfold yR; rw [if_pos hc, if_neg (by omega)], hI.k1⟩)
  ·
   have hel : r.length = (zd k vs).length := by omega
   refine Vs 14 rfl ?_
   refine V.loopK (σ := Nat × Int) [2, 10] [] [] rfl (fun e ⟨i, n⟩ => (11, .int .i64 n) :: (12, .int .i64 i) :: e) (fun e ⟨i, n⟩ => e) (fun ⟨i, n⟩ => i <= (zd k vs).length /\ kN ((zd k vs).drop i) (r.drop i) n = kN (zd k vs) r 0 /\ ∃ m, zL k ((zd k vs).take i) 1 = some m /\ 0 <= n /\ n < m) (fun ⟨i, n⟩ => (zd k vs).length - i) ((0, 0)) (Sub.of rfl) (Has.of rfl) (fun _ => rfl) (fun _ => rfl) (fun _ => rfl) (⟨Nat.zero_le _, rfl, 1, rfl, by omega, by omega⟩) ?_
   rintro ⟨i, n⟩ ⟨hi, hrk, m, hm, hn0, hn1⟩
   show V _ _ _ _ _ ((11, .int .i64 n) :: (12, .int .i64 i) :: _) _ (_) _
   refine Vs 9 rfl ?_
   refine V.ite rfl (fun hlt => ?_) (fun hlt => ?_)
   ·
    refine Vs 6 rfl ?_
    obtain ⟨x, he_x⟩ : ∃ z_, (zd k vs)[i]? = some z_ := ⟨_, List.getElem?_eq_getElem (by omega)⟩
    have hm_x := List.mem_of_getElem? he_x
    obtain ⟨b_x, o_x, c_x, ha_x, hd_x, hc_x, hR_x⟩ := hos.atD he_x
    obtain rfl := hR_x
    refine V.frS 1000 0 rfl rfl (fun h_ => by have h1_ := hlow _ h_; have h2_ := hd_x; first | omega | exact h1_ h2_) hc_x ?_
    obtain ⟨y, he_y⟩ : ∃ z_, r[i]? = some z_ := ⟨_, List.getElem?_eq_getElem (by omega)⟩
    have hm_y := List.mem_of_getElem? he_y
    obtain ⟨b_y, o_y, c_y, ha_y, _, hc_y, hR_y⟩ := hr.at he_y
    obtain rfl := hR_y
    refine V.fr 2000 1 rfl rfl hc_y ?_
    have hgx := hg x (yY hm_x)
    unfold yf at hgx
    dsimp only at hgx
    have hdx := yD he_x
    have hdy := yD he_y
    refine Vq (by kernel_rfl) ?_
    refine Vs 2 rfl ?_
    refine V.ixQ 2000 tR31 ts3 rfl ha_y (by omega) (_) (rfl) rfl ?_
    refine Vs 3 rfl ?_
    refine V.ixQ 1000 tR52 ts120 rfl ha_x (by omega) (_) (rfl) rfl ?_
    refine Vs 4 rfl ?_
    refine V.sp 46 rfl (fun b1 => ?_) (fun b1 => ?_)
    ·
     refine Vs 27 rfl ?_
     refine V.ret2 tr38 rfl rfl (fun w hI => ⟨_, rfl, by unfold yR; rw [if_pos hc, if_pos hel, <- hrk, hdx, hdy]; unfold kN; rw [if_pos (by omega)], hI.k1⟩)
    ·
     refine Vs 2 rfl ?_
     refine V.ixQ 2000 tR31 ts3 rfl ha_y (by omega) (_) (rfl) rfl ?_
     refine Vs 3 rfl ?_
     refine V.ixQ 1000 tR52 ts120 rfl ha_x (by omega) (_) (rfl) rfl ?_
     refine Vs 6 rfl ?_
     refine V.ite rfl (fun d1 => ?_) (fun d1 => ?_)
     ·
      refine Vs 13 rfl ?_
      refine V.ret2 tr38 rfl rfl (fun w hI => ⟨_, rfl, by unfold yR; rw [if_pos hc, if_pos hel, <- hrk, hdx, hdy]; unfold kN; rw [if_pos (by omega)], hI.k1⟩)
     ·
      obtain ⟨m', hm'⟩ := zb3 hc (i + 1)
      have hp := zT k ((zd k vs).take (i + 1)) 1 m' (fun v hv => hg v (yY (List.mem_of_mem_take hv))) (by omega) (by omega) hm'
      have hst := hm'
      rw [zg he_x, zI, hm] at hst
      have hkx : x.kind = k := of_decide_eq_true (List.mem_filter.1 hm_x).2
      have hmm : m * (x.high - x.low + 1) = m' := by
       simp only [Option.bind, zL] at hst
       rw [if_pos hkx] at hst
       split at hst
       . cases hst
       . exact Option.some.inj hst
      have hrs := zcE (s := x.high - x.low + 1) (x := y) (l := x.low) hn0 hn1 (by omega) (by omega) (by omega)
      refine Vs 2 rfl ?_
      refine Vq (by kernel_rfl) ?_
      refine Vs 3 rfl ?_
      refine V.ixQ 1000 tR52 ts120 rfl ha_x (by omega) (_) (rfl) rfl ?_
      refine Vs 4 rfl ?_
      refine V.ixQ 1000 tR52 ts120 rfl ha_x (by omega) (_) (rfl) rfl ?_
      refine Va 7 rfl (by omega) ?_
      refine V.ixQ 2000 tR31 ts3 rfl ha_y (by omega) (_) (rfl) rfl ?_
      refine Va 4 rfl (by omega) ?_
      refine V.ixQ 1000 tR52 ts120 rfl ha_x (by omega) (_) (rfl) rfl ?_
      refine Va 12 rfl (by omega) ?_
      refine V.back ((i + 1, n * (x.high - x.low + 1) + y - x.low)) (Sub.of rfl) (Has.of rfl) (⟨by omega, by rw [<- hrk, hdx, hdy]; conv => rhs; unfold kN; rw [if_neg (by omega)], m', hm', by omega, by omega⟩) (by first | omega | (dsimp only; omega)) 0 rfl rfl
   ·
    have : i = (zd k vs).length := by omega
    subst this
    rw [List.drop_length, <- hel, List.drop_length] at hrk
    refine Vs 13 rfl ?_
    refine V.ret2 tr38 rfl rfl (fun w hI => ⟨_, rfl, by unfold yR; rw [if_pos hc, if_pos hel, <- hrk]; rfl, hI.k1⟩)
theorem qA (vs : List Vr) (k r : Int) (vv : Value) (D : Nat -> Prop) (W : World) (hk : 0 <= k /\ k <= 3) (hg : ∀ v ∈ vs, yf (v.low, v.high)) (hlen : vs.length <= 1000000) (hvs : SlR 5 RVr D W vv vs) :
  Calls Tryz.prog 71 #[vv, .int .i64 k, .int .i64 r] W (Ret fun rr w' => (∃ u, rr = .tuple #[u, .int .i64 (zr k vs r)] /\ (zr k vs r ≠ 0 -> u = .slice none 0 0) /\ (zr k vs r = 0 -> SlR 1 zv (fun b => W.heap.size <= b) w' u (zG (zd k vs) r).1)) /\ Ext W w') := by
 have hgo : ∀ v ∈ zd k vs, yf (v.low, v.high) := fun v hv => hg v (List.mem_filter.1 hv).1
 have hgs : ∀ v ∈ zd k vs, 1 <= v.high - v.low + 1 := fun v hv => by have := hgo v hv; unfold yf at this; dsimp only at this; omega
 have hol := Nat.le_trans (yK k vs) hlen
 have hul := qi (zd k vs) r
 refine G.in3 Tryz.func71 rfl Tryz.ntmps71 rfl (V.inn ?_)
 refine Vs 10 rfl ?_
 refine V.call1 tc66 rfl (fun w hI => jm vs k vv D w hk hg hlen (Tr1 hI.k0 hvs)) ?_
 refine Vs 14 rfl ?_
 refine V.ite rfl (fun c0 => ?_) (fun c0 => ?_)
 ·
  have hc : ¬ (zj k vs).isSome = true := fun h => c0 (if_pos h)
  have hC : zr k vs r = 4 := by unfold zr; rw [if_neg hc]
  refine Vs 9 rfl ?_
  refine V.ret2 tr71 rfl rfl (fun w hI => ⟨_, rfl, ⟨_, by rw [hC, if_neg hc], fun _ => rfl, fun h => by rw [hC] at h; cases h⟩, hI.k0⟩)
 ·
  have hc : (zj k vs).isSome = true := by
   cases h : (zj k vs).isSome with
   | true => rfl
   | false => rw [h] at c0; exact absurd (by decide) c0
  have hN := zee hg hc
  obtain ⟨m, hm⟩ := Option.isSome_iff_exists.1 hc
  have hmp := zeN hm
  have hU : zr k vs r = if r < 0 \/ m <= r then 3 else 0 := by unfold zr; rw [if_pos hc, hm]; rfl
  rw [hm] at hN
  simp only [Option.getD_some] at hN
  rw [hm]
  simp only [Option.getD_some]
  refine Vs 8 rfl ?_
  refine V.sp 25 rfl (fun r0 => ?_) (fun r0 => ?_)
  ·
   have hC : zr k vs r = 3 := by rw [hU, if_pos (.inl r0)]
   refine Vs 15 rfl ?_
   refine V.ret2 tr71 rfl rfl (fun w hI => ⟨_, rfl, ⟨_, by rw [hC], fun _ => rfl, fun h => by rw [hC] at h; cases h⟩, hI.k0⟩)
  ·
   refine Vs 6 rfl ?_
   refine V.ite rfl (fun r1 => ?_) (fun r1 => ?_)
   ·
    have hC : zr k vs r = 3 := by rw [hU, if_pos (.inr r1)]
    refine Vs 8 rfl ?_
    refine V.ret2 tr71 rfl rfl (fun w hI => ⟨_, rfl, ⟨_, by rw [hC], fun _ => rfl, fun h => by rw [hC] at h; cases h⟩, hI.k0⟩)
   ·
    have hC : zr k vs r = 0 := by rw [hU, if_neg (by omega)]
    refine Vs 6 rfl ?_
    refine V.call2 tc72 rfl (fun w hI => jM vs k vv D w (Tr1 hI.k0 hvs) hlen) ?_
    rintro l w1 w2 hI1 hk12 hos hlow
    obtain ⟨al, cl, rfl⟩ := hos.form
    have hml := hos.max
    refine Vs 5 rfl ?_
    refine V.bs0 33 tR31 ts3 rfl (fun b33 => ?_)
    refine Vs 10 rfl ?_
    refine V.loopK (σ := Nat × Int × Value) [2, 10] [] [] rfl (fun e ⟨i, n, v⟩ => (12, .int .i64 i) :: (8, .int .i64 n) :: (11, v) :: e) (fun e ⟨i, n, v⟩ => (33, .row 3 1 v i (((zG (zd k vs) r).1.take i).map ze)) :: e) (fun ⟨i, n, v⟩ => i <= (zd k vs).length /\ n = jN ((zd k vs).drop i) /\ n <= 4096) (fun ⟨i, n, v⟩ => (zd k vs).length - i) ((0, m, .slice (some ⟨b33, 0, none⟩) 0 0)) (Sub.of rfl) (Has.of rfl) (fun _ => rfl) (fun _ => rfl) (fun _ => rfl) (⟨Nat.zero_le _, hmp, hN⟩) ?_
    rintro ⟨i, n, v⟩ ⟨hi, hn, hn4⟩
    show V _ _ _ _ _ ((12, .int .i64 i) :: (8, .int .i64 n) :: (11, v) :: _) _ ((33, .row 3 1 v i (((zG (zd k vs) r).1.take i).map ze)) :: _) _
    refine Vs 9 rfl ?_
    refine V.ite rfl (fun hlt => ?_) (fun hlt => ?_)
    ·
     refine Vs 5 rfl ?_
     obtain ⟨x, he_x⟩ : ∃ z_, (zd k vs)[i]? = some z_ := ⟨_, List.getElem?_eq_getElem (by omega)⟩
     have hm_x := List.mem_of_getElem? he_x
     obtain ⟨b_x, o_x, c_x, ha_x, hd_x, hc_x, hR_x⟩ := hos.atD he_x
     obtain rfl := hR_x
     refine V.frS 1000 0 rfl rfl (fun h_ => by have h1_ := hlow _ h_; have h2_ := hd_x; first | omega | exact h1_ h2_) hc_x ?_
     have hgx := hgo x hm_x
     unfold yf at hgx
     dsimp only at hgx
     have hdx := yD he_x
     have hp1 := jO (vs := (zd k vs).drop (i + 1)) fun y hy => hgs y (List.mem_of_mem_drop hy)
     have hn' : n.tdiv (x.high - x.low + 1) = jN ((zd k vs).drop (i + 1)) := by
      rw [hn, hdx, jN, Int.mul_tdiv_cancel_left _ (by omega)]
     have hn1 : 1 <= n := by rw [hn]; exact jO fun y hy => hgs y (List.mem_of_mem_drop hy)
     have hle := Int.tdiv_le_self (x.high - x.low + 1) (show 0 <= n by omega)
     have hq0 := Int.tdiv_nonneg (show 0 <= r by omega) (show 0 <= n.tdiv (x.high - x.low + 1) by omega)
     have hq1 := Int.tdiv_le_self (n.tdiv (x.high - x.low + 1)) (show 0 <= r by omega)
     have hr0 := Int.tmod_nonneg (x.high - x.low + 1) hq0
     have hr1 := Int.tmod_lt_of_pos (r.tdiv (n.tdiv (x.high - x.low + 1))) (show 0 < x.high - x.low + 1 by omega)
     have zm := zb6 (r := r) (by omega) hgs he_x
     rw [<- Int.tdiv_eq_ediv_of_nonneg (by omega), <- hn'] at zm
     refine Vq (by kernel_rfl) ?_
     refine Vs 2 rfl ?_
     refine V.ixQ 1000 tR52 ts120 rfl ha_x (by omega) (_) (rfl) rfl ?_
     refine Vs 4 rfl ?_
     refine V.ixQ 1000 tR52 ts120 rfl ha_x (by omega) (_) (rfl) rfl ?_
     refine Va 11 rfl (by omega) ?_
     refine V.ops1 rfl (fun w hI => R.quo rfl rfl (by omega) (by omega)) ?_
     refine Vs 3 rfl ?_
     refine Vw [1000] [] rfl ?_
     refine Vd [0, 1, 2, 6, 7, 9] 0 (by kernel_rfl) rfl rfl rfl ?_
     refine VD.ix 3 1000 tR52 ts120 rfl (by kernel_rfl) rfl ha_x (by omega) (_) (rfl) rfl ?_
     refine Vd [4, 5] 0 (by kernel_rfl) rfl rfl rfl ?_
     refine VD.pl 8 rfl (by kernel_rfl) rfl (fun w => R.quo rfl rfl (by omega) (by omega)) ?_
     refine VD.pl 10 rfl (by kernel_rfl) rfl (fun w => R.rem rfl rfl (by omega) (by omega)) ?_
     refine Vb [11] 0 (by kernel_rfl) rfl rfl rfl (by omega) ?_
     refine VD.bs 12 67 0 [(0, _)] tR31 ts3 tz3 (by decide) rfl (by kernel_rfl) rfl rfl (by kernel_rfl) (fun b67 => ?_)
     refine VD.ap 13 33 67 0 tu31 Tryz.el3 rfl (by decide) rfl (by kernel_rfl) rfl rfl rfl (by omega) (by omega) (fun u33 => ?_)
     refine Vd [14] 0 (by kernel_rfl) rfl rfl rfl ?_
     refine VD.done (by kernel_rfl) ?_
     refine Vs 2 rfl ?_
     refine V.heq 33 rfl (e' := .row 3 1 u33 (i + 1) (((zG (zd k vs) r).1.take (i + 1)).map ze)) (by rw [List.take_add_one, zm, List.map_append]; rfl) ?_
     refine Va 5 rfl (by omega) ?_
     refine V.back (⟨i + 1, n.tdiv (x.high - x.low + 1), u33⟩) (Sub.of rfl) (Has.of rfl) (⟨by omega, hn', by omega⟩) (by first | omega | (dsimp only; omega)) 0 rfl rfl
    ·
     have : i = (zd k vs).length := by omega
     subst this
     refine V.heq 33 rfl (e' := .row 3 1 v (zG (zd k vs) r).1.length ((zG (zd k vs) r).1.map ze)) (by rw [<- hul, List.take_length]) ?_
     refine Vs 13 rfl ?_
     refine V.ret2 tr71 rfl rfl (fun w hI => ⟨_, rfl, ⟨_, by rw [hC], fun h => absurd hC h, fun _ => SlR.ofRow1 ze (fun _ _ => rfl) (hI.at 33 rfl) (fun b hb => hI.own 33 1 rfl rfl b hb)⟩, hI.k1⟩)
def zfV (f : Fl) (s : Int) : List Int := if zr 1 f.vars s = 0 then (zG (zd 1 f.vars) s).1 else []
def qR (f : Fl) (pub : List Int) (s : Int) : Ins := ⟨zfV f s, pub, []⟩
def obN (f : Fl) (pub : List Int) (s : Int) : Ob := if zA f (qR f pub s) = 0 then ((xF f (qR f pub s)).outs, (xF f (qR f pub s)).time) else ([], 0)
def spN (f : Fl) : Nat := ((zj 1 f.vars).getD 0).toNat
def qY (f : Fl) : List Int := (List.range (spN f)).map fun i : Nat => (i : Int)
def zgt (f : Fl) (pub rs : List Int) : List Ob := zcI (rs.map (obN f pub))
structure ValidA (a : Ac) : Prop where
 mode : a.mode = 0 \/ a.mode = 1
 b1 : 1 <= a.budget
 b2 : a.budget <= 1048576
 s1 : 1 <= a.spent
 s2 : a.spent <= a.budget
 l1 : 1 <= a.left.length
 l2 : a.left.length <= 4096
 rng : ∀ x ∈ a.left, 0 <= x /\ x < 4096
 asc : a.left.Pairwise (· < ·)
instance (a : Ac) : Decidable (ValidA a) :=
 if h : (a.mode = 0 \/ a.mode = 1) /\ 1 <= a.budget /\ a.budget <= 1048576 /\ 1 <= a.spent /\ a.spent <= a.budget /\ 1 <= a.left.length /\ a.left.length <= 4096 /\ (∀ x ∈ a.left, 0 <= x /\ x < 4096) /\ a.left.Pairwise (· < ·) then
  isTrue ⟨h.1, h.2.1, h.2.2.1, h.2.2.2.1, h.2.2.2.2.1, h.2.2.2.2.2.1, h.2.2.2.2.2.2.1, h.2.2.2.2.2.2.2.1, h.2.2.2.2.2.2.2.2⟩
 else isFalse fun g => h ⟨g.1, g.2, g.3, g.4, g.5, g.6, g.7, g.8, g.9⟩
def zbO (f : Fl) : Int := if zQ f ≠ 0 then zQ f else if zd 3 f.vars ≠ [] then 14 else 0
def kO (f : Fl) (pub : List Int) : Int := if zbO f ≠ 0 then zbO f else (yR 2 f.vars pub).2
def xV (f : Fl) (l : List Int) : Prop := ∀ r ∈ l, 0 <= r /\ r < (spN f : Int)
instance (f : Fl) (l : List Int) : Decidable (xV f l) := by unfold xV; infer_instance
abbrev Qu := Int × List Int
def qPC (f : Fl) (a : Ac) (pub : List Int) : Int := if kO f pub ≠ 0 then kO f pub else if xV f a.left then 0 else 2
def zbZ (ps : List Fl) (i : Int) : Option Fl := if i < 0 then none else ps[i.toNat]?
def yW (a : Ac) (ps : List Fl) (q : Qu) : Int := if ¬ ValidA a then 1 else match zbZ ps q.1 with
 | none => 3
 | some f => qPC f a q.2
def yd (a : Ac) (f : Fl) (q : Qu) : Int := if a.mode = 1 then (zgt f q.2 a.left).length else if q ∈ a.asked then 1 else (zgt f q.2 (qY f)).length
def yU (f : Fl) (pub : List Int) (o : Ob) (l : List Int) : List Int := l.filter fun s => decide (obN f pub s = o)
def zfW (a : Ac) (f : Fl) (q : Qu) (n : Int) (o : Ob) : Ac := ⟨a.mode, a.budget, a.spent * n, yU f q.2 o a.left, if q ∈ a.asked then a.asked else a.asked ++ [q]⟩
structure Res where
 ac : Ac
 answer : Int
 charge : Int
 ob : Ob
 code : Int
def ac0 : Ac := ⟨0, 0, 0, [], []⟩
def zi5 (c : Int) : Res := ⟨ac0, 0, 0, ([], 0), c⟩
def zeP (l : List Ob) (o : Ob) : Int := if o ∈ l then (l.findIdx (fun x => decide (x = o)) : Nat) else -1
def ziE (a : Ac) (f : Fl) (q : Qu) (s : Int) : Res := ⟨zfW a f q (yd a f q) (obN f q.2 s), zeP (zgt f q.2 (qY f)) (obN f q.2 s), yd a f q, obN f q.2 s, 0⟩
def zcP (a : Ac) (ps : List Fl) (q : Qu) (s : Int) : Res :=
 if yW a ps q ≠ 0 then zi5 (yW a ps q) else if s ∉ a.left then zi5 11 else match zbZ ps q.1 with
 | none => zi5 0
 | some f => if a.budget.tdiv a.spent < yd a f q then zi5 18 else ziE a f q s
theorem qB {a : Ac} {ps : List Fl} {q : Qu} (h : yW a ps q = 0) : ValidA a /\ ∃ f, zbZ ps q.1 = some f /\ zbO f = 0 /\ (yR 2 f.vars q.2).2 = 0 /\ xV f a.left := by
 unfold yW at h
 split at h
 . cases h
 ·
  rename_i h1
  have hv := Decidable.not_not.1 h1
  cases hg : zbZ ps q.1 with
  | none => rw [hg] at h; cases h
  | some f =>
   rw [hg] at h
   unfold qPC kO at h
   simp only at h
   by_cases h2 : zbO f = 0
   ·
    simp only [h2, ne_eq, not_true_eq_false, if_false] at h
    by_cases h3 : (yR 2 f.vars q.2).2 = 0
    ·
     simp only [h3, not_true_eq_false, if_false] at h
     by_cases h4 : xV f a.left
     . exact ⟨hv, f, rfl, h2, h3, h4⟩
     . rw [if_neg h4] at h; cases h
    . rw [if_pos h3] at h; exact absurd h h3
   ·
    rw [if_pos h2] at h
    rw [if_pos h2] at h; exact absurd h h2
theorem zh4 {f : Fl} {pub rs : List Int} {s : Int} (h : s ∈ rs) : obN f pub s ∈ zgt f pub rs := mem_distO.2 (List.mem_map.2 ⟨s, h, rfl⟩)
theorem mem_allR {f : Fl} {s : Int} : s ∈ qY f ↔ 0 <= s /\ s < (spN f : Int) := by
 unfold qY
 rw [List.mem_map]
 constructor
 ·
  rintro ⟨i, hi, rfl⟩
  rw [List.mem_range] at hi
  omega
 ·
  intro h
  exact ⟨s.toNat, List.mem_range.2 (by omega), by omega⟩
def Agree (ps : List Fl) (a : Ac) : Prop := ∀ q ∈ a.asked, ∀ f, zbZ ps q.1 = some f -> ∀ s ∈ a.left, ∀ t ∈ a.left, obN f q.2 s = obN f q.2 t
theorem Agree.ans {ps : List Fl} {a : Ac} {f : Fl} {q : Qu} {n : Int} {o : Ob} (h : Agree ps a) (hf : zbZ ps q.1 = some f) : Agree ps (zfW a f q n o) := by
 intro r hr g hg s hs t ht
 have hs := List.mem_filter.1 hs
 have ht := List.mem_filter.1 ht
 have hr : r ∈ (if q ∈ a.asked then a.asked else a.asked ++ [q]) := hr
 have hc : r ∈ a.asked \/ r = q := by
  split at hr
  . exact .inl hr
  ·
   rcases List.mem_append.1 hr with hr | hr
   . exact .inl hr
   . exact .inr (List.mem_singleton.1 hr)
 rcases hc with hc | rfl
 . exact h r hc g hg s hs.1 t ht.1
 ·
  rw [hf] at hg
  cases hg
  rw [of_decide_eq_true hs.2, of_decide_eq_true ht.2]
theorem zcQ {a : Ac} {f : Fl} {q : Qu} (hv : ValidA a) (hi : xV f a.left) : 1 <= yd a f q := by
 have h1 := hv.l1
 obtain ⟨s, hs⟩ : ∃ s, s ∈ a.left := ⟨a.left[0], List.getElem_mem _⟩
 have h2 : ∀ rs, s ∈ rs -> (1 : Int) <= (zgt f q.2 rs).length := fun rs hr => by have := List.length_pos_of_mem (zh4 (f := f) (pub := q.2) hr); omega
 unfold yd
 split
 . exact h2 _ hs
 ·
  split
  . omega
  . exact h2 _ (mem_allR.2 (hi s hs))
theorem zaK {b s p : Int} (hb : 0 <= b) (hs : 1 <= s) (h : p <= b.tdiv s) : s * p <= b := by
 rw [Int.tdiv_eq_ediv_of_nonneg hb] at h
 have := (Int.le_ediv_iff_mul_le (by omega)).1 h
 rw [Int.mul_comm]
 exact this
theorem ValidA.ans {a : Ac} {f : Fl} {q : Qu} {s : Int} (hv : ValidA a) (hs : s ∈ a.left) (hi : xV f a.left) (hp : yd a f q <= a.budget.tdiv a.spent) : ValidA (zfW a f q (yd a f q) (obN f q.2 s)) := by
 have h1 := zaK (by have := hv.b1; omega) hv.s1 hp
 have h2 := zcQ (q := q) hv hi
 have hsub : ∀ x ∈ yU f q.2 (obN f q.2 s) a.left, x ∈ a.left := fun x hx => (List.mem_filter.1 hx).1
 have h3 : s ∈ yU f q.2 (obN f q.2 s) a.left := List.mem_filter.2 ⟨hs, decide_eq_true rfl⟩
 have h4 := List.length_filter_le (fun s' => decide (obN f q.2 s' = obN f q.2 s)) a.left
 have h5 : 1 * 1 <= a.spent * yd a f q := Int.mul_le_mul hv.s1 h2 (by omega) (by have := hv.s1; omega)
 exact ⟨hv.mode, hv.b1, hv.b2, by have : (zfW a f q (yd a f q) (obN f q.2 s)).spent = a.spent * yd a f q := rfl; omega, h1, List.length_pos_of_mem h3, Nat.le_trans h4 hv.l2, fun x hx => hv.rng x (hsub x hx), hv.asc.filter _⟩
theorem RFl.wide {D D' : Nat -> Prop} {w : World} {f : Fl} {v1 v2 v3 : Value} (h : RFl D w f v1 v2 v3) (hD : ∀ q, D q -> D' q) : RFl D' w f v1 v2 v3 := ⟨h.vars.wide xa hD, h.hatches.wide xb hD, h.body.wide zf hD⟩
def zgu (vs : List Vr) (s p r : Int) : Int := if zr 1 vs s ≠ 0 then zr 1 vs s else if zr 2 vs p ≠ 0 then zr 2 vs p else zr 3 vs r
theorem zcR (vs : List Vr) (s p r : Int) (vv : Value) (D : Nat -> Prop) (W : World) (hg : ∀ v ∈ vs, yf (v.low, v.high)) (hlen : vs.length <= 1000000) (hvs : SlR 5 RVr D W vv vs) :
  Calls Tryz.prog 74 #[vv, .int .i64 s, .int .i64 p, .int .i64 r] W (Ret fun rr w' => (∃ a b c, rr = .tuple #[.agg #[a, b, c], .int .i64 (zgu vs s p r)] /\ (zgu vs s p r ≠ 0 -> a = .slice none 0 0 /\ b = .slice none 0 0 /\ c = .slice none 0 0) /\ (zgu vs s p r = 0 -> SlR 1 zv (fun q => W.heap.size <= q) w' a (zG (zd 1 vs) s).1 /\ SlR 1 zv (fun q => W.heap.size <= q) w' b (zG (zd 2 vs) p).1 /\ SlR 1 zv (fun q => W.heap.size <= q) w' c (zG (zd 3 vs) r).1)) /\ Ext W w') := by
 refine G.in4 Tryz.func74 rfl Tryz.ntmps74 rfl (V.inn ?_)
 refine Vs 2 rfl ?_
 refine V.alloc 8 Tryz.zeroValue123 rfl rfl (fun b8 => ?_)
 refine Vs 7 rfl ?_
 refine V.call2 Tryz.call71 rfl (fun w hI => qA vs 1 s vv D w (by decide) hg hlen (Tr1 hI.k0 hvs)) ?_
 rintro r1 w1 w2 hI1 hk12 ⟨a, rfl, ha0, ha1⟩ hlow
 refine Vs 14 rfl ?_
 refine V.ite rfl (fun c1 => ?_) (fun c1 => ?_)
 ·
  have hc : zgu vs s p r = zr 1 vs s := if_pos c1
  refine Vs 2 rfl ?_
  refine V.bld [Value.slice none 0 0, Value.slice none 0 0, Value.slice none 0 0] [(0, 1), (1, 1), (2, 1)] [] rfl rfl (fun _ => by kernel_rfl) ?_
  refine Vs 7 rfl ?_
  refine V.retCT tr74 tg123 ts123 rfl rfl rfl rfl (fun w hI => ⟨_, rfl, ⟨_, _, _, by rw [hc], fun _ => ⟨rfl, rfl, rfl⟩, fun h => absurd (hc ▸ h) c1⟩, hI.k1⟩)
 ·
  have ha := ha1 (Decidable.not_not.1 c1)
  obtain ⟨aa, ca, rfl⟩ := ha.form
  refine Vs 6 rfl ?_
  refine V.call2 Tryz.call71 rfl (fun w hI => qA vs 2 p vv D w (by decide) hg hlen (Tr1 hI.k1 hvs)) ?_
  rintro r2 w3 w4 hI3 hk34 ⟨b, rfl, hb0, hb1⟩ hlow2
  refine Vs 14 rfl ?_
  refine V.ite rfl (fun c2 => ?_) (fun c2 => ?_)
  ·
   have hc : zgu vs s p r = zr 2 vs p := by unfold zgu; rw [if_neg c1, if_pos c2]
   refine Vs 2 rfl ?_
   refine V.bld [Value.slice none 0 0, Value.slice none 0 0, Value.slice none 0 0] [(0, 1), (1, 1), (2, 1)] [] rfl rfl (fun _ => by kernel_rfl) ?_
   refine Vs 7 rfl ?_
   refine V.retCT tr74 tg123 ts123 rfl rfl rfl rfl (fun w hI => ⟨_, rfl, ⟨_, _, _, by rw [hc], fun _ => ⟨rfl, rfl, rfl⟩, fun h => absurd (hc ▸ h) c2⟩, hI.k2⟩)
  ·
   have hb := hb1 (Decidable.not_not.1 c2)
   obtain ⟨ab, cb, rfl⟩ := hb.form
   refine Vs 6 rfl ?_
   refine V.call2 Tryz.call71 rfl (fun w hI => qA vs 3 r vv D w (by decide) hg hlen (Tr1 hI.k2 hvs)) ?_
   rintro r3 w5 w6 hI5 hk56 ⟨c, rfl, hc0, hc1⟩ hlow3
   have hcc : zgu vs s p r = zr 3 vs r := by unfold zgu; rw [if_neg c1, if_neg c2]
   refine Vs 14 rfl ?_
   refine V.ite rfl (fun c3 => ?_) (fun c3 => ?_)
   ·
    refine Vs 2 rfl ?_
    refine V.bld [Value.slice none 0 0, Value.slice none 0 0, Value.slice none 0 0] [(0, 1), (1, 1), (2, 1)] [] rfl rfl (fun _ => by kernel_rfl) ?_
    refine Vs 7 rfl ?_
    refine V.retCT tr74 tg123 ts123 rfl rfl rfl rfl (fun w hI => ⟨_, rfl, ⟨_, _, _, by rw [hcc], fun _ => ⟨rfl, rfl, rfl⟩, fun h => absurd (hcc ▸ h) c3⟩, hI.k3⟩)
   ·
    have hc := hc1 (Decidable.not_not.1 c3)
    obtain ⟨ac, cc, rfl⟩ := hc.form
    have e1 : W.heap.size <= w1.heap.size := hI1.k0.size
    have e3 : W.heap.size <= w3.heap.size := hI3.k1.size
    have e5 : W.heap.size <= w5.heap.size := hI5.k2.size
    refine V.dat 900 2 rfl rfl rfl (ha) (fun q hq _ hs => by have := hlow q hs; omega) ?_
    refine V.dat 901 1 rfl rfl rfl (hb) (fun q hq _ hs => by have := hlow2 q hs; omega) ?_
    refine V.dat 902 0 rfl rfl rfl (hc) (fun q hq _ hs => by have := hlow3 q hs; omega) ?_
    refine Vs 7 rfl ?_
    refine V.bld [Value.slice none 0 0, Value.slice none 0 0, Value.slice none 0 0] [(0, 1), (1, 1), (2, 1)] [(0, _), (1, _), (2, _)] rfl rfl (fun _ => by kernel_rfl) ?_
    refine Vs 5 rfl ?_
    refine V.retCT tr74 tg123 ts123 rfl rfl rfl rfl (fun w hI => ⟨_, rfl, ⟨_, _, _, by rw [hcc, Decidable.not_not.1 c3], fun h => absurd (hcc ▸ Decidable.not_not.1 c3) h, fun _ => ⟨(hI.at 900 rfl).1.wide zb (fun q hq => by omega), (hI.at 901 rfl).1.wide zb (fun q hq => by omega), (hI.at 902 rfl).1.wide zb (fun q hq => by omega)⟩⟩, hI.k3⟩)
theorem zhx {f : Fl} {pub : List Int} {s : Int} {ov : Value} {t : Int} {B : Nat -> Prop} {w : World} (h1 : zA f (qR f pub s) ≠ 0 -> ov = .slice none 0 0 /\ t = 0) (h2 : zA f (qR f pub s) = 0 -> t = (xF f (qR f pub s)).time /\ SlR 1 zv B w ov (xF f (qR f pub s)).outs) : t = (obN f pub s).2 /\ SlR 1 zv B w ov (obN f pub s).1 := by
 unfold obN
 by_cases h : zA f (qR f pub s) = 0
 . rw [if_pos h]; exact h2 h
 ·
  rw [if_neg h]
  obtain ⟨rfl, rfl⟩ := h1 h
  exact ⟨rfl, SlR.nil⟩
theorem qk (f : Fl) (vd : Valid f) (pub : List Int) (s : Int) (v1 v2 v3 pv : Value) (D D' : Nat -> Prop) (W : World) (hf : RFl D W f v1 v2 v3) (hp : SlR 1 zv D' W pv pub) :
  Calls Tryz.prog 49 #[.agg #[v1, v2, v3], pv, .int .i64 s] W (Ret fun r w' => (∃ ov, r = .agg #[ov, .int .i64 (obN f pub s).2] /\ SlR 1 zv (fun b => W.heap.size <= b) w' ov (obN f pub s).1) /\ Ext W w') := by
 have hl := vd.lens
 obtain ⟨ap, cp, rfl⟩ := hp.form
 refine G.in3 Tryz.func49 rfl Tryz.ntmps49 rfl (V.inn ?_)
 refine Vs 2 rfl ?_
 refine V.box 3 rfl rfl (fun b3 => ?_)
 refine V.alloc 6 tz60 rfl rfl (fun b6 => ?_)
 refine Vs 7 rfl ?_
 refine V.call2 Tryz.call86 rfl (fun w hI => zcF f.vars 1 s v1 D w (by decide) vd.good (by omega) (Tr1 hI.k0 hf.vars)) ?_
 rintro r1 w1 w2 hI1 hk12 ⟨u, rfl, hu0, hu1⟩ hlow
 have hsec : SlR 1 zv (fun b => w1.heap.size <= b) w2 u (zfV f s) := by
  unfold zfV
  by_cases h : zr 1 f.vars s = 0
  . rw [if_pos h]; exact hu1 h
  . rw [if_neg h, hu0 h]; exact SlR.nil
 obtain ⟨au, cu, rfl⟩ := hsec.form
 have e1 : W.heap.size <= w1.heap.size := hI1.k0.size
 refine Vs 8 rfl ?_
 refine V.dat 900 0 rfl rfl rfl (hsec) (fun q hq _ hs => by have := hlow q hs; omega) ?_
 refine Vs 4 rfl ?_
 refine V.bld [Value.slice none 0 0, Value.slice none 0 0, Value.slice none 0 0] [(0, 1), (1, 1), (2, 1)] [(0, _), (1, _)] rfl rfl (fun _ => by kernel_rfl) ?_
 refine V.call2 Tryz.call87 rfl (fun w hI => zeJ f (qR f pub s) v1 v2 v3 _ _ _ (fun b => D b \/ D' b \/ (w1.heap.size <= b /\ b < w2.heap.size)) w (RFl.wide (Tr1 hI.k1 hf) (fun q hq => .inl hq)) ((hI.at 900 rfl).1.wide zb (fun q hq => .inr (.inr hq))) ((hp.ext zb hI.k1).wide zb (fun q hq => .inr (.inl hq))) SlR.nil vd.size vd.bulk) ?_
 rintro r2 w3 w4 hI3 hk34 ⟨ov, t, rfl, h1, h2⟩ hlow2
 obtain ⟨rfl, hov⟩ := zhx h1 h2
 obtain ⟨ao, co, rfl⟩ := hov.form
 have e3 : W.heap.size <= w3.heap.size := hI3.k1.size
 refine Vs 3 rfl ?_
 refine V.alloc 9 tz60 rfl rfl (fun b9 => ?_)
 refine Vs 11 rfl ?_
 refine V.dat 901 0 rfl rfl rfl (hov) (fun q hq _ hs => by have := hlow2 q hs; omega) ?_
 refine V.retC Tryz.results49 tg60 ts60 rfl rfl rfl (fun w hI => ⟨_, rfl, ⟨_, rfl, (hI.at 901 rfl).1.wide zb (fun q hq => by omega)⟩, hI.k2⟩)
theorem zfX {k : Int} {vs : List Vr} (hg : ∀ v ∈ vs, yf (v.low, v.high)) (h : (zj k vs).isSome = true) : zr k vs 0 = 0 := by
 obtain ⟨m, hm⟩ := Option.isSome_iff_exists.1 h
 have := zT k vs 1 m hg (by omega) (by omega) hm
 unfold zr
 rw [if_pos h, hm]
 simp only [Option.getD_some]
 rw [if_neg (by omega)]
theorem zbP (f : Fl) (vd : Valid f) (hr : zd 3 f.vars = []) (hs2 : (zj 2 f.vars).isSome = true) (pub : List Int) (s : Int) (v1 v2 v3 pv : Value) (D D' : Nat -> Prop) (W : World) (hf : RFl D W f v1 v2 v3) (hp : SlR 1 zv D' W pv pub) :
  Calls Tryz.prog 40 #[.agg #[v1, v2, v3], pv, .int .i64 s] W (Ret fun r w' => (∃ ov, r = .agg #[ov, .int .i64 (obN f pub s).2] /\ SlR 1 zv (fun b => W.heap.size <= b) w' ov (obN f pub s).1) /\ Ext W w') := by
 have hl := vd.lens
 have hs3 : zj 3 f.vars = some 1 := by unfold zj; rw [<- yu, hr]; rfl
 have hi : zgu f.vars s 0 0 = zr 1 f.vars s := by
  unfold zgu
  rw [zfX vd.good hs2, zfX vd.good (by rw [hs3]; rfl)]
  by_cases h : zr 1 f.vars s = 0
  . rw [if_neg (not_not_intro h), if_neg (by decide), h]
  . rw [if_pos h]
 obtain ⟨ap, cp, rfl⟩ := hp.form
 refine G.in3 Tryz.func40 rfl Tryz.ntmps40 rfl (V.inn ?_)
 refine Vs 2 rfl ?_
 refine V.box 3 rfl rfl (fun b3 => ?_)
 refine V.alloc 6 tz60 rfl rfl (fun b6 => ?_)
 refine Vs 7 rfl ?_
 refine V.call2 Tryz.call74 rfl (fun w hI => zcR f.vars s 0 0 v1 D w vd.good (by omega) (Tr1 hI.k0 hf.vars)) ?_
 rintro r1 w1 w2 hI1 hk12 ⟨a, b, c, rfl, hu0, hu1⟩ hlow
 have hsec : SlR 1 zv (fun b => w1.heap.size <= b) w2 a (zfV f s) /\ SlR 1 zv (fun b => w1.heap.size <= b) w2 c [] /\ ∃ (ab : Option Addr) (nb cb : Nat), b = .slice ab nb cb := by
  unfold zfV
  by_cases h : zr 1 f.vars s = 0
  ·
   obtain ⟨h1, h2, h3⟩ := hu1 (hi.trans h)
   obtain ⟨ab, cb, hb⟩ := h2.form
   rw [if_pos h]
   refine ⟨h1, ?_, _, _, _, hb⟩
   rw [hr] at h3
   exact h3
  ·
   obtain ⟨rfl, rfl, rfl⟩ := hu0 (fun h' => h (hi.symm.trans h'))
   rw [if_neg h]
   exact ⟨SlR.nil, SlR.nil, _, _, _, rfl⟩
 obtain ⟨hsec, hrnd, ab, nb, cb, rfl⟩ := hsec
 obtain ⟨au, cu, rfl⟩ := hsec.form
 obtain ⟨ac, cc, rfl⟩ := hrnd.form
 have e1 : W.heap.size <= w1.heap.size := hI1.k0.size
 refine Vs 3 rfl ?_
 refine V.alloc 7 Tryz.zeroValue123 rfl rfl (fun b7 => ?_)
 refine Vs 12 rfl ?_
 refine V.dat 900 0 rfl rfl rfl (hsec) (fun q hq _ hs => by have := hlow q hs; omega) ?_
 refine V.dat 902 0 rfl rfl rfl (hrnd) (fun q hq _ hs => by have := hlow q hs; omega) ?_
 refine Vs 3 rfl ?_
 refine V.call2 Tryz.call75 rfl (fun w hI => zfI f (qR f pub s) v1 v2 v3 _ _ _ D _ D' _ w (Tr1 hI.k1 hf) (hI.at 900 rfl).1 (Tr1 hI.k1 hp) (hI.at 902 rfl).1 vd.size vd.bulk) ?_
 rintro r2 w3 w4 hI3 hk34 ⟨ov, t, rfl, h1, h2⟩ hlow2
 obtain ⟨rfl, hov⟩ := zhx h1 h2
 obtain ⟨ao, co, rfl⟩ := hov.form
 have e3 : W.heap.size <= w3.heap.size := hI3.k1.size
 refine Vs 3 rfl ?_
 refine V.alloc 9 tz60 rfl rfl (fun b9 => ?_)
 refine Vs 11 rfl ?_
 refine V.dat 901 0 rfl rfl rfl (hov) (fun q hq _ hs => by have := hlow2 q hs; omega) ?_
 refine V.retC Tryz.results40 tg60 ts60 rfl rfl rfl (fun w hI => ⟨_, rfl, ⟨_, rfl, (hI.at 901 rfl).1.wide zb (fun q hq => by omega)⟩, hI.k2⟩)
end Go.Proofs.YtbkhagigkglgoaaGreatDoor
namespace Go.GL
theorem M.unsafeStringP {P : Program} {env : Env} {w : World} {dst : Option Tmp} {ty : TypeId} {pos : String} {aft : Array Edge} {g : Option (Nat × Bool)} {pt it e : TypeId} {x y : Operand} {b c : Nat} {l : List UInt8} (hp : P.underlying pt = some (.pointer e)) (hc : P.cellsOf e = 1) (hx : ev env x = some (.pointer (some ⟨b, 0, none⟩))) (hy : ev env y = some (.int .i64 l.length)) (h0 : l ≠ []) (hown : w.ownsRow 0 e 1 (.slice (some ⟨b, 0, none⟩) l.length c) l.length (Lib.byteCells l)) :
  yA P ⟨dst, .call ⟨.builtin .unsafeString, #[x, y], #[pt, it]⟩, ty, pos, aft, g⟩ env w (fun u w' => u = .string ⟨l.toArray⟩ /\ HE.holds w' (.res (fun q => q = b) (fun _ => True)) /\ Keep (HE.S (.row e 1 (.slice (some ⟨b, 0, none⟩) l.length c) l.length (Lib.byteCells l))) w w' /\ ∀ q, HE.S (.res (fun q => q = b) (fun _ => True)) q -> (HE.S (.row e 1 (.slice (some ⟨b, 0, none⟩) l.length c) l.length (Lib.byteCells l)) q \/ w.heap.size <= q) /\ q < w'.heap.size) := by
 obtain ⟨u, w', hr, rfl, hk⟩ := M.unsafeString (dst := dst) (ty := ty) (pos := pos) (aft := aft) (g := g) (it := it) hp hc hx hy h0 hown
 refine ⟨_, w', hr, rfl, trivial, hk.mono fun q _ hq => by show some b = some q; rw [hq], fun q hq => ?_⟩
 have hq : q = b := hq
 subst hq
 exact ⟨.inl rfl, Nat.lt_of_lt_of_le (xm hown rfl) hk.size⟩
end Go.GL
namespace Go.Proofs.YtbkhagigkglgoaaGreatDoor
open Go.GL
theorem zcS (p : Value) (b bq cq : Nat) (l : List UInt8) (h0 : l ≠ []) (W : World) (hB : Blk W b [p, .slice (some ⟨bq, 0, none⟩) l.length cq] 184) (hR : W.ownsRow 0 5 1 (.slice (some ⟨bq, 0, none⟩) l.length cq) l.length (Lib.byteCells l)) (hne : (Value.slice (some ⟨bq, 0, none⟩) l.length cq).ownBlock ≠ some b) :
  Calls Tryz.prog 123 #[.pointer (some ⟨b, 0, none⟩)] W (Ret fun r w' => r = .string ⟨l.toArray⟩ /\ Blk w' b [p, .slice (some ⟨bq, 0, none⟩) l.length cq] 184 /\ Keep (fun q => q = b \/ some bq = some q) W w') := by
 have hl0 := List.length_pos_iff.2 h0
 have hcap := (zbk hR).choose_spec.2.1
 refine G.in1 Tryz.func123 rfl Tryz.ntmps123 rfl (V.inH [(900, .own b [p, .slice (some ⟨bq, 0, none⟩) l.length cq] 184), (901, .row 5 1 (.slice (some ⟨bq, 0, none⟩) l.length cq) l.length (Lib.byteCells l))] (zfS (k1 := 900) (k2 := 901) hB hR hne).1 (zfS (k1 := 900) (k2 := 901) hB hR hne).2 ?_)
 refine V.tag 0 900 0 rfl rfl ?_
 refine Vs 6 rfl ?_
 refine Vw [900] [] rfl ?_
 refine Vd [0, 1, 2, 3, 5, 6, 7, 8, 9] 0 (by kernel_rfl) rfl rfl rfl ?_
 refine VD.ops1 4 0 rfl (by kernel_rfl) rfl rfl (fun w hI => R.sliceData rfl (by omega)) ?_
 refine VD.opM 10 901 0 (e' := .res (fun q => q = bq) (fun _ => True)) (r := .string ⟨l.toArray⟩) rfl (by kernel_rfl) rfl rfl (fun _ _ _ _ _ _ => trivial) (fun _ h => h) (fun w hI => M.unsafeStringP (e := 5) (c := cq) (l := l) Tryz.underlying217 (by kernel_rfl) rfl rfl h0 (hI.at 901 rfl)) ?_
 refine Vd [11] 0 (by kernel_rfl) rfl rfl rfl ?_
 refine VD.done (by kernel_rfl) ?_
 refine Vs 2 rfl ?_
 refine V.ret1 Tryz.results123 rfl (fun w hI => ⟨_, rfl, rfl, hI.at 900 rfl, hI.k0.mono (fun q _ h => zj1 h)⟩)
theorem zbQ (p : Value) (b : Nat) (W : World) (hB : Blk W b [p, .slice none 0 0] 184) :
  Calls Tryz.prog 123 #[.pointer (some ⟨b, 0, none⟩)] W (Ret fun r w' => r = .string ⟨[].toArray⟩ /\ Blk w' b [p, .slice none 0 0] 184 /\ Keep (fun q => q = b) W w') := by
 refine G.in1 Tryz.func123 rfl Tryz.ntmps123 rfl (V.inH [(900, .own b [p, .slice none 0 0] 184)] (fun x hx => by rw [List.mem_singleton] at hx; subst hx; exact ⟨hB, trivial, fun _ h => h, fun q hq => by have hq : q = b := hq; rw [hq]; exact hB.lt⟩) (List.pairwise_singleton _ _) ?_)
 refine V.tag 0 900 0 rfl rfl ?_
 refine Vs 6 rfl ?_
 refine Vw [900] [] rfl ?_
 refine Vd [0, 1, 2, 3, 5, 6, 7, 8, 9] 0 (by kernel_rfl) rfl rfl rfl ?_
 refine VD.ops1 4 0 rfl (by kernel_rfl) rfl rfl (fun w hI => R.sliceData0 rfl) ?_
 refine VD.ops1 10 0 rfl (by kernel_rfl) rfl rfl (fun w hI => R.unsafeString0 rfl rfl) ?_
 refine Vd [11] 0 (by kernel_rfl) rfl rfl rfl ?_
 refine VD.done (by kernel_rfl) ?_
 refine Vs 2 rfl ?_
 refine V.ret1 Tryz.results123 rfl (fun w hI => ⟨_, rfl, rfl, hI.at 900 rfl, hI.k0.mono (fun q _ ⟨x, hx, hq⟩ => by rw [List.mem_singleton] at hx; subst hx; exact hq)⟩)
theorem zhy {H : Hp} {k1 k2 b : Nat} {v p p' v' : Value} {m : Nat} {bs : List Value} {w w' : World} (h0 : zm H k1 = some (.own b [p, v] 184)) (h1 : zm H k2 = some (.row 5 1 v m bs)) (hB : Blk w' b [p', v'] 184) (hk : Keep (fun q => q = b \/ v.ownBlock = some q) w w') : Hands H [k1, k2] [(k1, .own b [p', v'] 184)] w w' := by
 have i0 : ∀ q, q = b -> InS H [k1, k2] q := fun q hq => ⟨_, zn h0, by simp [zdX, Nat.beq_refl], hq⟩
 have i1 : ∀ q, v.ownBlock = some q -> InS H [k1, k2] q := fun q hq => ⟨_, zn h1, by simp only [zdX]; cases Nat.beq k1 k2 <;> simp [Nat.beq_refl], hq⟩
 refine ⟨hk.mono fun q _ hq => hq.elim (i0 q) (i1 q), fun x hx => ?_, List.pairwise_singleton _ _⟩
 rw [List.mem_singleton] at hx
 subst hx
 exact ⟨hB, trivial, fun _ h => h, fun q hq => ⟨.inl (i0 q hq), by have hq : q = b := hq; rw [hq]; exact hB.lt⟩⟩
theorem zfY {Bs : yk} {H : Hp} {k1 k2 b : Nat} {v p : Value} {l : List UInt8} {w : World} (hI : VI Bs H w) (h0 : zm H k1 = some (.own b [p, v] 184)) (h1 : zm H k2 = some (.row 5 1 v l.length (Lib.byteCells l))) (hne : Nat.beq k1 k2 = false) (hv : l = [] -> v = .slice none 0 0) :
  Calls Tryz.prog 123 #[.pointer (some ⟨b, 0, none⟩)] w (Ret fun r w' => ∃ _x : Unit, r = .string ⟨l.toArray⟩ /\ Hands H [k1, k2] [(k1, .own b [p, v] 184)] w w') := by
 have hB : Blk w b [p, v] 184 := hI.at k1 h0
 have hR : w.ownsRow 0 5 1 v l.length (Lib.byteCells l) := hI.at k2 h1
 have hap : v.ownBlock ≠ some b := fun h => zC hI.apart h0 h1 hne b rfl h
 by_cases hl : l = []
 ·
  obtain rfl := hv hl
  subst hl
  refine (zbQ p b w hB).mono ?_
  rintro e w' ⟨_, rfl, rfl, h2, h3⟩
  exact ⟨_, rfl, (), rfl, zhy h0 h1 h2 (h3.mono fun q _ hq => .inl hq)⟩
 ·
  have hpos := List.length_pos_iff.2 hl
  obtain ⟨g, cap, rfl⟩ : ∃ g cap, v = .slice (some ⟨g, 0, none⟩) l.length cap := by
   rcases hR.2 with ⟨_, h⟩ | ⟨g, cap, cur, hv, _⟩
   . omega
   . exact ⟨g, cap, hv⟩
  refine (zcS p b g cap l hl w hB hR hap).mono ?_
  rintro e w' ⟨_, rfl, rfl, h2, h3⟩
  exact ⟨_, rfl, (), rfl, zhy h0 h1 h2 h3⟩
theorem zh5 {Bs : yk} {H : Hp} {k1 k2 b m : Nat} {v p : Value} {bs : List Value} {s : ByteArray} {w : World} (hI : VI Bs H w) (h0 : zm H k1 = some (.own b [p, v] 184)) (h1 : zm H k2 = some (.row 5 1 v m bs)) (hne : Nat.beq k1 k2 = false) (hp : p = .pointer none \/ p = .pointer (some ⟨b, 0, none⟩)) (hs : 0 < s.size) (hlen : m + s.size <= 140737488355328) :
  Calls Tryz.prog 121 #[.pointer (some ⟨b, 0, none⟩), .string s] w (Ret fun r w' => ∃ v', r = .tuple #[.int .i64 s.size, .nilIface] /\ Hands H [k1, k2] (ziC k1 k2 b (.pointer (some ⟨b, 0, none⟩)) v' (m + s.size) (bs ++ Lib.strCells s)) w w') := by
 have hB : Blk w b [p, v] 184 := hI.at k1 h0
 have hR : w.ownsRow 0 5 1 v m bs := hI.at k2 h1
 have hm : bs.length = m := by have := hR.1; omega
 have hap : v.ownBlock ≠ some b := fun h => zC hI.apart h0 h1 hne b rfl h
 refine (zdA p v b bs s hp w hB (by rw [hm]; exact hR) hap hs (by omega)).mono ?_
 rintro e w' ⟨_, rfl, rfl, v', h2, h3, h4, h5, h6⟩
 rw [hm] at h3
 have i0 : ∀ q, q = b -> InS H [k1, k2] q := fun q hq => ⟨_, zn h0, by simp [zdX, Nat.beq_refl], hq⟩
 have i1 : ∀ q, v.ownBlock = some q -> InS H [k1, k2] q := fun q hq => ⟨_, zn h1, by simp only [zdX]; rw [hne]; simp [Nat.beq_refl], hq⟩
 obtain ⟨l1, l2⟩ := zfS (k1 := k1) (k2 := k2) h2 h3 h4
 refine ⟨_, rfl, v', rfl, h5.mono fun q _ hq => hq.elim (i0 q) (i1 q), fun x hx => ?_, l2⟩
 obtain ⟨g1, g2, g3, g4⟩ := l1 x hx
 refine ⟨g1, g2, g3, fun q hq => ⟨?_, g4 q hq⟩⟩
 simp only [List.mem_cons, List.not_mem_nil, or_false] at hx
 rcases hx with rfl | rfl
 . exact .inl (i0 q hq)
 . exact (h6 q hq).imp (i1 q) id
structure ObB (o : List Int × Int) : Prop where
 len : o.1.length <= 100000
 outs : ∀ x ∈ o.1, -1048576 <= x /\ x <= 1048576
 t0 : 0 <= o.2
 t1 : o.2 <= 1000000000000
theorem zcT {c : UInt8} : ∀ {l : List Int}, (∀ x ∈ l, -1048576 <= x /\ x <= 1048576) -> (xw c l).length <= 22 * l.length
 | [], _ => Nat.zero_le _
 | x :: l, h => by
  have h1 := h x (List.mem_cons_self ..)
  have h2 := Lib.itoa_length_le x (by omega) (by omega)
  have h3 := zcT (c := c) fun y hy => h y (List.mem_cons_of_mem _ hy)
  rw [qO, List.length_append, List.length_cons, List.length_cons]
  omega
theorem zi6 (o : List Int × Int) (ho : ObB o) (ov : Value) (D : Nat -> Prop) (W : World) (hd : SlR 1 zv D W ov o.1) (ht : Tab W) :
  Calls Tryz.prog 88 #[.agg #[ov, .int .i64 o.2]] W (Ret fun r w' => r = .string ⟨(xU o).toArray⟩ /\ Ext W w') := by
 obtain ⟨os, t⟩ := o
 dsimp only at hd
 obtain ⟨ao, co, rfl⟩ := hd.form
 have hlen := ho.len
 have hout := ho.outs
 have ht0 := ho.t0
 have ht1 := ho.t1
 dsimp only at hlen hout ht0 ht1
 refine G.in1 Tryz.func88 rfl Tryz.ntmps88 rfl (V.inn ?_)
 refine Vs 2 rfl ?_
 refine V.box 1 rfl rfl (fun b1 => ?_)
 refine Vs 5 rfl ?_
 refine V.alloc 3 Tryz.zeroValue184 rfl rfl (fun b3 => ?_)
 refine Vs 11 rfl ?_
 refine V.nilrow 901 5 1 rfl ?_
 refine Vs 1 rfl ?_
 refine V.loopK (σ := Nat × Value × Value) [1, 3, 7, 8] [1] [1, 3] rfl (fun e ⟨i, p, v⟩ => (9, .int .i64 i) :: e) (fun e ⟨i, p, v⟩ => (3, .own b3 [p, v] 184) :: (901, .row 5 1 v (xw 44 (os.take i)).length (Lib.byteCells (xw 44 (os.take i)))) :: e) (fun ⟨i, p, v⟩ => i <= os.length /\ (p = .pointer none \/ p = .pointer (some ⟨b3, 0, none⟩)) /\ (xw 44 (os.take i) = [] -> v = .slice none 0 0)) (fun ⟨i, p, v⟩ => os.length - i) ((0, .pointer none, .slice none 0 0)) (Sub.of rfl) (Has.of rfl) (fun _ => rfl) (fun _ => rfl) (fun _ => rfl) (⟨Nat.zero_le _, .inl rfl, fun _ => rfl⟩) ?_
 rintro ⟨i, p, v⟩ ⟨hi, hp, hv⟩
 show V _ _ _ _ _ ((9, .int .i64 i) :: _) _ ((3, .own b3 [p, v] 184) :: (901, .row 5 1 v (xw 44 (os.take i)).length (Lib.byteCells (xw 44 (os.take i)))) :: _) _
 have hsl := zcT (c := 44) (l := os.take i) fun x hx => hout x (List.mem_of_mem_take hx)
 rw [List.length_take] at hsl
 refine Vs 6 rfl ?_
 refine V.ite rfl (fun hlt => ?_) (fun hlt => ?_)
 ·
  refine Vs 6 rfl ?_
  obtain ⟨x, he_x⟩ : ∃ z_, os[i]? = some z_ := ⟨_, List.getElem?_eq_getElem (by omega)⟩
  have hm_x := List.mem_of_getElem? he_x
  obtain ⟨b_x, o_x, c_x, ha_x, _, hc_x, hR_x⟩ := hd.at he_x
  obtain rfl := hR_x
  refine V.fr 1000 0 rfl rfl hc_x ?_
  refine V.ix 1000 tR31 ts3 rfl ha_x (by omega) (_) (rfl) rfl ?_
  have hx := hout x hm_x
  have hil := Lib.itoa_length_le x (by omega) (by omega)
  have hst : xw 44 (os.take (i + 1)) = xw 44 (os.take i) ++ (Lib.itoa x ++ [44]) := by
   rw [zg he_x, zcN]; simp [xw]
  have hsz : ((⟨(Lib.itoa x).toArray⟩ : ByteArray) ++ ⟨#[44]⟩).size = (Lib.itoa x).length + 1 := by
   rw [show (⟨#[44]⟩ : ByteArray) = ⟨[44].toArray⟩ from rfl, zfQ, zbM, List.length_append]; rfl
  refine Vs 6 rfl ?_
  refine V.call1 Tryz.call122 rfl (fun w hI => zfR x (by omega) (by omega) w (Tr1 hI.k0 ht)) ?_
  refine V.ops1 rfl (fun w hI => R.addStr rfl rfl (by rw [zbM]; have : (⟨#[44]⟩ : ByteArray).size = 1 := rfl; omega)) ?_
  refine V.callMs [3, 901] (Hn := fun v' : Value => [(3, .own b3 [.pointer (some ⟨b3, 0, none⟩), v'] 184), (901, .row 5 1 v' ((xw 44 (os.take i)).length + ((⟨(Lib.itoa x).toArray⟩ : ByteArray) ++ ⟨#[44]⟩).size) (Lib.byteCells (xw 44 (os.take i)) ++ Lib.strCells ((⟨(Lib.itoa x).toArray⟩ : ByteArray) ++ ⟨#[44]⟩)))]) [(1, some (1, 0)), (3, some (3, 0)), (11, some (1000, 0))] Tryz.call121 rfl (fun _ _ => rfl) (fun _ => rfl) (fun w hI => zh5 hI rfl rfl rfl hp (by omega) (by omega)) ?_
  rintro _ v' rfl
  refine V.heq 901 rfl (e' := .row 5 1 v' (xw 44 (os.take (i + 1))).length (Lib.byteCells (xw 44 (os.take (i + 1))))) (by rw [hst, List.length_append, hsz, show (⟨#[44]⟩ : ByteArray) = ⟨[44].toArray⟩ from rfl, zfQ, zbL, Lib.byteCells_append (xw 44 (os.take i)), List.length_append]; rfl) ?_
  refine Va 7 rfl (by omega) ?_
  refine V.back (⟨i + 1, _, v'⟩) (Sub.of rfl) (Has.of rfl) (⟨by omega, .inr rfl, fun h => by rw [hst] at h; simp at h⟩) (by first | omega | (dsimp only; omega)) 0 rfl rfl
 ·
  obtain rfl : i = os.length := by omega
  rw [List.take_length] at *
  refine Vs 6 rfl ?_
  refine Vw [1, 3] [] rfl ?_
  refine Vd [1, 2] 0 (by kernel_rfl) rfl rfl rfl ?_
  refine VD.callMs 0 0 [3, 901] (Hn := fun _x : Unit => [(3, .own b3 [p, v] 184)]) [(1, some (1, 0)), (3, some (3, 0)), (19, some (1, 1))] Tryz.call123 rfl (by kernel_rfl) rfl rfl (fun _ => rfl) (fun _ _ => rfl) (fun _ => rfl) (fun w hI => zfY hI rfl rfl rfl hv) ?_
  rintro _ ⟨⟩ rfl
  refine VD.call1 3 0 Tryz.call122 rfl (by kernel_rfl) rfl rfl (fun w hI => zfR t (by omega) (by omega) w (Tr1 hI.k0 ht)) ?_
  have hil := Lib.itoa_length_le t (by omega) (by omega)
  refine VD.ops1 4 0 rfl (by kernel_rfl) rfl rfl (fun w hI => R.addStr rfl rfl (by rw [zbM, zbM]; omega)) ?_
  refine Vd [5] 0 (by kernel_rfl) rfl rfl rfl ?_
  refine VD.done (by kernel_rfl) ?_
  refine Vs 2 rfl ?_
  refine V.ret1 Tryz.results88 rfl (fun w hI => ⟨_, rfl, by rw [zfQ]; rfl, hI.k0⟩)
abbrev zgv (σ : Sg) : Prop := ∀ x ∈ σ.outs, -1048576 <= x /\ x <= 1048576
theorem zfZ {f : Fl} {hs : List Int} {s : St} {σ : Sg} (hg : ∀ v ∈ f.vars, yf (v.low, v.high)) (ho : StepOk f s) (hV : InV f.vars σ.vals) (h : zgv σ) : zgv (xS f hs s σ) := by
 unfold xS
 split
 . exact h
 split
 ·
  intro x hx
  rcases List.mem_append.1 hx with hx | hx
  . exact h x hx
  ·
   rw [List.mem_singleton] at hx
   subst hx
   obtain ⟨r, hr⟩ := Option.isSome_iff_exists.1 ho.ranged
   have h1 := zfy hg hV s.term ho.formed r hr
   have h2 := qM hg s.term ho.formed r hr
   unfold yf at h2
   omega
 split
 . exact h
 split
 . exact h
 . exact h
theorem zcU {f : Fl} {body : Sg -> Sg} {s : St} (ho : StepOk f s) {b : Nat} (hb : ∀ N σ, SgB f N σ -> SgB f (N + b) (body σ)) (hO : ∀ N σ, SgB f N σ -> zgv σ -> zgv (body σ)) : ∀ (k N : Nat) (σ : Sg), SgB f N σ -> zgv σ -> zgv (xl body s.cost s.term k σ)
 | 0, N, σ, _, h => h
 | k + 1, N, σ, hB, h => by
  unfold xl
  have h1 := hB.cost ho
  split
  . exact h
  . exact zcU ho hb hO k _ _ (hb _ _ h1) (hO _ _ h1 h)
theorem zi7 {f : Fl} {hs : List Int} (hg : ∀ v ∈ f.vars, yf (v.low, v.high)) (l : List St) : PreOk f l -> ∀ N σ, SgB f N σ -> zgv σ -> zgv (exL f hs l σ) := by
 induction l using Sts.ind with
 | h l ih =>
 intro hp
 have key : ∀ r : List St, (∀ x ∈ r, x ∈ l) -> ∀ N σ, SgB f N σ -> zgv σ -> zgv (exL f hs r σ) := by
  intro r
  induction r with
  | nil => intro _ N σ _ h; exact h
  | cons x r ihr =>
   intro hm N σ hB h
   have hpx := hp.kids (hm x (List.mem_cons_self ..))
   obtain ⟨⟨ho, hse, hn4⟩, hp1, hp2⟩ := hpx
   obtain ⟨i1, i2⟩ := ih x (hm x (List.mem_cons_self ..))
   rw [exL]
   have hx1 : PreOk f [x] := fun s hs => hp s (by
    obtain ⟨a, b, rfl⟩ := List.append_of_mem (hm x (List.mem_cons_self ..))
    rw [qh, show x :: b = [x] ++ b from rfl, qh]
    simp [hs])
   have hB' := ji (hs := hs) hg [x] hx1 N σ hB
   have hxx : exL f hs [x] σ = exS f hs x σ := rfl
   rw [hxx] at hB'
   refine ihr (fun y hy => hm y (List.mem_cons_of_mem _ hy)) _ _ hB' ?_
   rw [xo]
   split
   ·
    split
    . exact i1 hp1 _ _ (hB.cost ho) h
    . exact i2 hp2 _ _ (hB.cost ho) h
   ·
    split
    . exact zcU ho (ji hg x.thn hp1) (i1 hp1) _ _ _ hB h
    . exact zfZ hg ho hB.inv h
 exact key l (fun x h => h)
theorem ziF {f : Fl} (vd : Valid f) (pub : List Int) (s : Int) : ObB (obN f pub s) := by
 unfold obN
 split
 ·
  rename_i h
  have hst : zu f.vars (qR f pub s) = 0 := by
   unfold zA at h
   rwa [if_neg (not_not_intro vd.ok)] at h
  have h1 := ji (hs := qX f (qR f pub s)) vd.good f.body (kW vd) 0 _ (jJ hst)
  have h2 := zi7 (hs := qX f (qR f pub s)) vd.good f.body (kW vd) 0 _ (jJ hst) (fun x hx => by cases hx)
  have hnb := vd.nb
  have a1 := h1.ol
  have a2 := h1.t0
  have a3 := h1.t1
  exact ⟨by show (xF f (qR f pub s)).outs.length <= _; unfold xF; omega, h2, by show 0 <= (xF f (qR f pub s)).time; unfold xF; omega, by show (xF f (qR f pub s)).time <= _; unfold xF; omega⟩
 . exact ⟨Nat.zero_le _, (fun x hx => by cases hx), Int.le_refl _, (show (0 : Int) <= 1000000000000 by decide)⟩
theorem zb7 (f : Fl) (vd : Valid f) (v1 v2 v3 : Value) (D : Nat -> Prop) (W : World) (hf : RFl D W f v1 v2 v3) : Calls Tryz.prog 89 #[.agg #[v1, v2, v3]] W (Ret fun r w' => r = .int .i64 (spN f) /\ Ext W w') := by
 have hl := vd.lens
 have hsp : (zj 1 f.vars).getD 0 = (spN f : Int) := by
  unfold spN
  cases h : zj 1 f.vars with
  | none => rfl
  | some m =>
   have := zT 1 f.vars 1 m vd.good (by omega) (by omega) h
   simp only [Option.getD_some]
   omega
 refine G.in1 Tryz.func89 rfl Tryz.ntmps89 rfl (V.inn ?_)
 refine Vs 2 rfl ?_
 refine V.box 1 rfl rfl (fun b1 => ?_)
 refine Vs 7 rfl ?_
 refine V.call1 Tryz.call124 rfl (fun w hI => zav f.vars 1 v1 D w (by decide) vd.good (Tr1 hI.k0 hf.vars) (by omega)) ?_
 refine Vs 14 rfl ?_
 refine V.ret1 Tryz.results89 rfl (fun w hI => ⟨_, rfl, by rw [hsp], hI.k0⟩)
theorem zcV {f : Fl} (vd : Valid f) : spN f <= 4096 := by
 unfold spN
 cases h : zj 1 f.vars with
 | none => simp
 | some m =>
  have := zT 1 f.vars 1 m vd.good (by omega) (by omega) h
  simp only [Option.getD_some]
  omega
theorem zhz (f : Fl) (vd : Valid f) (v1 v2 v3 : Value) (D : Nat -> Prop) (W : World) (hf : RFl D W f v1 v2 v3) : Calls Tryz.prog 52 #[.agg #[v1, v2, v3]] W (Ret fun r w' => SlR 1 zv (fun b => W.heap.size <= b) w' r (qY f) /\ Ext W w') := by
 have hsp := zcV vd
 have hla : (qY f).length = spN f := by simp [qY]
 refine G.in1 Tryz.func52 rfl Tryz.ntmps52 rfl (V.inn ?_)
 refine Vs 2 rfl ?_
 refine V.box 1 rfl rfl (fun b1 => ?_)
 refine Vs 12 rfl ?_
 refine V.call1 Tryz.call89 rfl (fun w hI => zb7 f vd v1 v2 v3 D w (Tr1 hI.k0 hf)) ?_
 refine V.nilrow 900 3 1 rfl ?_
 refine Vs 4 rfl ?_
 refine V.loopK (σ := Nat × Value) [6] [] [] rfl (fun e ⟨i, v⟩ => (7, .int .i64 i) :: (3, v) :: e) (fun e ⟨i, v⟩ => (900, .row 3 1 v i (((qY f).take i).map ze)) :: e) (fun ⟨i, v⟩ => i <= spN f) (fun ⟨i, v⟩ => spN f - i) ((0, .slice none 0 0)) (Sub.of rfl) (Has.of rfl) (fun _ => rfl) (fun _ => rfl) (fun _ => rfl) (Nat.zero_le _) ?_
 rintro ⟨i, v⟩ hi
 show V _ _ _ _ _ ((7, .int .i64 i) :: (3, v) :: _) _ ((900, .row 3 1 v i (((qY f).take i).map ze)) :: _) _
 refine Vs 6 rfl ?_
 refine V.ite rfl (fun hlt => ?_) (fun hlt => ?_)
 ·
  have zm : (qY f)[i]? = some (i : Int) := by simp [qY, List.getElem?_range (show i < spN f by omega)]
  refine Vs 13 rfl ?_
  refine V.bs 12 [(0, _)] tR31 ts3 tz3 (by decide) rfl rfl (by kernel_rfl) (fun b12 => ?_)
  refine V.ap 900 12 tu31 Tryz.el3 rfl (by decide) rfl rfl (by omega) (by omega) (fun u900 => ?_)
  refine Va 8 rfl (by omega) ?_
  refine V.heq 900 rfl (e' := .row 3 1 u900 (i + 1) (((qY f).take (i + 1)).map ze)) (by rw [List.take_add_one, zm, List.map_append]; rfl) ?_
  refine V.back (⟨i + 1, u900⟩) (Sub.of rfl) (Has.of rfl) (by omega) (by first | omega | (dsimp only; omega)) 0 rfl rfl
 ·
  obtain rfl : i = spN f := by omega
  refine V.heq 900 rfl (e' := .row 3 1 v (qY f).length ((qY f).map ze)) (by rw [<- hla, List.take_length]) ?_
  refine Vs 12 rfl ?_
  refine V.ret1 Tryz.results52 rfl (fun w hI => ⟨_, rfl, SlR.ofRow1 ze (fun _ _ => rfl) (hI.at 900 rfl) (fun b hb => hI.own 900 0 rfl rfl b hb), hI.k0⟩)
end Go.Proofs.YtbkhagigkglgoaaGreatDoor
namespace Go.GL
open Go.Sort Go.Proofs
theorem zh6 {w w' : World} (h : Ext w w') : ∃ q os, w' = grow (w.drewN q) os := by
 refine ⟨w'.drawn - w.drawn, w'.heap.extract w.heap.size w'.heap.size, ?_⟩
 have hd := h.drawn
 have hh : w'.heap = w.heap ++ w'.heap.extract w.heap.size w'.heap.size := by
  apply Array.ext_getElem?
  intro i
  by_cases hi : i < w.heap.size
  ·
   rw [Array.getElem?_append_left hi]
   exact h.block i hi (fun h => h)
  ·
   rw [Array.getElem?_append_right (by omega), Array.getElem?_extract]
   by_cases hi2 : i < w'.heap.size
   . rw [if_pos (by omega), show w.heap.size + (i - w.heap.size) = i from by omega]
   . rw [if_neg (by omega), Array.getElem?_eq_none (by omega)]
 have : ∀ (a b : World), a.heap = b.heap -> a.tape = b.tape -> a.drawn = b.drawn -> a.os = b.os -> a.output = b.output -> a = b := by
  intro a b h1 h2 h3 h4 h5
  cases a; cases b
  simp at h1 h2 h3 h4 h5
  subst h1 h2 h3 h4 h5
  rfl
 refine this _ _ hh h.tape ?_ h.os h.output
 show w'.drawn = w.drawn + (w'.drawn - w.drawn)
 omega
section
variable {α : Type} [Inhabited α] {enc : α -> List Value} {k : Nat}
theorem zb8 (hk : ∀ x, (enc x).length = k) (d : Array α) : (flatK enc k d).toList = d.toList.flatMap enc := by
 apply List.ext_getElem?
 intro t
 have hl : (d.toList.flatMap enc).length = d.size * k := by rw [yN hk, Array.length_toList]
 by_cases ht : t < d.size * k
 ·
  have hk0 : 0 < k := by
   rcases Nat.eq_zero_or_pos k with h | h
   . rw [h] at ht; omega
   . exact h
  have hd : t / k < d.size := Nat.div_lt_of_lt_mul (by rw [Nat.mul_comm]; exact ht)
  have hm : t % k < k := Nat.mod_lt _ hk0
  have h1 := get_flatK enc k d t ht
  have h2 : (flatK enc k d).toList[t]? = some ((flatK enc k d)[t]!) := by
   rw [Array.getElem?_toList, getElem!_pos _ t (by simpa using ht)]
   exact Array.getElem?_eq_getElem (by simpa using ht)
  rw [h2, h1]
  have h3 : d.toList[t / k]? = some d[t / k]! := by
   rw [Array.getElem?_toList, getElem!_pos _ (t / k) hd]
   exact Array.getElem?_eq_getElem hd
  have h4 : (enc d[t / k]!)[t % k]? = some ((enc d[t / k]!)[t % k]!) := by
   rw [getElem!_pos _ (t % k) (by rw [hk]; exact hm)]
   exact List.getElem?_eq_getElem (by rw [hk]; exact hm)
  have h5 := zf8 hk h3 [] (t % k) _ h4
  rw [List.append_nil, Nat.mul_comm, Nat.div_add_mod] at h5
  rw [h5]
 . rw [List.getElem?_eq_none (by rw [Array.length_toList, size_flatK]; omega), List.getElem?_eq_none (by rw [hl]; omega)]
theorem zbR (hk : ∀ x, (enc x).length = k) (l : List α) (d : Array α) (sp : List Value) (hs : d.size = l.length) : putCells id 0 (flatK enc k d) (l.flatMap enc ++ sp).toArray = (d.toList.flatMap enc ++ sp).toArray := by
 have hl := yN hk l
 have hl' : (d.toList.flatMap enc).length = d.size * k := by rw [yN hk, Array.length_toList]
 have hsz := size_flatK enc k d
 apply Array.ext_getElem?
 intro j
 rw [<- zb8 hk d]
 simp only [putCells, Array.getElem?_mapIdx, List.getElem?_toArray]
 by_cases hj : j < d.size * k
 ·
  rw [List.getElem?_append_left (by rw [hl, <- hs]; exact hj), List.getElem?_append_left (by simpa using hj)]
  rw [List.getElem?_eq_getElem (by rw [hl, <- hs]; exact hj)]
  simp only [Option.map_some, Nat.zero_le, Nat.zero_add, hsz, hj, and_self, if_true, Nat.sub_zero, id]
  rw [Array.getElem?_toList, getElem!_pos _ j (by rw [hsz]; exact hj)]
  exact (Array.getElem?_eq_getElem (by rw [hsz]; exact hj)).symm
 ·
  rw [List.getElem?_append_right (by rw [hl, <- hs]; omega), List.getElem?_append_right (by simp; omega)]
  simp only [hl, <- hs, Array.length_toList, hsz, Nat.zero_add, hj, and_false, if_false, Option.map_id']
theorem zeQ (hk : ∀ x, (enc x).length = k) {w : World} {b : Nat} {l : List α} {sp : List Value} {e : TypeId} (hb : Blk w b (l.flatMap enc ++ sp) e) : HoldsK enc k w b 0 l.toArray := by
 intro j hj
 rw [size_flatK] at hj
 refine ⟨?_, hb.frozen⟩
 have h1 : (flatK enc k l.toArray).toList[j]? = some ((flatK enc k l.toArray)[j]!) := by
  rw [Array.getElem?_toList, getElem!_pos _ j (by simpa using hj)]
  exact Array.getElem?_eq_getElem (by simpa using hj)
 rw [zb8 hk] at h1
 refine hb.cells j _ ?_
 rw [List.getElem?_append_left (List.getElem?_eq_some_iff.1 h1).1]
 exact h1
theorem kJ (hk : ∀ x, (enc x).length = k) {w : World} {b : Nat} {l : List α} {sp : List Value} {e : TypeId} (hb : Blk w b (l.flatMap enc ++ sp) e) (d : Array α) (hs : d.size = l.length) (m : Nat) (os : Array Obj) :
  Blk (sortWorldK enc k w b 0 m d os) b (d.toList.flatMap enc ++ sp) e /\ Keep (fun q => q = b) w (sortWorldK enc k w b 0 m d os) := by
 have hblk := hb.lt
 have hsz : (putRow id (Sort.ahead w m) b 0 (flatK enc k d)).heap.size = w.heap.size := by simp [Sort.ahead]
 have hat : ∀ i, i < w.heap.size -> (sortWorldK enc k w b 0 m d os).heap[i]? = (putRow id (Sort.ahead w m) b 0 (flatK enc k d)).heap[i]? := by
  intro i hi
  show ((putRow id (Sort.ahead w m) b 0 (flatK enc k d)).heap ++ os)[i]? = _
  rw [Array.getElem?_append_left (by rw [hsz]; exact hi)]
 refine ⟨?_, rfl, rfl, rfl, Nat.le_add_right _ _, ?_, ?_⟩
 ·
  unfold Blk at *
  rw [hat b hblk]
  show (w.heap.modify b _)[b]? = _
  rw [Array.getElem?_modify, if_pos rfl, hb]
  simp only [Option.map_some, onCells]
  rw [zbR hk l d sp hs]
 ·
  show w.heap.size <= ((putRow id (Sort.ahead w m) b 0 (flatK enc k d)).heap ++ os).size
  rw [Array.size_append, hsz]; omega
 ·
  intro i hi hne
  rw [hat i hi]
  show (w.heap.modify b _)[i]? = _
  rw [Array.getElem?_modify, if_neg (fun h => hne h.symm)]
theorem zdB {l : List α} {d : Array α} (h : PermIn 0 l.toArray.size l.toArray d) : d.toList.Perm l := by
 obtain ⟨h1, _, h3⟩ := h
 have e1 : l.toArray.extract 0 l.toArray.size = l.toArray := by simp
 have e2 : d.extract 0 l.toArray.size = d := by rw [<- h1]; simp
 rw [e1, e2] at h3
 exact h3
theorem zbS {lt : α -> α -> Bool} {d : Array α} {n : Nat} (hn : d.size = n) (h : SortedIn lt 0 n d) : d.toList.Pairwise (fun a b => lt b a = false) := by
 subst hn
 rw [List.pairwise_iff_getElem]
 intro i j hi hj hij
 have := h i j (Nat.zero_le _) hij (by simpa using hj)
 rw [getElem!_pos _ i (by simpa using hi), getElem!_pos _ j (by simpa using hj)] at this
 simpa using this
end
end Go.GL
namespace Go.Proofs
open Go.Shelf
def Tryz.laysSlF06_f67_ren : Go.Shelf.Ren := ⟨fun | 6 => 67 | 15 => 100 | 14 => 99 | 28 => 138 | 29 => 139 | 20 => 130 | 21 => 131 | 22 => 132 | 23 => 133 | 24 => 134 | 25 => 135 | 26 => 136 | 27 => 137 | 46 => 163 | 47 => 164 | 48 => 165 | 49 => 166 | 50 => 167 | 57 => 189 | n => n, fun | 22 => 76 | 24 => 60 | 25 => 92 | 3 => 3 | 39 => 157 | 0 => 0 | 53 => 202 | 55 => 204 | 4 => 4 | 46 => 196 | 45 => 195 | 50 => 29 | 5 => 5 | 9 => 9 | 66 => 226 | 70 => 230 | 76 => 247 | 77 => 209 | n => n, fun | n => n⟩
theorem Tryz.laysSlF06_f67 : Go.Proofs.SlLaysF0.n6 Tryz.prog Tryz.laysSlF06_f67_ren := {
 mixed := by kernel_rfl
 f6 := ⟨Tryz.f67.name, by decide, Tryz.func67.trans (congrArg some (by kernel_rfl))⟩
 f14 := ⟨Tryz.f99.name, by decide, Tryz.func99.trans (congrArg some (by kernel_rfl))⟩
 f15 := Tryz.func100.trans (congrArg some (by kernel_rfl))
 f20 := ⟨Tryz.f130.name, by decide, Tryz.func130.trans (congrArg some (by kernel_rfl))⟩
 f21 := ⟨Tryz.f131.name, by decide, Tryz.func131.trans (congrArg some (by kernel_rfl))⟩
 f22 := ⟨Tryz.f132.name, by decide, Tryz.func132.trans (congrArg some (by kernel_rfl))⟩
 f23 := ⟨Tryz.f133.name, by decide, Tryz.func133.trans (congrArg some (by kernel_rfl))⟩
 f24 := ⟨Tryz.f134.name, by decide, Tryz.func134.trans (congrArg some (by kernel_rfl))⟩
 f25 := ⟨Tryz.f135.name, by decide, Tryz.func135.trans (congrArg some (by kernel_rfl))⟩
 f26 := ⟨Tryz.f136.name, by decide, Tryz.func136.trans (congrArg some (by kernel_rfl))⟩
 f27 := ⟨Tryz.f137.name, by decide, Tryz.func137.trans (congrArg some (by kernel_rfl))⟩
 f28 := Tryz.func138.trans (congrArg some (by kernel_rfl))
 f29 := Tryz.func139.trans (congrArg some (by kernel_rfl))
 f46 := ⟨Tryz.f163.name, by decide, Tryz.func163.trans (congrArg some (by kernel_rfl))⟩
 f47 := Tryz.func164.trans (congrArg some (by kernel_rfl))
 f48 := Tryz.func165.trans (congrArg some (by kernel_rfl))
 f49 := ⟨Tryz.f166.name, by decide, Tryz.func166.trans (congrArg some (by kernel_rfl))⟩
 f50 := ⟨Tryz.f167.name, by decide, Tryz.func167.trans (congrArg some (by kernel_rfl))⟩
 f57 := ⟨Tryz.f189.name, by decide, Tryz.func189.trans (congrArg some (by kernel_rfl))⟩
 t0 := Tryz.underlying0
 a0 := Tryz.isAgg0
 z0 := Tryz.sizeOf0
 v0 := Tryz.zeroValue0
 t3 := tu3
 a3 := tg3
 z3 := ts3
 v3 := tz3
 t4 := tu4
 a4 := tg4
 z4 := ts4
 v4 := tz4
 t5 := Tryz.underlying5
 a5 := Tryz.isAgg5
 z5 := ts5
 v5 := Tryz.zeroValue5
 t9 := tu9
 a9 := tg9
 z9 := ts9
 v9 := Tryz.zeroValue9
 t22 := tu76
 a22 := Tryz.isAgg76
 z22 := Tryz.sizeOf76
 v22 := Tryz.zeroValue76
 t25 := Tryz.underlying92
 a25 := Tryz.isAgg92
 z25 := Tryz.sizeOf92
 v25 := Tryz.zeroValue92
 t39 := Tryz.underlying157
 a39 := Tryz.isAgg157
 z39 := Tryz.sizeOf157
 v39 := Tryz.zeroValue157
 t45 := Tryz.underlying195
 a45 := Tryz.isAgg195
 z45 := Tryz.sizeOf195
 v45 := Tryz.zeroValue195
 t46 := Tryz.underlying196
 a46 := Tryz.isAgg196
 z46 := Tryz.sizeOf196
 v46 := Tryz.zeroValue196
 t50 := Tryz.underlying29
 a50 := Tryz.isAgg29
 z50 := Tryz.sizeOf29
 v50 := Tryz.zeroValue29
 t53 := Tryz.underlying202
 a53 := Tryz.isAgg202
 z53 := Tryz.sizeOf202
 v53 := Tryz.zeroValue202
 t55 := Tryz.underlying204
 a55 := Tryz.isAgg204
 z55 := Tryz.sizeOf204
 v55 := Tryz.zeroValue204
 t66 := Tryz.underlying226
 a66 := Tryz.isAgg226
 z66 := Tryz.sizeOf226
 v66 := Tryz.zeroValue226
 t70 := Tryz.underlying230
 a70 := Tryz.isAgg230
 z70 := Tryz.sizeOf230
 v70 := Tryz.zeroValue230
 t76 := Tryz.underlying247
 a76 := Tryz.isAgg247
 z76 := Tryz.sizeOf247
 v76 := Tryz.zeroValue247
 t77 := Tryz.underlying209
 a77 := Tryz.isAgg209
 z77 := Tryz.sizeOf209
 v77 := Tryz.zeroValue209 }
open Go.RowKit Go.Lib Go.Sort in
theorem Tryz.slices_SortFunc {α : Type} [Inhabited α] (k : Nat) (aE : ∀ w, (isAgg 60).run Tryz.prog w = .ok true w) (zE : ∀ w, (Go.sizeOf 60).run Tryz.prog w = .ok k w) (enc : α -> List Value) (hk : ∀ x, (enc x).length = k) (h1 : ∀ x, ∀ v ∈ enc x, v.oneCell' = true) (cf : α -> α -> Int) (hO : SWO (ltOf cf)) (g : Nat) (cb : Array Value) (blk off cap : Nat) (d : Array α) (w : World) (eg : ∀ args w, (callFunc g args).run Tryz.prog w = .ok (.enter g args) w) (hcmp : CmpLays Tryz.prog g cb enc k cf blk off d.size w) (hH : HoldsK enc k w blk off d) (hblk : blk < w.heap.size) (hsz : d.size < 4611686018427387904) :
  Calls Tryz.prog 67 #[.slice (some ⟨blk, off, none⟩) d.size cap, .func (.func g) #[] cb] w fun e w' =>
   e = .returned (.tuple #[]) /\ ∃ d' n os, PermIn 0 d.size d d' /\ SortedIn (ltOf cf) 0 d.size d' /\ w' = sortWorldK enc k w blk off n d' os := AnyQ.slices_SortFunc Tryz.laysSlF06_f67 k aE zE enc hk h1 cf hO g cb blk off cap d w eg hcmp hH hblk hsz
open Go.RowKit Go.Lib Go.Sort in
theorem Tryz.slices_SortFunc_none {α : Type} [Inhabited α] (p : Option Addr) (cap : Nat) (fv : Value) (w : World) :
  Calls Tryz.prog 67 #[.slice p 0 cap, fv] w fun e w' => e = .returned (.tuple #[]) /\ w' = w := AnyF.slices_SortFunc_none Tryz.laysSlF06_f67 p cap fv w
end Go.Proofs
namespace Go.Proofs.YtbkhagigkglgoaaGreatDoor
open Go.GL
abbrev ObC (F : Nat -> Prop) (w : World) := { x : Ob × Value // SlR 1 zv F w x.2 x.1.1 }
abbrev zg0 {F : Nat -> Prop} {w : World} (x : ObC F w) : List Value := [x.1.2, .int .i64 x.1.1.2]
theorem zek {F : Nat -> Prop} {w : World} : ∀ (l : List Ob) (xs : List Value), xs.length = l.length * 2 -> (∀ (i : Nat) x, l[i]? = some x -> ROb F w x ((xs.drop (i * 2)).take 2)) -> ∃ es : List (ObC F w), es.map (fun e => e.1.1) = l /\ es.flatMap zg0 = xs
 | [], [], _, _ => ⟨[], rfl, rfl⟩
 | [], _ :: _, h, _ => by simp at h
 | x :: l, [], h, _ => by simp at h
 | x :: l, [_], h, _ => by simp at h; omega
 | x :: l, a :: b :: xs, h, hR => by
  obtain ⟨v, h1, h2⟩ := hR 0 x rfl
  simp only [Nat.zero_mul, List.drop_zero, List.take_succ_cons, List.take_zero, List.cons.injEq, and_true] at h1
  obtain ⟨rfl, rfl⟩ := h1
  obtain ⟨es, h3, h4⟩ := zek l xs (by simp at h; omega) (fun i y hy => by
   have := hR (i + 1) y (by simpa using hy)
   rw [Nat.succ_mul] at this
   simpa using this)
  exact ⟨⟨(x, a), h2⟩ :: es, by simp [h3], by simp [h4]⟩
theorem zg1 {F : Nat -> Prop} {w w' : World} (hk : ∀ (v : Value) (x : List Int), SlR 1 zv F w v x -> SlR 1 zv F w' v x) : ∀ (es : List (ObC F w)) (i : Nat) (x : Ob), (es.map (fun e => e.1.1))[i]? = some x -> ROb F w' x (((es.flatMap zg0).drop (i * 2)).take 2)
 | [], i, x, h => by simp at h
 | e :: es, 0, x, h => by
  simp only [List.map_cons, List.getElem?_cons_zero, Option.some.injEq] at h
  subst h
  exact ⟨e.1.2, by simp, hk _ _ e.2⟩
 | e :: es, i + 1, x, h => by
  simp only [List.map_cons, List.getElem?_cons_succ] at h
  have := zg1 hk es i x h
  rw [Nat.succ_mul]
  simpa using this
theorem zh7 (f : FuncId) (hf : ∀ args w, (callFunc f args).run Tryz.prog w = .ok (.enter f args) w)
  (hcf : ∀ (x y : Ob) (u v : Value) (D D' : Nat -> Prop) (W : World), SlR 1 zv D W u x.1 -> SlR 1 zv D' W v y.1 -> Calls Tryz.prog f #[.agg #[u, .int .i64 x.2], .agg #[v, .int .i64 y.2]] W (Ret fun r w' => r = .int .i64 (yj x y) /\ Ext W w'))
  (l : List Ob) (hlen : l.length <= 1048576) (v : Value) (F : Nat -> Prop) (w : World) (hown : OwH 60 2 ROb F w v l) :
  Calls Tryz.prog 67 #[v, .func (.func f) #[] #[]] w (Ret fun u w' => u = .tuple #[] /\ ∃ l' : List Ob, l'.Perm l /\ l'.Pairwise (fun a b => ¬ yj b a < 0) /\ OwH 60 2 ROb F w' v l' /\ Keep (fun q => v.ownBlock = some q) w w') := by
 by_cases h0 : l = []
 ·
  subst h0
  obtain ⟨ao, c, rfl, _⟩ := hown.form
  haveI : Inhabited Nat := ⟨0⟩
  refine (Tryz.slices_SortFunc_none (α := Nat) ao c (.func (.func f) #[] #[]) w).mono ?_
  rintro e w' ⟨rfl, rfl⟩
  exact ⟨_, rfl, rfl, [], List.Perm.refl _, List.Pairwise.nil, hown, Keep.refl _ _⟩
 obtain ⟨⟨xs, hx1, hx2⟩, hF⟩ := hown
 obtain ⟨es, he1, he2⟩ := zek l xs hx1.1 hx2
 subst he2
 have hel : es.length = l.length := by rw [<- he1, List.length_map]
 have hes : es ≠ [] := fun h => h0 (by rw [<- he1, h]; rfl)
 obtain ⟨g, cap, sp, rfl, _, hnc, hcm, hB, hcl⟩ := zgy (enc := zg0) (c := 2) (fun _ => rfl) (by omega) hx1 hes
 haveI : Inhabited (ObC F w) := ⟨es.head hes⟩
 have hFg : ∀ q, F q -> q ≠ g := fun q hq e => (hF q hq).2 (by rw [e]; rfl)
 have hlt' : ∀ x y : ObC F w, Go.Proofs.ltOf (fun x y : ObC F w => yj x.1.1 y.1.1) x y = true ↔ yj x.1.1 y.1.1 < 0 := by
  intro x y
  unfold Go.Proofs.ltOf
  rw [decide_eq_true_eq]
 have hlf : ∀ x y : ObC F w, Go.Proofs.ltOf (fun x y : ObC F w => yj x.1.1 y.1.1) x y = false ↔ ¬ yj x.1.1 y.1.1 < 0 := by
  intro x y
  rw [<- hlt', Bool.not_eq_true]
 have hswo : Go.Sort.SWO (Go.Proofs.ltOf fun x y : ObC F w => yj x.1.1 y.1.1) := by
  refine ⟨?_, ?_, ?_⟩
  . intro x; rw [hlf, kn]; omega
  . intro x y z; rw [hlt', hlt', hlt']; exact jl
  ·
   intro x y z; rw [hlf, hlf, hlf]
   intro h1 h2 h3
   have a1 := xy x.1.1 y.1.1
   have a2 := xy y.1.1 z.1.1
   have a3 := xy x.1.1 z.1.1
   rcases Int.lt_or_le (yj y.1.1 x.1.1) 0 with b | b
   . have := jl b h3; omega
   ·
    have e : x.1.1 = y.1.1 := jK (by omega)
    rw [e] at h3; exact h2 h3
 have hst : ∀ (d : Array (ObC F w)) (m : Nat) (os : Array Obj), d.size = es.length -> ∀ (v : Value) (x : List Int), SlR 1 zv F w v x -> SlR 1 zv F (sortWorldK zg0 2 w g 0 m d os) v x := fun d m os hd v x hs =>
  hs.keep zb (kJ (enc := zg0) (k := 2) (fun _ => rfl) hB d hd m os).2 (fun q hq _ => hFg q hq)
 have hcon := Tryz.slices_SortFunc (α := ObC F w) 2 tg60 ts60 zg0 (fun _ => rfl) (fun x v hv => zfP F x.1.1 (zg0 x) ⟨x.1.2, rfl, x.2⟩ v hv) (fun x y => yj x.1.1 y.1.1) hswo f #[] g 0 cap es.toArray w hf
  (fun m os dk hd x y => by
   have hd' : dk.size = es.length := by simpa using hd
   refine (hcf x.1.1 y.1.1 _ _ F F _ (hst dk m os hd' _ _ x.2) (hst dk m os hd' _ _ y.2)).mono ?_
   rintro e w' ⟨v, rfl, rfl, hk⟩
   exact ⟨rfl, zh6 hk⟩)
  (zeQ (enc := zg0) (k := 2) (fun _ => rfl) hB) hB.lt (by simp only [List.size_toArray]; omega)
 rw [show es.toArray.size = l.length from by simpa using hel] at hcon
 refine hcon.mono ?_
 rintro e w' ⟨rfl, d', q, os, hp, hs, rfl⟩
 have hds : d'.size = es.length := by have := hp.1; simpa using this
 have hw := kJ (enc := zg0) (k := 2) (fun _ => rfl) hB d' hds q os
 have hperm : d'.toList.Perm es := zdB (by rw [show es.toArray.size = l.length from by simpa using hel]; exact hp)
 have hdl : d'.toList.length = l.length := by rw [hperm.length_eq, hel]
 refine ⟨_, rfl, rfl, d'.toList.map (fun e => e.1.1), ?_, ?_, ⟨⟨d'.toList.flatMap zg0, ?_, ?_⟩, fun q hq => ⟨Nat.lt_of_lt_of_le (hF q hq).1 hw.2.size, (hF q hq).2⟩⟩, hw.2.mono (fun q _ h => by rw [h]; rfl)⟩
 ·
  have := hperm.map (fun e => e.1.1)
  rwa [he1] at this
 ·
  rw [List.pairwise_map]
  refine (zbS (by rw [hds, hel]) hs).imp ?_
  intro a b h
  exact (hlf _ _).1 h
 ·
  have h4 := zgz (enc := zg0) (c := 2) (cap := cap) (fun _ => rfl) hw.1 (by rw [<- hcl, List.length_append, List.length_append, yN (c := 2) (fun _ => rfl), yN (c := 2) (fun _ => rfl), hperm.length_eq]) (k := l.length) (by omega) hnc hcm
  rw [List.take_of_length_le (by omega)] at h4
  rw [List.length_map, hdl]
  exact h4
 . exact zg1 (hst d' q os hds) d'.toList
def zf4 {α : Type} (p : α -> Bool) (l : List α) : Int := if l.any p then (l.findIdx p : Nat) else -1
theorem zbT {α : Type} {p : α -> Bool} {l : List α} {i : Nat} {x : α} (h : (l.take i).any p = false) (hx : l[i]? = some x) (hp : p x = true) : zf4 p l = i := by
 have hl := (List.getElem?_eq_some_iff.1 hx).1
 have hm := List.mem_of_getElem? hx
 unfold zf4
 rw [if_pos (List.any_eq_true.2 ⟨x, hm, hp⟩)]
 have h1 : l.findIdx p = i := by
  rw [List.findIdx_eq hl]
  refine ⟨by rw [(List.getElem?_eq_some_iff.1 hx).2]; exact hp, fun j hj => ?_⟩
  have h2 := List.any_eq_false.1 h (l[j]'(by omega)) (List.mem_of_getElem? (i := j) (by rw [List.getElem?_take, if_pos hj]; exact List.getElem?_eq_getElem _))
  simpa using h2
 rw [h1]
theorem jP {α : Type} {p : α -> Bool} {l : List α} (h : l.any p = false) : zf4 p l = -1 := by unfold zf4; rw [h]; rfl
theorem zbU {α : Type} {p : α -> Bool} {l : List α} : 0 <= zf4 p l ↔ l.any p = true := by
 unfold zf4
 split
 . rename_i h; exact ⟨fun _ => h, fun _ => by omega⟩
 . rename_i h; exact ⟨fun h => by omega, fun h' => absurd h' h⟩
theorem kZ {α : Type} {p : α -> Bool} {l : List α} {k : Nat} {x : α} (hx : l[k]? = some x) (h : (l.take k).any p = false) (hp : p x = false) : (l.take (k + 1)).any p = false := by rw [zg hx, List.any_append, h]; simp [hp]
theorem zel (p : (List Int × Int) -> Bool) (l : List (List Int × Int)) (v : Value) (D : Nat -> Prop) (g : FuncId) (cp : Value) (W : World) (hf : ∀ args w, (callFunc g args).run Tryz.prog w = .ok (.enter g args) w) (hl : SlR 2 ROb D W v l)
  (hc : ∀ (x : (List Int × Int)) (u : Value) (w : World), Ext W w -> x ∈ l -> SlR 1 zv D w u x.1 -> Calls Tryz.prog g #[.agg #[u, .int .i64 x.2], cp] w (Ret fun r w' => r = .bool (p x) /\ Ext w w')) :
  Calls Tryz.prog 50 #[v, .func (.func g) #[] #[cp]] W (Ret fun r w' => r = .int .i64 (zf4 p l) /\ Ext W w') := by
 obtain ⟨av, cv, rfl⟩ := hl.form
 have hmx := hl.max
 refine G.in2 Tryz.func50 rfl Tryz.ntmps50 rfl (V.inn ?_)
 refine Vs 14 rfl ?_
 refine V.loopK (σ := Nat) [0, 1, 7] [] [] rfl (fun e i => (8, .int .i64 i) :: e) (fun e i => e) (fun i => i <= l.length /\ (l.take i).any p = false) (fun i => l.length - i) (0) (Sub.of rfl) (Has.of rfl) (fun _ => rfl) (fun _ => rfl) (fun _ => rfl) (⟨Nat.zero_le _, by simp⟩) ?_
 rintro i ⟨hi, hno⟩
 refine Vs 6 rfl ?_
 refine V.ite rfl (fun hlt => ?_) (fun hlt => ?_)
 ·
  refine Vs 15 rfl ?_
  obtain ⟨x, he_x⟩ : ∃ z_, l[i]? = some z_ := ⟨_, List.getElem?_eq_getElem (by omega)⟩
  have hm_x := List.mem_of_getElem? he_x
  obtain ⟨b_x, o_x, c_x, ha_x, _, hc_x, hR_x⟩ := hl.at he_x
  obtain ⟨v1_x, rfl, hs_x⟩ := hR_x
  obtain ⟨a1_x, n1_x, rfl⟩ := hs_x.form
  refine V.fr 1000 0 rfl rfl hc_x ?_
  refine V.ix 1000 tR76 ts60 rfl ha_x (by omega) (_) (rfl) rfl ?_
  refine Vs 1 rfl ?_
  refine V.call1V hf rfl (fun w hI => hc x _ w hI.k0 hm_x (Tr1 hI.k0 hs_x)) ?_
  refine Vs 2 rfl ?_
  refine V.bool rfl (fun hp => ?_) (fun hp => ?_)
  ·
   refine Vs 12 rfl ?_
   refine V.ret1 Tryz.results50 rfl (fun w hI => ⟨_, rfl, by rw [zbT hno he_x hp], hI.k0⟩)
  ·
   refine Va 7 rfl (by omega) ?_
   refine V.back (i + 1) (Sub.of rfl) (Has.of rfl) (⟨by omega, kZ he_x hno hp⟩) (by first | omega | (dsimp only; omega)) 0 rfl rfl
 ·
  obtain rfl : i = l.length := by omega
  rw [List.take_length] at hno
  refine Vs 11 rfl ?_
  refine V.ret1 Tryz.results50 rfl (fun w hI => ⟨_, rfl, by rw [jP hno], hI.k0⟩)
theorem zh8 (p : (Int × List Int) -> Bool) (l : List (Int × List Int)) (v : Value) (D : Nat -> Prop) (g : FuncId) (cp : Value) (W : World) (hf : ∀ args w, (callFunc g args).run Tryz.prog w = .ok (.enter g args) w) (hl : SlR 2 RQu D W v l)
  (hc : ∀ (x : (Int × List Int)) (u : Value) (w : World), Ext W w -> x ∈ l -> SlR 1 zv D w u x.2 -> Calls Tryz.prog g #[.agg #[.int .i64 x.1, u], cp] w (Ret fun r w' => r = .bool (p x) /\ Ext w w')) :
  Calls Tryz.prog 116 #[v, .func (.func g) #[] #[cp]] W (Ret fun r w' => r = .int .i64 (zf4 p l) /\ Ext W w') := by
 obtain ⟨av, cv, rfl⟩ := hl.form
 have hmx := hl.max
 refine G.in2 Tryz.func116 rfl Tryz.ntmps116 rfl (V.inn ?_)
 refine Vs 14 rfl ?_
 refine V.loopK (σ := Nat) [0, 1, 7] [] [] rfl (fun e i => (8, .int .i64 i) :: e) (fun e i => e) (fun i => i <= l.length /\ (l.take i).any p = false) (fun i => l.length - i) (0) (Sub.of rfl) (Has.of rfl) (fun _ => rfl) (fun _ => rfl) (fun _ => rfl) (⟨Nat.zero_le _, by simp⟩) ?_
 rintro i ⟨hi, hno⟩
 refine Vs 6 rfl ?_
 refine V.ite rfl (fun hlt => ?_) (fun hlt => ?_)
 ·
  refine Vs 15 rfl ?_
  obtain ⟨x, he_x⟩ : ∃ z_, l[i]? = some z_ := ⟨_, List.getElem?_eq_getElem (by omega)⟩
  have hm_x := List.mem_of_getElem? he_x
  obtain ⟨b_x, o_x, c_x, ha_x, _, hc_x, hR_x⟩ := hl.at he_x
  obtain ⟨v1_x, rfl, hs_x⟩ := hR_x
  obtain ⟨a1_x, n1_x, rfl⟩ := hs_x.form
  refine V.fr 1000 0 rfl rfl hc_x ?_
  refine V.ix 1000 tR24 ts33 rfl ha_x (by omega) (_) (rfl) rfl ?_
  refine Vs 1 rfl ?_
  refine V.call1V hf rfl (fun w hI => hc x _ w hI.k0 hm_x (Tr1 hI.k0 hs_x)) ?_
  refine Vs 2 rfl ?_
  refine V.bool rfl (fun hp => ?_) (fun hp => ?_)
  ·
   refine Vs 12 rfl ?_
   refine V.ret1 Tryz.results116 rfl (fun w hI => ⟨_, rfl, by rw [zbT hno he_x hp], hI.k0⟩)
  ·
   refine Va 7 rfl (by omega) ?_
   refine V.back (i + 1) (Sub.of rfl) (Has.of rfl) (⟨by omega, kZ he_x hno hp⟩) (by first | omega | (dsimp only; omega)) 0 rfl rfl
 ·
  obtain rfl : i = l.length := by omega
  rw [List.take_length] at hno
  refine Vs 11 rfl ?_
  refine V.ret1 Tryz.results116 rfl (fun w hI => ⟨_, rfl, by rw [jP hno], hI.k0⟩)
theorem zem (p : (Int × List Int) -> Bool) (l : List (Int × List Int)) (v : Value) (D : Nat -> Prop) (g : FuncId) (cp : Value) (W : World) (hf : ∀ args w, (callFunc g args).run Tryz.prog w = .ok (.enter g args) w) (hl : SlR 2 RQu D W v l)
  (hc : ∀ (x : (Int × List Int)) (u : Value) (w : World), Ext W w -> x ∈ l -> SlR 1 zv D w u x.2 -> Calls Tryz.prog g #[.agg #[.int .i64 x.1, u], cp] w (Ret fun r w' => r = .bool (p x) /\ Ext w w')) :
  Calls Tryz.prog 84 #[v, .func (.func g) #[] #[cp]] W (Ret fun r w' => r = .bool (l.any p) /\ Ext W w') := by
 refine G.in2 Tryz.func84 rfl Tryz.ntmps84 rfl (V.inn ?_)
 refine Vs 9 rfl ?_
 refine V.call1 Tryz.call116 rfl (fun w hI => zh8 p l v D g cp w hf (Tr1 hI.k0 hl) (fun x u w' hE hx hd => hc x u w' ((hI.k0).trans hE (fun _ _ h => h)) hx hd)) ?_
 refine Vs 5 rfl ?_
 refine V.ret1 Tryz.results84 rfl (fun w hI => ⟨_, rfl, by congr 1; rw [Bool.eq_iff_iff, decide_eq_true_iff]; exact zbU, hI.k0⟩)
theorem zh9 (p : Int -> Bool) (l : List Int) (v : Value) (D : Nat -> Prop) (g : FuncId) (cp : Value) (W : World) (hf : ∀ args w, (callFunc g args).run Tryz.prog w = .ok (.enter g args) w) (hl : SlR 1 zv D W v l)
  (hc : ∀ (x : Int) (w : World), Ext W w -> x ∈ l -> True -> Calls Tryz.prog g #[.int .i64 x, cp] w (Ret fun r w' => r = .bool (p x) /\ Ext w w')) :
  Calls Tryz.prog 129 #[v, .func (.func g) #[] #[cp]] W (Ret fun r w' => r = .int .i64 (zf4 p l) /\ Ext W w') := by
 obtain ⟨av, cv, rfl⟩ := hl.form
 have hmx := hl.max
 refine G.in2 Tryz.func129 rfl Tryz.ntmps129 rfl (V.inn ?_)
 refine Vs 14 rfl ?_
 refine V.loopK (σ := Nat) [0, 1, 7] [] [] rfl (fun e i => (8, .int .i64 i) :: e) (fun e i => e) (fun i => i <= l.length /\ (l.take i).any p = false) (fun i => l.length - i) (0) (Sub.of rfl) (Has.of rfl) (fun _ => rfl) (fun _ => rfl) (fun _ => rfl) (⟨Nat.zero_le _, by simp⟩) ?_
 rintro i ⟨hi, hno⟩
 refine Vs 6 rfl ?_
 refine V.ite rfl (fun hlt => ?_) (fun hlt => ?_)
 ·
  refine Vs 15 rfl ?_
  obtain ⟨x, he_x⟩ : ∃ z_, l[i]? = some z_ := ⟨_, List.getElem?_eq_getElem (by omega)⟩
  have hm_x := List.mem_of_getElem? he_x
  obtain ⟨b_x, o_x, c_x, ha_x, _, hc_x, hR_x⟩ := hl.at he_x
  obtain rfl := hR_x
  refine V.fr 1000 0 rfl rfl hc_x ?_
  refine V.ix 1000 tR31 ts3 rfl ha_x (by omega) (_) (rfl) rfl ?_
  refine Vs 1 rfl ?_
  refine V.call1V hf rfl (fun w hI => hc x w hI.k0 hm_x (trivial)) ?_
  refine Vs 2 rfl ?_
  refine V.bool rfl (fun hp => ?_) (fun hp => ?_)
  ·
   refine Vs 12 rfl ?_
   refine V.ret1 Tryz.results129 rfl (fun w hI => ⟨_, rfl, by rw [zbT hno he_x hp], hI.k0⟩)
  ·
   refine Va 7 rfl (by omega) ?_
   refine V.back (i + 1) (Sub.of rfl) (Has.of rfl) (⟨by omega, kZ he_x hno hp⟩) (by first | omega | (dsimp only; omega)) 0 rfl rfl
 ·
  obtain rfl : i = l.length := by omega
  rw [List.take_length] at hno
  refine Vs 11 rfl ?_
  refine V.ret1 Tryz.results129 rfl (fun w hI => ⟨_, rfl, by rw [jP hno], hI.k0⟩)
theorem zha (p : Int -> Bool) (l : List Int) (v : Value) (D : Nat -> Prop) (g : FuncId) (cp : Value) (W : World) (hf : ∀ args w, (callFunc g args).run Tryz.prog w = .ok (.enter g args) w) (hl : SlR 1 zv D W v l)
  (hc : ∀ (x : Int) (w : World), Ext W w -> x ∈ l -> True -> Calls Tryz.prog g #[.int .i64 x, cp] w (Ret fun r w' => r = .bool (p x) /\ Ext w w')) :
  Calls Tryz.prog 97 #[v, .func (.func g) #[] #[cp]] W (Ret fun r w' => r = .bool (l.any p) /\ Ext W w') := by
 refine G.in2 Tryz.func97 rfl Tryz.ntmps97 rfl (V.inn ?_)
 refine Vs 9 rfl ?_
 refine V.call1 Tryz.call129 rfl (fun w hI => zh9 p l v D g cp w hf (Tr1 hI.k0 hl) (fun x  w' hE hx hd => hc x  w' ((hI.k0).trans hE (fun _ _ h => h)) hx hd)) ?_
 refine Vs 5 rfl ?_
 refine V.ret1 Tryz.results97 rfl (fun w hI => ⟨_, rfl, by congr 1; rw [Bool.eq_iff_iff, decide_eq_true_iff]; exact zbU, hI.k0⟩)
end Go.Proofs.YtbkhagigkglgoaaGreatDoor
namespace Go.GL
open Go.RowKit Go.ChangeMaps
section
variable {κ : Type} [DecidableEq κ]
def lkg : List (κ × Value) -> κ -> Option (Nat × Value)
 | [], _ => none
 | (a, v) :: r, k => if k = a then some (0, v) else (lkg r k).map fun p => (p.1 + 1, p.2)
def zen : List (κ × Value) -> κ -> Option Value
 | [], _ => none
 | (a, v) :: r, k => if k = a then some v else zen r k
def zf5 : List (κ × Value) -> κ -> Value -> List (κ × Value)
 | [], k, v => [(k, v)]
 | (a, u) :: r, k, v => if k = a then (k, v) :: r else (a, u) :: zf5 r k v
theorem zg2 (l : List (κ × Value)) (k k' : κ) (v : Value) : zen (zf5 l k v) k' = if k' = k then some v else zen l k' := by
 induction l with
 | nil => simp [zf5, zen]
 | cons x r ih =>
  obtain ⟨a, u⟩ := x
  simp only [zf5]
  by_cases h : k = a
  ·
   subst h
   rw [if_pos rfl]
   simp only [zen]
   split <;> rfl
  ·
   rw [if_neg h]
   simp only [zen, ih]
   by_cases h1 : k' = a
   ·
    subst h1
    rw [if_pos rfl, if_neg (fun e => h e.symm), if_pos rfl]
   . rw [if_neg h1, if_neg h1]
theorem zi8 (l : List (κ × Value)) (k : κ) : zen l k = (lkg l k).map (·.2) := by
 induction l with
 | nil => rfl
 | cons x r ih =>
  obtain ⟨a, u⟩ := x
  simp only [zen, lkg]
  split
  . rfl
  . rw [ih, Option.map_map]; rfl
theorem zhb {l : List (κ × Value)} {k : κ} {p : Nat × Value} (v : Value) (h : lkg l k = some p) : l[p.1]? = some (k, p.2) /\ l.set p.1 (k, v) = zf5 l k v := by
 induction l generalizing p with
 | nil => simp [lkg] at h
 | cons x r ih =>
  obtain ⟨a, u⟩ := x
  simp only [lkg] at h
  simp only [zf5]
  split at h
  . rename_i h1; cases h; rw [if_pos h1, h1]; exact ⟨rfl, rfl⟩
  ·
   rename_i h1
   obtain ⟨q, h2, rfl⟩ := Option.map_eq_some_iff.1 h
   obtain ⟨h3, h4⟩ := ih h2
   rw [if_neg h1]
   exact ⟨by simpa using h3, by simpa using h4⟩
theorem zhc {l : List (κ × Value)} {k : κ} (v : Value) (h : lkg l k = none) : l ++ [(k, v)] = zf5 l k v := by
 induction l with
 | nil => rfl
 | cons x r ih =>
  obtain ⟨a, u⟩ := x
  simp only [lkg] at h
  simp only [zf5]
  split at h
  . cases h
  ·
   rename_i h1
   rw [if_neg h1, List.cons_append, ih (by simpa using h)]
structure KeyOk (P : Program) (kt : TypeId) (ke : κ -> Value) : Prop where
 check : ∀ k b w, (Instr.checkKey b 10000 kt (ke k)).run P w = .ok () w
 find : ∀ k (es : List MapEntry) (l : List (κ × Value)) w, es.map (fun e => (e.key, e.val)) = l.map (fun p => (ke p.1, p.2)) -> (Instr.findKey kt (ke k) es).run P w = .ok (lkg l k) w
 stays : ∀ k, Instr.sameBits 10000 (ke k) (ke k) = true
def MapG (ke : κ -> Value) (w : World) (m : Nat) (l : List (κ × Value)) : Prop :=
 ∃ (es : Array MapEntry) (clock : Nat), w.heap[m]? = some (.map es clock) /\ es.toList.map (fun e => (e.key, e.val)) = l.map (fun p => (ke p.1, p.2))
variable {ke : κ -> Value}
omit [DecidableEq κ] in
theorem MapG.keep {w w' : World} {S : Nat -> Prop} {m : Nat} {l : List (κ × Value)} (h : MapG ke w m l) (hk : Keep S w w') (hS : ¬ S m) : MapG ke w' m l := by
 obtain ⟨es, c, h1, r⟩ := h
 exact ⟨es, c, by rw [hk.block m (Array.getElem?_eq_some_iff.1 h1).1 hS]; exact h1, r⟩
omit [DecidableEq κ] in
theorem MapG.ext {w w' : World} {m : Nat} {l : List (κ × Value)} (h : MapG ke w m l) (hk : Ext w w') : MapG ke w' m l := h.keep hk (fun h => h)
omit [DecidableEq κ] in
theorem MapG.lt {w : World} {m : Nat} {l : List (κ × Value)} (h : MapG ke w m l) : m < w.heap.size := by
 obtain ⟨es, c, h1, r⟩ := h
 exact (Array.getElem?_eq_some_iff.1 h1).1
theorem zeo {d : TypeDesc} (hd : ∀ a b : κ, Instr.sameNow d (ke a) (ke b) = some (decide (a = b))) (k : κ) : ∀ (es : List MapEntry) (l : List (κ × Value)) (i : Nat), es.map (fun e => (e.key, e.val)) = l.map (fun p => (ke p.1, p.2)) -> Instr.findNow d (ke k) es i = some ((lkg l k).map fun p => (i + p.1, p.2))
 | [], [], i, _ => rfl
 | [], _ :: _, i, h => by simp at h
 | _ :: _, [], i, h => by simp at h
 | e :: es, (a, v) :: l, i, h => by
  simp only [List.map_cons, List.cons.injEq, Prod.mk.injEq] at h
  rw [Instr.findNow, h.1.1, lkg, hd]
  by_cases hk : k = a
  . simp [hk, h.1.2]
  ·
   simp only [hk, decide_false, if_false]
   rw [zeo hd k es l (i + 1) h.2]
   cases lkg l k <;> simp <;> omega
theorem KeyOk.now {P : Program} {kt : TypeId} {d : TypeDesc} (hk : P.underlying kt = some d) (hd : ∀ a b : κ, Instr.sameNow d (ke a) (ke b) = some (decide (a = b))) (h2 : ∀ k, MapKept.IsKey d (ke k)) (h3 : ∀ k, Instr.sameBits 10000 (ke k) (ke k) = true) : KeyOk P kt ke where
 check := fun k b w => MapKept.run_checkKey hk (h2 k) b 9999
 find := fun k es l w h => by
  have := zeo hd k es l 0 h
  rw [MapKept.run_findKey (P := P) (w := w) hk this]
  cases lkg l k <;> simp
 stays := h3
theorem KeyOk.str {P : Program} {kt : TypeId} (hk : P.underlying kt = some .string) : KeyOk P kt (Value.string) :=
 KeyOk.now hk (fun a b => by
  show some (a == b) = _
  congr 1
  rw [Bool.eq_iff_iff, MapKept.bytes_beq, decide_eq_true_iff]) (fun _ => trivial) (fun k => by
  show (k == k) = true
  rw [MapKept.bytes_beq])
theorem KeyOk.int {P : Program} {kt : TypeId} (hk : P.underlying kt = some (.int .i64)) : KeyOk P kt (Value.int .i64) :=
 KeyOk.now hk (fun a b => by
  simp only [Instr.sameNow, if_true]
  rfl) (fun _ => rfl) (fun k => by simp [Instr.sameBits])
section
variable {P : Program} {w : World} {m : Nat} {l : List (κ × Value)} {t kt et : TypeId}
theorem zdC (hK : KeyOk P kt ke) (h : MapG ke w m l) (ht : P.underlying t = some (.map kt et)) {z : Value} (hz : ∀ w, (zeroValue et).run P w = .ok z w) (k : κ) (ok : Bool) : (Instr.lookup t (.map (some m)) (ke k) ok).run P w = .ok (if ok then .tuple #[(zen l k).getD z, .bool (zen l k).isSome] else (zen l k).getD z) w := by
 obtain ⟨es, c, h1, h2⟩ := h
 have h5 := hK.find k _ _ w h2
 have h7 := zi8 l k
 cases h6 : lkg l k with
 | none => rw [h6] at h5 h7; cases ok <;> simp [Instr.lookup, run_underlying ht, MapKept.run_getObj_map h1, hK.check, h5, hz, Result.andThen, h7]
 | some p => rw [h6] at h5 h7; cases ok <;> simp [Instr.lookup, run_underlying ht, MapKept.run_getObj_map h1, hK.check, h5, Result.andThen, h7]
theorem zdD (hK : KeyOk P kt ke) (h : MapG ke w m l) (ht : P.underlying t = some (.map kt et)) (k : κ) (v : Value) :
  ∃ w', (Instr.mapUpdate t (.map (some m)) (ke k) v).run P w = .ok () w' /\ MapG ke w' m (zf5 l k v) /\ Keep (fun q => q = m) w w' /\ w'.heap.size = w.heap.size := by
 obtain ⟨es, c, h1, h2⟩ := h
 have h7 := hK.find k _ _ w h2
 cases h8 : lkg l k with
 | none =>
  rw [h8] at h7
  refine ⟨setBlock w m (.map (es.push ⟨ke k, v, c⟩) (c + 1)), by simp [Instr.mapUpdate, run_underlying ht, MapKept.run_getObj_map h1, hK.check, h7, MapKept.run_setObj_map _ h1, Result.andThen, setBlock], ?_, xr h1, by simp [setBlock]⟩
  refine ⟨_, _, (MapKept.heap_set h1).1, ?_⟩
  rw [<- zhc v h8]; simp [h2]
 | some p =>
  rw [h8] at h7
  obtain ⟨h9, h10⟩ := zhb v h8
  have hlen : es.toList.length = l.length := by have := congrArg List.length h2; simpa using this
  have hp := (List.getElem?_eq_some_iff.1 h9).1
  obtain ⟨e0, he0⟩ : ∃ e0, es.toList[p.1]? = some e0 := ⟨_, List.getElem?_eq_getElem (by omega)⟩
  have hkey : e0.key = ke k /\ e0.val = p.2 := by
   have := congrArg (fun L => L[p.1]?) h2
   simp only [List.getElem?_map, he0, h9, Option.map_some, Option.some.injEq, Prod.mk.injEq] at this
   exact this
  have he0' : es[p.1]? = some e0 := by simpa using he0
  refine ⟨setBlock w m (.map (es.modify p.1 fun e => { e with key := ke k, val := v }) c), by simp [Instr.mapUpdate, run_underlying ht, MapKept.run_getObj_map h1, hK.check, h7, he0', hkey.1, Instr.keyThatStays, hK.stays, MapKept.run_setObj_map _ h1, Result.andThen, setBlock], ?_, xr h1, by simp [setBlock]⟩
  refine ⟨_, _, (MapKept.heap_set h1).1, ?_⟩
  rw [<- h10, Array.toList_modify, zeF _ _ (ke k, v) _ _ (fun _ _ => rfl), h2]; simp only [List.map_set]
end
section
variable {P : Program} {env : Env} {w : World} {dst : Option Tmp} {ty : TypeId} {pos : String} {aft : Array Edge} {g : Option (Nat × Bool)} {t kt et : TypeId} {m : Nat} {l : List (κ × Value)}
omit [DecidableEq κ] in
theorem M.makeMapG : yA P ⟨dst, .makeMap t none, ty, pos, aft, g⟩ env w (fun u w' => ∃ b, u = .map (some b) /\ MapG ke w' b [] /\ Ext w w' /\ ∀ q, q = b -> w.heap.size <= q /\ q < w'.heap.size) := by
 refine ⟨.map (some w.heap.size), w.alloc (.map #[] 0), ?_, _, rfl, ⟨#[], 0, (MapKept.heap_alloc w _).1, rfl⟩, Keep.alloc w _, fun q hq => by subst hq; simp⟩
 intro n a ha
 have h : (Instr.makeMap t none).run P w = .ok (.map (some w.heap.size)) (w.alloc (.map #[] 0)) := by simp [Instr.makeMap, Result.andThen]
 simp [execOp, h]
theorem R.lookupG {x y : Operand} {k : κ} {z : Value} (hK : KeyOk P kt ke) (h : MapG ke w m l) (ht : P.underlying t = some (.map kt et)) (hz : ∀ w, (zeroValue et).run P w = .ok z w) (hx : ev env x = some (.map (some m))) (hy : ev env y = some (ke k)) :
  yr P ⟨dst, .lookup t x y false, ty, pos, aft, g⟩ env w ((zen l k).getD z) w := by
 intro n a ha
 simp [execOp, ha.eval hx, ha.eval hy, zdC hK h ht hz]
theorem M.updateG {x y u : Operand} {k : κ} {v : Value} (hK : KeyOk P kt ke) (h : MapG ke w m l) (ht : P.underlying t = some (.map kt et)) (hx : ev env x = some (.map (some m))) (hy : ev env y = some (ke k)) (hu : ev env u = some v) :
  qS P ⟨dst, .mapUpdate t x y u, ty, pos, aft, g⟩ env w (fun w' => MapG ke w' m (zf5 l k v) /\ Keep (fun q => q = m) w w' /\ ∀ q, q = m -> (q = m \/ w.heap.size <= q) /\ q < w'.heap.size) := by
 have hlt := h.lt
 obtain ⟨w', h1, h2, h3, h4⟩ := zdD hK h ht k v
 refine ⟨w', ?_, h2, h3, fun q hq => ⟨.inl hq, by omega⟩⟩
 intro n a ha
 simp [execOp, ha.eval hx, ha.eval hy, ha.eval hu, h1]
end
abbrev MapP (ke : κ -> Value) (m : Nat) (l : List (κ × Value)) : HE := .res (fun q => q = m) (fun w => MapG ke w m l)
omit [DecidableEq κ] in
theorem MapP.loc {m : Nat} {l : List (κ × Value)} : (MapP ke m l).loc := fun _ _ _ h hk hT => h.keep hk (hT m h.lt rfl)
end
end Go.GL
namespace Go.Proofs.YtbkhagigkglgoaaGreatDoor
open Go.GL
abbrev obE (o : Ob) (y : Option Addr × Nat × (Nat -> Prop)) : HE := DaP ROb y.2.2 o [.slice y.1 o.1.length y.2.1, .int .i64 o.2]
theorem zhd {H : Hp} {f : FuncId} {args : Array Value} {o : Ob} {w : World} (k : Nat) (hc : Calls Tryz.prog f args w (Ret fun r w' => (∃ ov, r = .agg #[ov, .int .i64 o.2] /\ SlR 1 zv (fun b => w.heap.size <= b) w' ov o.1) /\ Ext w w')) :
  Calls Tryz.prog f args w (Ret fun r w' => ∃ y : Option Addr × Nat × (Nat -> Prop), r = .agg #[.slice y.1 o.1.length y.2.1, .int .i64 o.2] /\ Hands H [] [(k, obE o y)] w w') := by
 refine hc.mono ?_
 rintro _ w' ⟨_, rfl, ⟨ov, rfl, hd⟩, hk⟩
 obtain ⟨ao, co, rfl⟩ := hd.form
 refine ⟨_, rfl, (ao, co, fun b => w.heap.size <= b /\ b < w'.heap.size), rfl, hk.mono fun q _ h => h.elim, fun x hx => ?_, List.pairwise_singleton _ _⟩
 rw [List.mem_singleton] at hx
 subst hx
 exact ⟨⟨_, rfl, hd.narrow (by omega) yI⟩, DaP.loc, fun _ h => h, fun q hq => ⟨.inr hq.1, hq.2⟩⟩
theorem zeR {F : Nat -> Prop} {w : World} {o : Ob} {ao : Option Addr} {co : Nat} (h : ROb F w o [.slice ao o.1.length co, .int .i64 o.2]) : SlR 1 zv F w (.slice ao o.1.length co) o.1 := by
 obtain ⟨v, h1, h2⟩ := h
 simp only [List.cons.injEq, and_true] at h1
 rw [h1]; exact h2
theorem zg3 {H : Hp} {Bs : yk} {f : FuncId} {l : List Ob} {v : Value} {F : Nat -> Prop} {w : World} {k : Nat} (hI : VI Bs H w) (h0 : zm H k = some (OwP 60 2 ROb F v l)) (hlen : l.length <= 1048576) (hf : ∀ args w, (callFunc f args).run Tryz.prog w = .ok (.enter f args) w)
  (hcf : ∀ (x y : Ob) (u v : Value) (D D' : Nat -> Prop) (W : World), SlR 1 zv D W u x.1 -> SlR 1 zv D' W v y.1 -> Calls Tryz.prog f #[.agg #[u, .int .i64 x.2], .agg #[v, .int .i64 y.2]] W (Ret fun r w' => r = .int .i64 (yj x y) /\ Ext W w')) :
  Calls Tryz.prog 67 #[v, .func (.func f) #[] #[]] w (Ret fun r w' => ∃ l' : List Ob, (r = .tuple #[] /\ l'.Perm l /\ l'.Pairwise (fun a b => ¬ yj b a < 0)) /\ HE.holds w' (OwP 60 2 ROb F v l') /\ Keep (HE.S (OwP 60 2 ROb F v l)) w w' /\ ∀ q, HE.S (OwP 60 2 ROb F v l') q -> (HE.S (OwP 60 2 ROb F v l) q \/ w.heap.size <= q) /\ q < w'.heap.size) := by
 refine (zh7 f hf hcf l hlen v F w (hI.at k h0)).mono ?_
 rintro _ w' ⟨_, rfl, rfl, l', h1, h2, h3, h4⟩
 refine ⟨_, rfl, l', ⟨rfl, h1, h2⟩, h3, h4.mono fun q _ hq => .inl hq, fun q hq => ⟨.inl hq, ?_⟩⟩
 exact Nat.lt_of_lt_of_le (hI.low _ (zn h0) q hq) h4.size
theorem jQ {α : Type} {l : List α} {x y : α} : y ∈ l ++ [x] ↔ y ∈ l \/ y = x := by simp
theorem zi9 (o p : Ob) (l : List Ob) : (if (⟨(xU o).toArray⟩ : ByteArray) = ⟨(xU p).toArray⟩ then some (Value.bool true) else if o ∈ l then some (.bool true) else none) = if o ∈ l ++ [p] then some (.bool true) else none := by
 have hm : (o ∈ l ++ [p]) ↔ (o ∈ l \/ o = p) := jQ
 have h : ((⟨(xU o).toArray⟩ : ByteArray) = ⟨(xU p).toArray⟩) ↔ o = p := by
  constructor
  ·
   intro e
   injection e with e
   exact zb5 (List.toArray_inj e)
  . rintro rfl; rfl
 by_cases h1 : o = p
 . rw [if_pos (h.2 h1), if_pos (hm.2 (.inr h1))]
 ·
  rw [if_neg (fun e => h1 (h.1 e))]
  by_cases h2 : o ∈ l
  . rw [if_pos h2, if_pos (hm.2 (.inl h2))]
  . rw [if_neg h2, if_neg (fun e => (hm.1 e).elim h2 h1)]
theorem jn (f : Fl) (vd : Valid f) (pub rs : List Int) (v1 v2 v3 pv rv : Value) (D D' D2 : Nat -> Prop) (W : World) (hlen : rs.length <= 5000) (hf : RFl D W f v1 v2 v3) (hp : SlR 1 zv D' W pv pub) (hr : SlR 1 zv D2 W rv rs) (ht : Tab W) :
  Calls Tryz.prog 51 #[.agg #[v1, v2, v3], pv, rv] W (Ret fun r w' => SlR 2 ROb (fun b => W.heap.size <= b) w' r (zgt f pub rs) /\ Ext W w') := by
 obtain ⟨ap, cp, rfl⟩ := hp.form
 obtain ⟨ar, cr, rfl⟩ := hr.form
 refine G.in3 Tryz.func51 rfl Tryz.ntmps51 rfl (V.inn ?_)
 refine Vs 2 rfl ?_
 refine V.box 3 rfl rfl (fun b3 => ?_)
 refine Vs 5 rfl ?_
 refine V.newE 900 (E := fun b => MapP Value.string b []) (u := fun b => .map (some b)) rfl (fun _ => ⟨MapP.loc, fun _ h => h⟩) (fun w hI => M.makeMapG) (fun m900 => ?_)
 refine Vs 16 rfl ?_
 refine V.nilrow 901 60 2 rfl ?_
 refine V.chg 901 (e' := OwP 60 2 ROb (fun _ => False) (.slice none 0 0) []) rfl (fun w hI => OwH.nil) OwP.loc (fun _ h => h) (fun q hq => hq.elim id False.elim) ?_
 refine Vs 1 rfl ?_
 refine V.loopK (σ := Nat × Value × (Nat -> Prop) × List (ByteArray × Value) × List Ob) [1, 3, 7, 14, 15] [3] [3] rfl (fun e ⟨i, v, F, L, l⟩ => (16, .int .i64 i) :: (8, v) :: e) (fun e ⟨i, v, F, L, l⟩ => (900, MapP Value.string m900 L) :: (901, OwP 60 2 ROb F v l) :: e) (fun ⟨i, v, F, L, l⟩ => i <= rs.length /\ l.Nodup /\ l.length <= i /\ (∀ o, o ∈ l ↔ o ∈ (rs.take i).map (obN f pub)) /\ ∀ o : Ob, zen L ⟨(xU o).toArray⟩ = if o ∈ l then some (.bool true) else none) (fun ⟨i, v, F, L, l⟩ => rs.length - i) ((0, .slice none 0 0, fun _ => False, [], [])) (Sub.of rfl) (Has.of rfl) (fun _ => rfl) (fun _ => rfl) (fun _ => rfl) (⟨Nat.zero_le _, List.Pairwise.nil, Nat.zero_le _, fun o => by simp, fun o => by simp [zen]⟩) ?_
 rintro ⟨i, v, F, L, l⟩ ⟨hi, hn, hli, hmem, hL⟩
 show V _ _ _ _ _ ((16, .int .i64 i) :: (8, v) :: _) _ ((900, MapP Value.string m900 L) :: (901, OwP 60 2 ROb F v l) :: _) _
 refine Vs 6 rfl ?_
 refine V.ite rfl (fun hlt => ?_) (fun hlt => ?_)
 ·
  refine Vs 6 rfl ?_
  obtain ⟨x, he_x⟩ : ∃ z_, rs[i]? = some z_ := ⟨_, List.getElem?_eq_getElem (by omega)⟩
  have hm_x := List.mem_of_getElem? he_x
  obtain ⟨b_x, o_x, c_x, ha_x, _, hc_x, hR_x⟩ := hr.at he_x
  obtain rfl := hR_x
  refine V.fr 1000 0 rfl rfl hc_x ?_
  refine V.ix 1000 tR31 ts3 rfl ha_x (by omega) (_) (rfl) rfl ?_
  have htk : ∀ o, o ∈ (rs.take (i + 1)).map (obN f pub) ↔ o ∈ (rs.take i).map (obN f pub) \/ o = obN f pub x := fun o => by rw [zg he_x, List.map_append]; exact jQ
  refine Vs 9 rfl ?_
  refine V.callMs [] (Hn := fun y : Option Addr × Nat × (Nat -> Prop) => [(905, obE (obN f pub x) y)]) [(3, some (3, 0)), (18, some (1000, 0))] Tryz.call49 rfl (fun _ _ => rfl) (fun _ => rfl) (fun w hI => zhd 905 (qk f vd pub x v1 v2 v3 _ D D' w (Tr1 hI.k0 hf) (Tr1 hI.k0 hp))) ?_
  rintro _ ⟨ao, co, G⟩ rfl
  refine V.alloc 11 tz60 rfl rfl (fun b11 => ?_)
  refine Vs 6 rfl ?_
  refine V.call1 Tryz.call88 rfl (fun w hI => zi6 (obN f pub x) (ziF vd pub x) _ _ w (zeR (hI.at 905 rfl)) (Tr1 hI.k0 ht)) ?_
  refine Vs 7 rfl ?_
  refine V.ops1 rfl (fun w hI => R.lookupG (KeyOk.str tu9) (hI.at 900 rfl) Tryz.underlying147 tz4 rfl rfl) ?_
  refine V.eq 28 (v := .bool (decide (obN f pub x ∈ l))) rfl (by rw [hL]; by_cases h : obN f pub x ∈ l <;> simp [h]) ?_
  refine V.ops1 rfl (fun w hI => R.notU rfl (by first | exact za | rfl)) ?_
  refine Vs 2 rfl ?_
  refine V.ite rfl (fun c => ?_) (fun c => ?_)
  ·
   refine Vs 4 rfl ?_
   refine V.upd 900 (e' := MapP Value.string m900 (zf5 L ⟨(xU (obN f pub x)).toArray⟩ (.bool true))) rfl (MapP.loc) (fun _ h => h) (fun w hI => M.updateG (KeyOk.str tu9) (hI.at 900 rfl) Tryz.underlying147 rfl rfl rfl) ?_
   refine Vs 5 rfl ?_
   refine V.bs 34 [(0, _)] tR76 ts60 tz60 (by decide) rfl rfl (by kernel_rfl) (fun b34 => ?_)
   refine V.opMs [901, 905] (Hn := fun u => [(901, OwP 60 2 ROb (fun q => F q \/ G q) u (l ++ [obN f pub x]))]) (u := fun u => u) [(3, some (3, 0)), (11, some (11, 0)), (18, some (1000, 0))] rfl (fun _ => rfl) (fun _ => rfl) (fun w hI => M.apOw 901 905 34 hI rfl rfl rfl rfl tu76 Tryz.el60 rfl (by decide) rfl rfl rfl (fun D x cs h => zfP D x cs h) (by omega) (by omega)) (fun u901 => ?_)
   refine Va 8 rfl (by omega) ?_
   refine V.back (⟨i + 1, u901, fun q => F q \/ G q, zf5 L ⟨(xU (obN f pub x)).toArray⟩ (.bool true), l ++ [obN f pub x]⟩) (Sub.of rfl) (Has.of rfl) (⟨by omega, List.nodup_append.2 ⟨hn, by simp, fun a ha b hb e => c (by rw [List.mem_singleton] at hb; rw [<- hb, <- e]; exact ha)⟩, by rw [List.length_append, List.length_singleton]; omega, fun o => by rw [jQ, hmem, htk], fun o => by rw [zg2, hL]; exact zi9 o _ _⟩) (by first | omega | (dsimp only; omega)) 0 rfl rfl
  ·
   refine Va 7 rfl (by omega) ?_
   refine V.back (⟨i + 1, v, F, L, l⟩) (Sub.of rfl) (Has.of rfl) (⟨by omega, hn, by omega, fun o => by rw [htk, <- hmem]; exact ⟨.inl, fun h => h.elim id (fun h => by rw [h]; exact Decidable.not_not.1 c)⟩, hL⟩) (by first | omega | (dsimp only; omega)) 0 rfl rfl
 ·
  obtain rfl : i = rs.length := by omega
  rw [List.take_length] at hmem
  refine Vs 8 rfl ?_
  refine V.callM 901 (E := fun l' => OwP 60 2 ROb F v l') Tryz.call67 rfl (fun _ => ⟨OwP.loc, fun _ h => h⟩) (fun w hI => zg3 (k := 901) hI rfl (by omega) Tryz.call54 (fun x y u v D D' W hx hy => xN x y u v D D' W hx hy)) ?_
  rintro _ l' ⟨rfl, hperm, hpw⟩
  have hres := kI hperm hn hpw hmem
  refine Vs 9 rfl ?_
  refine V.ret1 Tryz.results51 rfl (fun w hI => ⟨_, rfl, by show SlR 2 ROb _ _ _ (zcI _); rw [<- hres]; exact (show OwH _ _ _ _ _ _ _ from hI.at 901 rfl).sl (by omega) (fun q hq => hI.own 901 0 rfl rfl q hq), hI.k0⟩)
theorem zeS (x o : Ob) (u ov : Value) (b : Nat) (D D' : Nat -> Prop) (W : World) (hx : SlR 1 zv D W u x.1) (ho : SlR 1 zv D' W ov o.1) (hB : Cells W b 0 [ov, .int .i64 o.2]) :
  Calls Tryz.prog 92 #[.agg #[u, .int .i64 x.2], .pointer (some ⟨b, 0, none⟩)] W (Ret fun r w' => r = .bool (decide (x = o)) /\ Ext W w') := by
 obtain ⟨a1, c1, rfl⟩ := hx.form
 obtain ⟨a2, c2, rfl⟩ := ho.form
 refine G.in2 Tryz.func92 rfl Tryz.ntmps92 rfl (V.inn ?_)
 refine V.frS 900 0 rfl rfl (fun h => h) hB ?_
 refine V.tag 1 900 0 rfl rfl ?_
 refine Vs 2 rfl ?_
 refine V.box 2 rfl rfl (fun b2 => ?_)
 refine Vs 7 rfl ?_
 refine V.call1 Tryz.call39 rfl (fun w hI => qz x o _ _ D D' w (Tr1 hI.k0 hx) (Tr1 hI.k0 ho)) ?_
 refine Vs 5 rfl ?_
 refine V.ret1 Tryz.results92 rfl (fun w hI => ⟨_, rfl, by rw [decide_eq_decide.2 (cmpOb_iff (x := x) (y := o))], hI.k0⟩)
theorem zg4 (l : List Ob) (o : Ob) : zf4 (fun x => decide (x = o)) l = zeP l o := by
 unfold zf4 zeP
 by_cases h : o ∈ l
 . rw [if_pos h, if_pos (List.any_eq_true.2 ⟨o, h, by simp⟩)]
 ·
  rw [if_neg h, if_neg (fun e => by
   obtain ⟨x, hx, hd⟩ := List.any_eq_true.1 e
   rw [of_decide_eq_true hd] at hx
   exact h hx)]
theorem zg5 (l : List Ob) (o : Ob) (v ov : Value) (D D' : Nat -> Prop) (W : World) (hl : SlR 2 ROb D W v l) (ho : SlR 1 zv D' W ov o.1) :
  Calls Tryz.prog 60 #[v, .agg #[ov, .int .i64 o.2]] W (Ret fun r w' => r = .int .i64 (zeP l o) /\ Ext W w') := by
 obtain ⟨a2, c2, rfl⟩ := ho.form
 refine G.in2 Tryz.func60 rfl Tryz.ntmps60 rfl (V.inn ?_)
 refine Vs 2 rfl ?_
 refine V.box 3 rfl rfl (fun b3 => ?_)
 refine Vs 7 rfl ?_
 refine V.call1 Tryz.call50 rfl (fun w hI => zel (fun x => decide (x = o)) l v D _ _ w Tryz.call92 (Tr1 hI.k0 hl) (fun x u w' hE _ hd => zeS x o u _ b3 D D' w' hd (Tr1 ((hI.k0).trans hE (fun _ _ h => h)) ho) (hE.cells (Blk.cells (hI.at 3 rfl)) (fun h => h)))) ?_
 refine Vs 4 rfl ?_
 refine V.ret1 Tryz.results60 rfl (fun w hI => ⟨_, rfl, by rw [zg4], hI.k0⟩)
theorem idxOb_neg {l : List Ob} {o : Ob} : zeP l o < 0 ↔ o ∉ l := by
 unfold zeP
 split
 . rename_i h; exact ⟨fun h' => by omega, fun h' => absurd h h'⟩
 . rename_i h; exact ⟨fun _ => h, fun _ => by omega⟩
theorem qC (f : Fl) (vd : Valid f) (hr3 : zd 3 f.vars = []) (hs2 : (zj 2 f.vars).isSome = true) (pub rs : List Int) (v1 v2 v3 pv rv : Value) (D D' D2 : Nat -> Prop) (W : World) (hlen : rs.length <= 5000) (hf : RFl D W f v1 v2 v3) (hp : SlR 1 zv D' W pv pub) (hr : SlR 1 zv D2 W rv rs) :
  Calls Tryz.prog 35 #[.agg #[v1, v2, v3], pv, rv] W (Ret fun r w' => SlR 2 ROb (fun b => W.heap.size <= b) w' r (zgt f pub rs) /\ Ext W w') := by
 obtain ⟨ap, cp, rfl⟩ := hp.form
 obtain ⟨ar, cr, rfl⟩ := hr.form
 refine G.in3 Tryz.func35 rfl Tryz.ntmps35 rfl (V.inn ?_)
 refine Vs 2 rfl ?_
 refine V.box 3 rfl rfl (fun b3 => ?_)
 refine Vs 5 rfl ?_
 refine V.bs0 11 tR76 ts60 rfl (fun b11 => ?_)
 refine Vs 11 rfl ?_
 refine V.chg 11 (e' := OwP 60 2 ROb (fun _ => False) (.slice (some ⟨b11, 0, none⟩) 0 0) []) rfl (fun w hI => ⟨⟨[], hI.at 11 rfl, fun i x h => by simp at h⟩, fun _ h => h.elim⟩) OwP.loc (fun _ h => h) (fun q hq => hq.elim id False.elim) ?_
 refine Vs 1 rfl ?_
 refine V.loopK (σ := Nat × Value × (Nat -> Prop) × List Ob) [1, 3, 12, 13] [3] [3] rfl (fun e ⟨i, v, F, l⟩ => (14, .int .i64 i) :: (7, v) :: e) (fun e ⟨i, v, F, l⟩ => (11, OwP 60 2 ROb F v l) :: e) (fun ⟨i, v, F, l⟩ => i <= rs.length /\ l.Nodup /\ l.length <= i /\ (∀ o, o ∈ l ↔ o ∈ (rs.take i).map (obN f pub))) (fun ⟨i, v, F, l⟩ => rs.length - i) ((0, .slice (some ⟨b11, 0, none⟩) 0 0, fun _ => False, [])) (Sub.of rfl) (Has.of rfl) (fun _ => rfl) (fun _ => rfl) (fun _ => rfl) (⟨Nat.zero_le _, List.Pairwise.nil, Nat.zero_le _, fun o => by simp⟩) ?_
 rintro ⟨i, v, F, l⟩ ⟨hi, hn, hli, hmem⟩
 show V _ _ _ _ _ ((14, .int .i64 i) :: (7, v) :: _) _ ((11, OwP 60 2 ROb F v l) :: _) _
 refine Vs 6 rfl ?_
 refine V.ite rfl (fun hlt => ?_) (fun hlt => ?_)
 ·
  refine Vs 6 rfl ?_
  obtain ⟨x, he_x⟩ : ∃ z_, rs[i]? = some z_ := ⟨_, List.getElem?_eq_getElem (by omega)⟩
  have hm_x := List.mem_of_getElem? he_x
  obtain ⟨b_x, o_x, c_x, ha_x, _, hc_x, hR_x⟩ := hr.at he_x
  obtain rfl := hR_x
  refine V.fr 1000 0 rfl rfl hc_x ?_
  refine V.ix 1000 tR31 ts3 rfl ha_x (by omega) (_) (rfl) rfl ?_
  have htk : ∀ o, o ∈ (rs.take (i + 1)).map (obN f pub) ↔ o ∈ (rs.take i).map (obN f pub) \/ o = obN f pub x := fun o => by rw [zg he_x, List.map_append]; exact jQ
  refine Vs 9 rfl ?_
  refine V.callMs [] (Hn := fun y : Option Addr × Nat × (Nat -> Prop) => [(905, obE (obN f pub x) y)]) [(3, some (3, 0)), (16, some (1000, 0))] Tryz.call40 rfl (fun _ _ => rfl) (fun _ => rfl) (fun w hI => zhd 905 (zbP f vd hr3 hs2 pub x v1 v2 v3 _ D D' w (Tr1 hI.k0 hf) (Tr1 hI.k0 hp))) ?_
  rintro _ ⟨ao, co, G⟩ rfl
  refine V.alloc 10 tz60 rfl rfl (fun b10 => ?_)
  refine Vs 7 rfl ?_
  refine V.call1 Tryz.call60 rfl (fun w hI => zg5 l (obN f pub x) v _ _ G w ((show OwH _ _ _ _ _ _ _ from hI.at 11 rfl).sl (by omega) (fun q hq => hq)) (zeR (hI.at 905 rfl))) ?_
  refine Vs 3 rfl ?_
  refine V.ite rfl (fun c => ?_) (fun c => ?_)
  ·
   have c := idxOb_neg.1 c
   refine Vs 3 rfl ?_
   refine V.bs 28 [(0, _)] tR76 ts60 tz60 (by decide) rfl rfl (by kernel_rfl) (fun b28 => ?_)
   refine V.opMs [11, 905] (Hn := fun u => [(11, OwP 60 2 ROb (fun q => F q \/ G q) u (l ++ [obN f pub x]))]) (u := fun u => u) [(3, some (3, 0)), (10, some (10, 0)), (16, some (1000, 0))] rfl (fun _ => rfl) (fun _ => rfl) (fun w hI => M.apOw 11 905 28 hI rfl rfl rfl rfl tu76 Tryz.el60 rfl (by decide) rfl rfl rfl (fun D x cs h => zfP D x cs h) (by omega) (by omega)) (fun u11 => ?_)
   refine Va 8 rfl (by omega) ?_
   refine V.back (⟨i + 1, u11, fun q => F q \/ G q, l ++ [obN f pub x]⟩) (Sub.of rfl) (Has.of rfl) (⟨by omega, List.nodup_append.2 ⟨hn, by simp, fun a ha b hb e => c (by rw [List.mem_singleton] at hb; rw [<- hb, <- e]; exact ha)⟩, by rw [List.length_append, List.length_singleton]; omega, fun o => by rw [jQ, hmem, htk]⟩) (by first | omega | (dsimp only; omega)) 0 rfl rfl
  ·
   have c := Decidable.not_not.1 (fun h => c (idxOb_neg.2 h))
   refine Va 7 rfl (by omega) ?_
   refine V.back (⟨i + 1, v, F, l⟩) (Sub.of rfl) (Has.of rfl) (⟨by omega, hn, by omega, fun o => by rw [htk, <- hmem]; exact ⟨.inl, fun h => h.elim id (fun h => by rw [h]; exact c)⟩⟩) (by first | omega | (dsimp only; omega)) 0 rfl rfl
 ·
  obtain rfl : i = rs.length := by omega
  rw [List.take_length] at hmem
  refine Vs 8 rfl ?_
  refine V.callM 11 (E := fun l' => OwP 60 2 ROb F v l') Tryz.call67 rfl (fun _ => ⟨OwP.loc, fun _ h => h⟩) (fun w hI => zg3 (k := 11) hI rfl (by omega) Tryz.call39 (fun x y u v D D' W hx hy => qz x y u v D D' W hx hy)) ?_
  rintro _ l' ⟨rfl, hperm, hpw⟩
  have hres := kI hperm hn hpw hmem
  refine Vs 9 rfl ?_
  refine V.ret1 Tryz.results35 rfl (fun w hI => ⟨_, rfl, by show SlR 2 ROb _ _ _ (zcI _); rw [<- hres]; exact (show OwH _ _ _ _ _ _ _ from hI.at 11 rfl).sl (by omega) (fun q hq => hI.own 11 0 rfl rfl q hq), hI.k0⟩)
theorem zg6 {α : Type} {l : List α} {k : Nat} {x y : α} (hx : l[k]? = some x) : y ∈ l.take (k + 1) ↔ y ∈ l.take k \/ y = x := by
 rw [List.take_add_one, hx]
 simp
theorem zg7 (l : List Int) (x : Int) (v : Value) (D : Nat -> Prop) (W : World) (hv : SlR 1 zv D W v l) : Calls Tryz.prog 56 #[v, .int .i64 x] W (Ret fun r w' => (∃ i : Int, r = .int .i64 i /\ (0 <= i ↔ x ∈ l)) /\ Ext W w') := by
 obtain ⟨av, cv, rfl⟩ := hv.form
 have hmx := hv.max
 refine G.in2 Tryz.func56 rfl Tryz.ntmps56 rfl (V.inn ?_)
 refine Vs 14 rfl ?_
 refine V.loopK (σ := Nat) [0, 1, 7] [] [] rfl (fun e k => (8, .int .i64 k) :: e) (fun e k => e) (fun k => k <= l.length /\ x ∉ l.take k) (fun k => l.length - k) (0) (Sub.of rfl) (Has.of rfl) (fun _ => rfl) (fun _ => rfl) (fun _ => rfl) (⟨Nat.zero_le _, by simp⟩) ?_
 rintro k ⟨hk, hn⟩
 refine Vs 6 rfl ?_
 refine V.ite rfl (fun hlt => ?_) (fun hlt => ?_)
 ·
  refine Vs 15 rfl ?_
  obtain ⟨y, he_y⟩ : ∃ z_, l[k]? = some z_ := ⟨_, List.getElem?_eq_getElem (by omega)⟩
  have hm_y := List.mem_of_getElem? he_y
  obtain ⟨b_y, o_y, c_y, ha_y, _, hc_y, hR_y⟩ := hv.at he_y
  obtain rfl := hR_y
  refine V.fr 1000 0 rfl rfl hc_y ?_
  refine V.ix 1000 tR31 ts3 rfl ha_y (by omega) (_) (rfl) rfl ?_
  refine Vs 4 rfl ?_
  refine V.ite rfl (fun he => ?_) (fun he => ?_)
  ·
   refine Vs 12 rfl ?_
   refine V.ret1 Tryz.results56 rfl (fun w hI => ⟨_, rfl, ⟨_, rfl, by rw [he]; exact ⟨fun _ => hm_y, fun _ => by omega⟩⟩, hI.k0⟩)
  ·
   refine Va 7 rfl (by omega) ?_
   refine V.back (k + 1) (Sub.of rfl) (Has.of rfl) (⟨by omega, fun h => ((zg6 he_y).1 h).elim hn he⟩) (by first | omega | (dsimp only; omega)) 0 rfl rfl
 ·
  have : k = l.length := by omega
  subst this
  rw [List.take_length] at hn
  refine Vs 11 rfl ?_
  refine V.ret1 Tryz.results56 rfl (fun w hI => ⟨_, rfl, ⟨_, rfl, ⟨fun h => by omega, fun h => absurd h hn⟩⟩, hI.k0⟩)
theorem zcW (l : List Int) (x : Int) (v : Value) (D : Nat -> Prop) (W : World) (hv : SlR 1 zv D W v l) : Calls Tryz.prog 25 #[v, .int .i64 x] W (Ret fun r w' => r = .bool (decide (x ∈ l)) /\ Ext W w') := by
 refine G.in2 Tryz.func25 rfl Tryz.ntmps25 rfl (V.inn ?_)
 refine Vs 9 rfl ?_
 refine V.call2 Tryz.call56 rfl (fun w hI => zg7 l x v D w (Tr1 hI.k0 hv)) ?_
 rintro r w1 w2 hI1 hk12 ⟨i, rfl, hi⟩ hlow
 refine Vs 5 rfl ?_
 refine V.ret1 Tryz.results25 rfl (fun w hI => ⟨_, rfl, by simp [hi], hI.k1⟩)
theorem jR (xs ys : List Int) (u v : Value) (D D' : Nat -> Prop) (w : World) (hx : SlR 1 zv D w u xs) (hy : SlR 1 zv D' w v ys) : Calls Tryz.prog 18 #[u, v] w (Ret fun r w' => r = .bool (decide (xs = ys)) /\ Ext w w') := by
 obtain ⟨ao, cx, rfl, hxc, hxm, hxe⟩ := hx
 obtain ⟨bo, cy, rfl, hyc, hym, hye⟩ := hy
 refine G.in2 Tryz.func18 rfl Tryz.ntmps18 rfl (Gs 15 rfl (G.ite0 rfl (fun hne => ?_) (fun heq => ?_)))
 ·
  refine Gs 7 rfl ?_
  have : ¬ xs = ys := fun h => hne (by rw [h])
  refine G.ret1 Tryz.results18 rfl ⟨_, rfl, by rw [decide_eq_false this], Keep.refl _ _⟩
 ·
  have hl : xs.length = ys.length := by omega
  refine Gs 11 rfl (G.loop (σ := Nat) (fun k => [(0, .slice ao xs.length cx), (1, .slice bo ys.length cy), (11, .slice ao xs.length cx), (12, .int .i64 xs.length), (13, .int .i64 k)]) (fun k => fun w' => k <= xs.length /\ xs.take k = ys.take k /\ Ext w w') (fun k => xs.length - k) (0) (Sub.of rfl) (⟨Nat.zero_le _, rfl, Keep.refl _ _⟩) ?_)
  rintro k w1 ⟨hkl, htk, hk1⟩
  refine Gs 6 rfl (G.ite0 rfl (fun hlt => ?_) (fun hge => ?_))
  ·
   obtain ⟨x, hx⟩ : ∃ x, xs[k]? = some x := ⟨_, List.getElem?_eq_getElem (by omega)⟩
   obtain ⟨y, hy⟩ : ∃ y, ys[k]? = some y := ⟨_, List.getElem?_eq_getElem (by omega)⟩
   obtain ⟨b1, o1, c1, hao, _, hcl1, hcs1, rfl⟩ := hxe k x hx
   obtain ⟨b2, o2, c2, hbo, _, hcl2, hcs2, rfl⟩ := hye k y hy
   have hcs1' := hk1.cells hcs1 (fun h => h)
   have hcs2' := hk1.cells hcs2 (fun h => h)
   refine Gs 11 rfl (Qt (by kernel_rfl) (Gs 2 rfl (G.opQ rfl rfl (fun w1 hw1 => R.indexS tR31 ts3 rfl rfl hao (by omega)) (G.ldQ rfl tg3 (fun w1 hw1 => (hw1.cell (hcs1' 0 _ rfl) (fun h => h))) (Gs 2 rfl (G.opQ rfl rfl (fun w1 hw1 => R.indexS tR31 ts3 rfl rfl hbo (by omega)) (G.ldQ rfl tg3 (fun w1 hw1 => (hw1.cell (hcs2' 0 _ rfl) (fun h => h))) (Gs 1 rfl (G.nilQ (fun w2 hk2 => ?_))))))))))
   refine Gs 1 rfl (G.ite0 rfl (fun hd => ?_) (fun he => ?_))
   ·
    have : ¬ xs = ys := by
     rintro rfl
     rw [hx] at hy
     exact hd (Option.some.inj hy)
    refine Gs 11 rfl (G.ret1 Tryz.results18 rfl ⟨_, rfl, by rw [decide_eq_false this], hk1.ext hk2⟩)
   ·
    have hxy : x = y := Decidable.not_not.1 he
    refine Ga 7 rfl (by omega) (G.back (k + 1) (Sub.of rfl) (⟨by omega, ?_, hk1.ext hk2⟩) (by first | omega | (dsimp only; omega)))
    obtain ⟨h1, h2⟩ := List.getElem?_eq_some_iff.1 hx
    obtain ⟨h3, h4⟩ := List.getElem?_eq_some_iff.1 hy
    rw [List.take_succ_eq_append_getElem h1, List.take_succ_eq_append_getElem h3, htk, h2, h4, hxy]
  ·
   have hkk : k = xs.length := by omega
   have : xs = ys := by
    rw [hkk, List.take_length] at htk
    rw [hl, List.take_length] at htk
    exact htk
   refine Gs 11 rfl (G.ret1 Tryz.results18 rfl ⟨_, rfl, by rw [decide_eq_true this], hk1⟩)
theorem ziG (f : Fl) (a b c : Int) (v1 v2 v3 : Value) (D : Nat -> Prop) (w : World) (hf : RFl D w f v1 v2 v3) :
  Calls Tryz.prog 63 #[.agg #[v1, v2, v3], .int .i64 a, .int .i64 b, .int .i64 c] w (Ret fun r w' => (∃ q : Bool, r = .bool q /\ (q = true -> ((f.vars.length : Int) <= 10 /\ (f.hatches.length : Int) <= 10 /\ ((zy f.body + zH f.hatches : Nat) : Int) <= 80) /\ zQ f = 0)) /\ Ext w w') := by
 obtain ⟨a1, n1, rfl⟩ := hf.vars.form
 obtain ⟨a2, n2, rfl⟩ := hf.hatches.form
 obtain ⟨a3, n3, rfl⟩ := hf.body.form
 have hE := Keep.refl (fun _ => False) w
 refine G.in4 Tryz.func63 rfl Tryz.ntmps63 rfl (Gs 2 rfl (G.mem rfl rfl (M.box rfl rfl) ?_))
 rintro _ w_bx ⟨bx, rfl, hg_bx, hs_bx, hB_bx, hk_bx⟩
 have hge_bx : _ <= bx := Nat.le_trans hE.size (Nat.le_of_eq hg_bx.symm)
 obtain ⟨hE, hf⟩ := Tr2 hk_bx hE hf
 refine Gs 6 rfl (G.ldK rfl tg56 ts56 hB_bx.cells rfl (G.call rfl Tryz.call62 (zdY f 10 80 _ _ _ D _ hf (by decide) (by decide)) ?_))
 rintro _ wz1 ⟨rfl, hz1⟩
 obtain ⟨hE, hf, hB_bx⟩ := Tr3 hz1 hE hf hB_bx
 refine G.ops1 rfl rfl (R.notU rfl (by first | exact za | rfl)) (Gs 1 rfl ?_)
 by_cases hfew : (f.vars.length : Int) <= 10 /\ (f.hatches.length : Int) <= 10 /\ ((zy f.body + zH f.hatches : Nat) : Int) <= 80
 ·
  have h1 := kr f.body
  have hsz : zl f.body + zH f.hatches <= 1024 := by omega
  have hbk : zy f.body <= 1000000 := by omega
  refine G.sp 21 rfl (fun q1 => ?_) (fun q1 => ?_)
  . exact absurd hfew q1
  ·
   refine G.ldK rfl tg56 ts56 hB_bx.cells rfl (G.call rfl Tryz.call42 (qg f _ _ _ D _ hf hsz hbk) ?_)
   rintro _ wz2 ⟨rfl, hz2⟩
   obtain ⟨hE, hf, hB_bx⟩ := Tr3 hz2 hE hf hB_bx
   refine Gs 4 rfl (G.ite rfl (fun c0 => ?_) (fun c0 => ?_))
   . refine Gs 7 rfl (G.ret1 tr63 rfl ⟨_, rfl, ⟨_, rfl, fun h => by cases h⟩, hE⟩)
   ·
    have c0' : zQ f = 0 := by omega
    have hst := (yh c0').2.2.2.1
    refine Gs 5 rfl (G.ld rfl tg52 (hB_bx.cells 0 _ rfl) (G.call rfl tc66 (qj f.vars 1 _ D _ hf.vars (by omega)) ?_))
    rintro _ wz3 ⟨⟨sa, sb, rfl⟩, hz3⟩
    obtain ⟨hE, hf, hB_bx⟩ := Tr3 hz3 hE hf hB_bx
    refine Gs 10 rfl (G.ld rfl tg52 (hB_bx.cells 0 _ rfl) (G.call rfl tc66 (qj f.vars 2 _ D _ hf.vars (by omega)) ?_))
    rintro _ wz4 ⟨⟨ta, tb, rfl⟩, hz4⟩
    obtain ⟨hE, hf, hB_bx⟩ := Tr3 hz4 hE hf hB_bx
    refine Gs 10 rfl (G.ld rfl tg52 (hB_bx.cells 0 _ rfl) (G.call rfl tc66 (qj f.vars 3 _ D _ hf.vars (by omega)) ?_))
    rintro _ wz5 ⟨⟨ua, ub, rfl⟩, hz5⟩
    obtain ⟨hE, hf, hB_bx⟩ := Tr3 hz5 hE hf hB_bx
    refine Gs 10 rfl (G.ld rfl tg54 (hB_bx.cells 2 _ rfl) (G.call rfl Tryz.call82 (kD f.vars f.hatches.length f.body _ D _ true hst hf.body hbk) ?_))
    rintro _ wz6 ⟨rfl, hz6⟩
    obtain ⟨hE, hf, hB_bx⟩ := Tr3 hz6 hE hf hB_bx
    refine Gs 15 rfl (G.sp 54 rfl (fun g1 => ?_) (fun g1 => ?_))
    ·
     refine Gs 5 rfl (G.sp 59 rfl (fun g2 => ?_) (fun g2 => ?_))
     ·
      refine Gs 5 rfl (G.sp 64 rfl (fun g3 => ?_) (fun g3 => ?_))
      . refine Gs 7 rfl (G.ret1 tr63 rfl ⟨_, rfl, ⟨_, rfl, fun _ => ⟨hfew, c0'⟩⟩, hE⟩)
      . refine Gs 7 rfl (G.ret1 tr63 rfl ⟨_, rfl, ⟨_, rfl, fun _ => ⟨hfew, c0'⟩⟩, hE⟩)
     . refine Gs 12 rfl (G.ret1 tr63 rfl ⟨_, rfl, ⟨_, rfl, fun _ => ⟨hfew, c0'⟩⟩, hE⟩)
    . refine Gs 17 rfl (G.ret1 tr63 rfl ⟨_, rfl, ⟨_, rfl, fun _ => ⟨hfew, c0'⟩⟩, hE⟩)
 ·
  refine G.sp 21 rfl (fun q1 => ?_) (fun q1 => ?_)
  . refine Gs 14 rfl (G.ret1 tr63 rfl ⟨_, rfl, ⟨_, rfl, fun h => by cases h⟩, hE⟩)
  . exact absurd (Decidable.not_not.1 q1) hfew
structure SzOk (f : Fl) : Prop where
 size : zl f.body + zH f.hatches <= 1024
 bulk : zy f.body <= 1000000
theorem zhe (f : Fl) (v1 v2 v3 : Value) (D : Nat -> Prop) (W : World) (hf : RFl D W f v1 v2 v3) : Calls Tryz.prog 30 #[.agg #[v1, v2, v3]] W (Ret fun r w' => (∃ q : Bool, r = .bool q /\ (q = true -> SzOk f)) /\ Ext W w') := by
 obtain ⟨a1, n1, h1⟩ := hf.vars.form
 obtain ⟨a2, n2, h2⟩ := hf.hatches.form
 obtain ⟨a3, n3, h3⟩ := hf.body.form
 subst h1 h2 h3
 refine G.in1 Tryz.func30 rfl Tryz.ntmps30 rfl (V.inn ?_)
 refine Vs 2 rfl ?_
 refine V.box 1 rfl rfl (fun b1 => ?_)
 refine Vs 7 rfl ?_
 refine V.call1 Tryz.call62 rfl (fun w hI => zdY f 10 80 _ _ _ D w (Tr1 hI.k0 hf) (by decide) (by decide)) ?_
 refine V.ops1 rfl (fun w hI => R.notU rfl (by first | exact za | rfl)) ?_
 refine Vs 2 rfl ?_
 refine V.ite rfl (fun q1 => ?_) (fun q1 => ?_)
 ·
  refine Vs 7 rfl ?_
  refine V.ret1 Tryz.results30 rfl (fun w hI => ⟨_, rfl, ⟨_, rfl, fun h => by cases h⟩, hI.k0⟩)
 ·
  have h1 := kr f.body
  have hz : SzOk f := ⟨by omega, by omega⟩
  refine Vs 5 rfl ?_
  refine V.call1 Tryz.call42 rfl (fun w hI => qg f _ _ _ D w (Tr1 hI.k0 hf) hz.size hz.bulk) ?_
  refine Vs 2 rfl ?_
  refine V.sp 9 rfl (fun c0 => ?_) (fun c0 => ?_)
  ·
   refine Vs 7 rfl ?_
   refine V.ret1 Tryz.results30 rfl (fun w hI => ⟨_, rfl, ⟨_, rfl, fun _ => hz⟩, hI.k0⟩)
  ·
   refine Vs 1 rfl ?_
   refine V.call2 Tryz.call63 rfl (fun w hI => ziG f 20 4096 256 _ _ _ D w (Tr1 hI.k0 hf)) ?_
   rintro r w1 w2 hI1 hk12 ⟨q, rfl, _⟩ hlow
   refine Vs 5 rfl ?_
   refine V.ret1 Tryz.results30 rfl (fun w hI => ⟨_, rfl, ⟨_, rfl, fun _ => hz⟩, hI.k1⟩)
theorem zhf (a : Ac) (ps : List Fl) (m b s : Int) (u1 u2 pv : Value) (D D' : Nat -> Prop) (W : World) (ha : RAc D W a u1 u2) (hps : SlR 3 RPg D' W pv ps) : Calls Tryz.prog 19 #[.agg #[.int .i64 m, .int .i64 b, .int .i64 s, u1, u2], pv] W (Ret fun r w' => (∃ q : Bool, r = .bool q /\ (q = true -> ps.length <= 4 /\ a.left.length <= 20 /\ a.asked.length <= 8 /\ ∀ f ∈ ps, SzOk f)) /\ Ext W w') := by
 obtain ⟨a1, n1, rfl⟩ := ha.left.form
 obtain ⟨a2, n2, rfl⟩ := ha.asked.form
 obtain ⟨a3, n3, rfl⟩ := hps.form
 have hm1 := hps.max
 refine G.in2 Tryz.func19 rfl Tryz.ntmps19 rfl (V.inn ?_)
 refine Vs 2 rfl ?_
 refine V.box 2 rfl rfl (fun b2 => ?_)
 refine Vs 5 rfl ?_
 refine V.cutK (σ := Unit) [1] [] [] rfl (fun e u => (21, .bool (decide (4 < ps.length \/ 20 < a.left.length \/ 8 < a.asked.length))) :: e) (fun e u => e) (fun u => True) (fun _ => rfl) (fun _ => rfl) ?_ ?_
 ·
  refine Vs 5 rfl ?_
  refine V.sp 10 rfl (fun k1_ => ?_) (fun k1_ => ?_)
  ·
   refine Vs 12 rfl ?_
   refine V.meet (()) (Sub.cons (by first | exact yo (by omega) | exact yp (by omega) | exact yq (by omega)) (Sub.of rfl)) (Has.of rfl) (trivial) 0 rfl rfl
  ·
   refine Vs 6 rfl ?_
   refine V.sp 16 rfl (fun k2_ => ?_) (fun k2_ => ?_)
   ·
    refine Vs 6 rfl ?_
    refine V.meet (()) (Sub.cons (by first | exact yo (by omega) | exact yp (by omega) | exact yq (by omega)) (Sub.of rfl)) (Has.of rfl) (trivial) 0 rfl rfl
   ·
    refine Vs 6 rfl ?_
    refine V.meet (()) (Sub.cons (by first | exact yo (by omega) | exact yp (by omega) | exact yq (by omega)) (Sub.of rfl)) (Has.of rfl) (trivial) 0 rfl rfl
 rintro u _
 refine Vs 1 rfl ?_
 refine V.ite rfl (fun h0 => ?_) (fun h0 => ?_)
 ·
  refine Vs 7 rfl ?_
  refine V.ret1 Tryz.results19 rfl (fun w hI => ⟨_, rfl, ⟨_, rfl, fun h => by cases h⟩, hI.k0⟩)
 ·
  refine Vs 11 rfl ?_
  refine V.loopK (σ := Nat) [22, 23] [] [] rfl (fun e i => (24, .int .i64 i) :: e) (fun e i => e) (fun i => i <= ps.length /\ ∀ f ∈ ps.take i, SzOk f) (fun i => ps.length - i) (0) (Sub.of rfl) (Has.of rfl) (fun _ => rfl) (fun _ => rfl) (fun _ => rfl) (⟨Nat.zero_le _, fun f h => by simp at h⟩) ?_
  rintro i ⟨hi, hall⟩
  refine Vs 6 rfl ?_
  refine V.ite rfl (fun hlt => ?_) (fun hlt => ?_)
  ·
   refine Vs 6 rfl ?_
   obtain ⟨f, he_f⟩ : ∃ z_, ps[i]? = some z_ := ⟨_, List.getElem?_eq_getElem (by omega)⟩
   have hm_f := List.mem_of_getElem? he_f
   obtain ⟨b_f, o_f, c_f, ha_f, _, hc_f, hR_f⟩ := hps.at he_f
   obtain ⟨v1_f, v2_f, v3_f, rfl, hf_f⟩ := hR_f
   obtain ⟨a1_f, n1_f, rfl⟩ := hf_f.vars.form
   obtain ⟨a2_f, n2_f, rfl⟩ := hf_f.hatches.form
   obtain ⟨a3_f, n3_f, rfl⟩ := hf_f.body.form
   refine V.fr 1000 0 rfl rfl hc_f ?_
   refine V.ix 1000 tR23 ts56 rfl ha_f (by omega) (_) (rfl) rfl ?_
   refine Vs 1 rfl ?_
   refine V.alloc 6 tz56 rfl rfl (fun b6 => ?_)
   refine Vs 6 rfl ?_
   refine V.call2 Tryz.call30 rfl (fun w hI => zhe f _ _ _ D' w (Tr1 hI.k0 hf_f)) ?_
   rintro r w1 w2 hI1 hk12 ⟨q, rfl, hq⟩ hlow
   refine V.ops1 rfl (fun w hI => R.notU rfl (by first | exact za | rfl)) ?_
   refine Vs 2 rfl ?_
   refine V.bool rfl (fun c => ?_) (fun c => ?_)
   ·
    refine Vs 11 rfl ?_
    refine V.ret1 Tryz.results19 rfl (fun w hI => ⟨_, rfl, ⟨_, rfl, fun h => by cases h⟩, hI.k1⟩)
   ·
    refine Va 7 rfl (by omega) ?_
    refine V.back (i + 1) (Sub.of rfl) (Has.of rfl) (⟨by omega, fun g hg => by rw [zg he_f] at hg; rcases List.mem_append.1 hg with hg | hg; (· exact hall g hg); (· rw [List.mem_singleton] at hg; rw [hg]; exact hq (by simpa using c))⟩) (by first | omega | (dsimp only; omega)) 1 rfl rfl
  ·
   obtain rfl : i = ps.length := by omega
   rw [List.take_length] at hall
   refine Vs 11 rfl ?_
   refine V.ret1 Tryz.results19 rfl (fun w hI => ⟨_, rfl, ⟨_, rfl, fun _ => ⟨by omega, by omega, by omega, hall⟩⟩, hI.k0⟩)
theorem zg8 (f : Fl) (hlen : f.vars.length <= 1000000) (v1 v2 v3 : Value) (D : Nat -> Prop) (W : World) (hf : RFl D W f v1 v2 v3) : Calls Tryz.prog 43 #[.agg #[v1, v2, v3]] W (Ret fun r w' => r = .bool (decide (zd 3 f.vars ≠ [])) /\ Ext W w') := by
 refine G.in1 Tryz.func43 rfl Tryz.ntmps43 rfl (V.inn ?_)
 refine Vs 2 rfl ?_
 refine V.box 1 rfl rfl (fun b1 => ?_)
 refine Vs 7 rfl ?_
 refine V.call2 tc72 rfl (fun w hI => jM f.vars 3 v1 D w (Tr1 hI.k0 hf.vars) hlen) ?_
 rintro l w1 w2 hI1 hk12 hos hlow
 obtain ⟨al, cl, rfl⟩ := hos.form
 refine Vs 6 rfl ?_
 refine V.ret1 Tryz.results43 rfl (fun w hI => ⟨_, rfl, by rw [decide_eq_decide.2 (show (0 : Int) < ((zd 3 f.vars).length : Int) ↔ zd 3 f.vars ≠ [] by rw [<- List.length_pos_iff]; omega)], hI.k1⟩)
theorem ziH {f : Fl} (hz : SzOk f) (h : zQ f = 0) : Valid f := ⟨h, hz.size, hz.bulk⟩
theorem zeT (f : Fl) (hz : SzOk f) (pub : List Int) (v1 v2 v3 pv : Value) (D D' : Nat -> Prop) (W : World) (hf : RFl D W f v1 v2 v3) (hp : SlR 1 zv D' W pv pub) : Calls Tryz.prog 32 #[.agg #[v1, v2, v3], pv] W (Ret fun r w' => r = .int .i64 (kO f pub) /\ Ext W w') := by
 refine G.in2 Tryz.func32 rfl Tryz.ntmps32 rfl (V.inn ?_)
 refine Vs 2 rfl ?_
 refine V.box 2 rfl rfl (fun b2 => ?_)
 refine Vs 7 rfl ?_
 refine V.call1 Tryz.call42 rfl (fun w hI => qg f v1 v2 v3 D w (Tr1 hI.k0 hf) hz.size hz.bulk) ?_
 refine Vs 9 rfl ?_
 refine V.ite rfl (fun c0 => ?_) (fun c0 => ?_)
 ·
  have ha : zbO f = zQ f := if_pos c0
  refine Vs 8 rfl ?_
  refine V.ret1 Tryz.results32 rfl (fun w hI => ⟨_, rfl, by unfold kO; rw [ha, if_pos c0], hI.k0⟩)
 ·
  have c0 := Decidable.not_not.1 c0
  have vd := ziH hz c0
  have hl := vd.lens
  refine Vs 6 rfl ?_
  refine V.call1 Tryz.call43 rfl (fun w hI => zg8 f (by omega) v1 v2 v3 D w (Tr1 hI.k0 hf)) ?_
  refine Vs 2 rfl ?_
  refine V.ite rfl (fun c1 => ?_) (fun c1 => ?_)
  ·
   have ha : zbO f = 14 := by unfold zbO; rw [if_neg (not_not_intro c0), if_pos c1]
   refine Vs 7 rfl ?_
   refine V.ret1 Tryz.results32 rfl (fun w hI => ⟨_, rfl, by unfold kO; rw [ha]; rfl, hI.k0⟩)
  ·
   have ha : zbO f = 0 := by unfold zbO; rw [if_neg (not_not_intro c0), if_neg c1]
   refine Vs 7 rfl ?_
   refine V.call1 Tryz.call38 rfl (fun w hI => zeO f.vars 2 pub v1 pv D D' w (by decide) vd.good (by omega) (Tr1 hI.k0 hf.vars) (Tr1 hI.k0 hp)) ?_
   refine Vs 14 rfl ?_
   refine V.ret1 Tryz.results32 rfl (fun w hI => ⟨_, rfl, by unfold kO; rw [ha]; rfl, hI.k0⟩)
theorem zb9 (f : Fl) (vd : Valid f) (v1 v2 v3 : Value) (D : Nat -> Prop) (W : World) (hf : RFl D W f v1 v2 v3) : Calls Tryz.prog 33 #[.agg #[v1, v2, v3]] W (Ret fun r w' => r = .int .i64 (spN f) /\ Ext W w') := by
 have hl := vd.lens
 have hsp : (zj 1 f.vars).getD 0 = (spN f : Int) := by
  unfold spN
  cases h : zj 1 f.vars with
  | none => rfl
  | some m =>
   have := zT 1 f.vars 1 m vd.good (by omega) (by omega) h
   simp only [Option.getD_some]
   omega
 refine G.in1 Tryz.func33 rfl Tryz.ntmps33 rfl (V.inn ?_)
 refine Vs 2 rfl ?_
 refine V.box 1 rfl rfl (fun b1 => ?_)
 refine Vs 7 rfl ?_
 refine V.call1 tc66 rfl (fun w hI => jm f.vars 1 v1 D w (by decide) vd.good (by omega) (Tr1 hI.k0 hf.vars)) ?_
 refine Vs 14 rfl ?_
 refine V.ret1 Tryz.results33 rfl (fun w hI => ⟨_, rfl, by rw [hsp], hI.k0⟩)
theorem zhg (f : Fl) (vd : Valid f) (v1 v2 v3 : Value) (D : Nat -> Prop) (W : World) (hf : RFl D W f v1 v2 v3) : Calls Tryz.prog 48 #[.agg #[v1, v2, v3]] W (Ret fun r w' => SlR 1 zv (fun b => W.heap.size <= b) w' r (qY f) /\ Ext W w') := by
 have hsp := zcV vd
 have hla : (qY f).length = spN f := by simp [qY]
 refine G.in1 Tryz.func48 rfl Tryz.ntmps48 rfl (V.inn ?_)
 refine Vs 2 rfl ?_
 refine V.box 1 rfl rfl (fun b1 => ?_)
 refine Vs 5 rfl ?_
 refine V.bs0 5 tR31 ts3 rfl (fun b5 => ?_)
 refine Vs 7 rfl ?_
 refine V.call1 Tryz.call33 rfl (fun w hI => zb9 f vd v1 v2 v3 D w (Tr1 hI.k0 hf)) ?_
 refine Vs 4 rfl ?_
 refine V.loopK (σ := Nat × Value) [7] [] [] rfl (fun e ⟨i, v⟩ => (8, .int .i64 i) :: (3, v) :: e) (fun e ⟨i, v⟩ => (5, .row 3 1 v i (((qY f).take i).map ze)) :: e) (fun ⟨i, v⟩ => i <= spN f) (fun ⟨i, v⟩ => spN f - i) ((0, .slice (some ⟨b5, 0, none⟩) 0 0)) (Sub.of rfl) (Has.of rfl) (fun _ => rfl) (fun _ => rfl) (fun _ => rfl) (Nat.zero_le _) ?_
 rintro ⟨i, v⟩ hi
 show V _ _ _ _ _ ((8, .int .i64 i) :: (3, v) :: _) _ ((5, .row 3 1 v i (((qY f).take i).map ze)) :: _) _
 refine Vs 6 rfl ?_
 refine V.ite rfl (fun hlt => ?_) (fun hlt => ?_)
 ·
  have zm : (qY f)[i]? = some (i : Int) := by simp [qY, List.getElem?_range (show i < spN f by omega)]
  refine Vs 13 rfl ?_
  refine V.bs 13 [(0, _)] tR31 ts3 tz3 (by decide) rfl rfl (by kernel_rfl) (fun b13 => ?_)
  refine V.ap 5 13 tu31 Tryz.el3 rfl (by decide) rfl rfl (by omega) (by omega) (fun u5 => ?_)
  refine Va 8 rfl (by omega) ?_
  refine V.heq 5 rfl (e' := .row 3 1 u5 (i + 1) (((qY f).take (i + 1)).map ze)) (by rw [List.take_add_one, zm, List.map_append]; rfl) ?_
  refine V.back (⟨i + 1, u5⟩) (Sub.of rfl) (Has.of rfl) (by omega) (by first | omega | (dsimp only; omega)) 0 rfl rfl
 ·
  obtain rfl : i = spN f := by omega
  refine V.heq 5 rfl (e' := .row 3 1 v (qY f).length ((qY f).map ze)) (by rw [<- hla, List.take_length]) ?_
  refine Vs 12 rfl ?_
  refine V.ret1 Tryz.results48 rfl (fun w hI => ⟨_, rfl, SlR.ofRow1 ze (fun _ _ => rfl) (hI.at 5 rfl) (fun b hb => hI.own 5 0 rfl rfl b hb), hI.k0⟩)
theorem zdE (x : Vr) (w : World) : Calls Tryz.prog 128 #[.agg #[.string x.name, .int .i64 x.kind, .int .i64 x.low, .int .i64 x.high, .int .i64 x.init]] w (Ret fun r w' => r = .bool (decide (x.kind = 3)) /\ Ext w w') := by
 refine G.in1 Tryz.func128 rfl Tryz.ntmps128 rfl (V.inn ?_)
 refine Vs 2 rfl ?_
 refine V.box 1 rfl rfl (fun b1 => ?_)
 refine Vs 12 rfl ?_
 refine V.ret1 Tryz.results128 rfl (fun w hI => ⟨_, rfl, rfl, hI.k0⟩)
theorem zcX (l : List Vr) (v : Value) (D : Nat -> Prop) (W : World) (hl : SlR 5 RVr D W v l) : Calls Tryz.prog 162 #[v, .func (.func 128) #[] #[]] W (Ret fun r w' => r = .int .i64 (zf4 (fun x : Vr => decide (x.kind = 3)) l) /\ Ext W w') := by
 obtain ⟨av, cv, rfl⟩ := hl.form
 have hmx := hl.max
 refine G.in2 Tryz.func162 rfl Tryz.ntmps162 rfl (V.inn ?_)
 refine Vs 14 rfl ?_
 refine V.loopK (σ := Nat) [0, 1, 7] [] [] rfl (fun e i => (8, .int .i64 i) :: e) (fun e i => e) (fun i => i <= l.length /\ (l.take i).any (fun x : Vr => decide (x.kind = 3)) = false) (fun i => l.length - i) (0) (Sub.of rfl) (Has.of rfl) (fun _ => rfl) (fun _ => rfl) (fun _ => rfl) (⟨Nat.zero_le _, by simp⟩) ?_
 rintro i ⟨hi, hno⟩
 refine Vs 6 rfl ?_
 refine V.ite rfl (fun hlt => ?_) (fun hlt => ?_)
 ·
  refine Vs 15 rfl ?_
  obtain ⟨x, he_x⟩ : ∃ z_, l[i]? = some z_ := ⟨_, List.getElem?_eq_getElem (by omega)⟩
  have hm_x := List.mem_of_getElem? he_x
  obtain ⟨b_x, o_x, c_x, ha_x, _, hc_x, hR_x⟩ := hl.at he_x
  obtain rfl := hR_x
  refine V.fr 1000 0 rfl rfl hc_x ?_
  refine V.ix 1000 tR52 ts120 rfl ha_x (by omega) (_) (rfl) rfl ?_
  refine Vs 1 rfl ?_
  refine V.call1V Tryz.call128 rfl (fun w hI => zdE x w) ?_
  refine Vs 2 rfl ?_
  refine V.ite rfl (fun hp => ?_) (fun hp => ?_)
  ·
   refine Vs 12 rfl ?_
   refine V.ret1 tr162 rfl (fun w hI => ⟨_, rfl, by rw [zbT hno he_x (decide_eq_true hp)], hI.k0⟩)
  ·
   refine Va 7 rfl (by omega) ?_
   refine V.back (i + 1) (Sub.of rfl) (Has.of rfl) (⟨by omega, kZ he_x hno (decide_eq_false hp)⟩) (by first | omega | (dsimp only; omega)) 0 rfl rfl
 ·
  obtain rfl : i = l.length := by omega
  rw [List.take_length] at hno
  refine Vs 11 rfl ?_
  refine V.ret1 tr162 rfl (fun w hI => ⟨_, rfl, by rw [jP hno], hI.k0⟩)
theorem zcY (l : List Vr) (v : Value) (D : Nat -> Prop) (W : World) (hl : SlR 5 RVr D W v l) : Calls Tryz.prog 127 #[v, .func (.func 128) #[] #[]] W (Ret fun r w' => r = .bool (decide (zd 3 l ≠ [])) /\ Ext W w') := by
 refine G.in2 Tryz.func127 rfl Tryz.ntmps127 rfl (V.inn ?_)
 refine Vs 9 rfl ?_
 refine V.call1 Tryz.call162 rfl (fun w hI => zcX l v D w (Tr1 hI.k0 hl)) ?_
 refine Vs 5 rfl ?_
 refine V.ret1 Tryz.results127 rfl (fun w hI => ⟨_, rfl, by rw [decide_eq_decide.2]; rw [zbU]; unfold zd; rw [ne_eq, List.filter_eq_nil_iff, List.any_eq_true]; simp, hI.k0⟩)
theorem zbV (f : Fl) (hz : SzOk f) (v1 v2 v3 : Value) (D : Nat -> Prop) (W : World) (hf : RFl D W f v1 v2 v3) : Calls Tryz.prog 95 #[.agg #[v1, v2, v3]] W (Ret fun r w' => r = .int .i64 (zbO f) /\ Ext W w') := by
 refine G.in1 Tryz.func95 rfl Tryz.ntmps95 rfl (V.inn ?_)
 refine Vs 2 rfl ?_
 refine V.box 1 rfl rfl (fun b1 => ?_)
 refine Vs 7 rfl ?_
 refine V.call1 Tryz.call126 rfl (fun w hI => kE f v1 v2 v3 D w (Tr1 hI.k0 hf) hz.size hz.bulk) ?_
 refine Vs 9 rfl ?_
 refine V.ite rfl (fun c0 => ?_) (fun c0 => ?_)
 ·
  have ha : zbO f = zQ f := if_pos c0
  refine Vs 8 rfl ?_
  refine V.ret1 Tryz.results95 rfl (fun w hI => ⟨_, rfl, by rw [ha], hI.k0⟩)
 ·
  have c0 := Decidable.not_not.1 c0
  refine Vs 7 rfl ?_
  refine V.call1 Tryz.call127 rfl (fun w hI => zcY f.vars v1 D w (Tr1 hI.k0 hf.vars)) ?_
  refine Vs 2 rfl ?_
  refine V.ite rfl (fun c1 => ?_) (fun c1 => ?_)
  ·
   refine Vs 7 rfl ?_
   refine V.ret1 Tryz.results95 rfl (fun w hI => ⟨_, rfl, by unfold zbO; rw [if_neg (not_not_intro c0), if_pos c1], hI.k0⟩)
  ·
   refine Vs 8 rfl ?_
   refine V.ret1 Tryz.results95 rfl (fun w hI => ⟨_, rfl, by unfold zbO; rw [if_neg (not_not_intro c0), if_neg c1], hI.k0⟩)
theorem jo {f : Fl} (hz : SzOk f) (h : zbO f = 0) : Valid f /\ zd 3 f.vars = [] := by
 unfold zbO at h
 split at h
 . rename_i h1; exact absurd h h1
 ·
  rename_i h1
  split at h
  . cases h
  . rename_i h2; exact ⟨ziH hz (Decidable.not_not.1 h1), Decidable.not_not.1 h2⟩
theorem zcZ (f : Fl) (hz : SzOk f) (pub : List Int) (v1 v2 v3 pv : Value) (D D' : Nat -> Prop) (W : World) (hf : RFl D W f v1 v2 v3) (hp : SlR 1 zv D' W pv pub) : Calls Tryz.prog 64 #[.agg #[v1, v2, v3], pv] W (Ret fun r w' => r = .int .i64 (kO f pub) /\ Ext W w') := by
 refine G.in2 Tryz.func64 rfl Tryz.ntmps64 rfl (V.inn ?_)
 refine Vs 2 rfl ?_
 refine V.box 2 rfl rfl (fun b2 => ?_)
 refine Vs 7 rfl ?_
 refine V.call1 Tryz.call95 rfl (fun w hI => zbV f hz v1 v2 v3 D w (Tr1 hI.k0 hf)) ?_
 refine Vs 9 rfl ?_
 refine V.ite rfl (fun c0 => ?_) (fun c0 => ?_)
 ·
  refine Vs 8 rfl ?_
  refine V.ret1 Tryz.results64 rfl (fun w hI => ⟨_, rfl, by unfold kO; rw [if_pos c0], hI.k0⟩)
 ·
  have vd := (jo hz (Decidable.not_not.1 c0)).1
  have hl := vd.lens
  refine Vs 7 rfl ?_
  refine V.call1 Tryz.call96 rfl (fun w hI => zeK f.vars 2 pub v1 pv D D' w (by decide) vd.good (by omega) (Tr1 hI.k0 hf.vars) (Tr1 hI.k0 hp)) ?_
  refine Vs 14 rfl ?_
  refine V.ret1 Tryz.results64 rfl (fun w hI => ⟨_, rfl, by unfold kO; rw [if_neg c0], hI.k0⟩)
theorem zia (x : Int) (n : Nat) (b : Nat) (W : World) (hB : Cells W b 0 [.int .i64 n]) : Calls Tryz.prog 98 #[.int .i64 x, .pointer (some ⟨b, 0, none⟩)] W (Ret fun r w' => r = .bool (decide (x < 0 \/ (n : Int) <= x)) /\ Ext W w') := by
 refine G.in2 Tryz.func98 rfl Tryz.ntmps98 rfl (V.inn ?_)
 refine V.frS 900 0 rfl rfl (fun h => h) hB ?_
 refine V.tag 1 900 0 rfl rfl ?_
 refine Vs 10 rfl ?_
 refine V.sp 6 rfl (fun c => ?_) (fun c => ?_)
 ·
  refine Vs 8 rfl ?_
  refine V.ret1 Tryz.results98 rfl (fun w hI => ⟨_, rfl, by rw [decide_eq_true (.inl c)], hI.k0⟩)
 ·
  refine Vs 8 rfl ?_
  refine V.ret1 Tryz.results98 rfl (fun w hI => ⟨_, rfl, by rw [decide_eq_decide.2]; omega, hI.k0⟩)
theorem zeU (f : Fl) (l : List Int) : (!l.any fun x => decide (x < 0 \/ (spN f : Int) <= x)) = decide (xV f l) := by
 rw [Bool.eq_iff_iff, decide_eq_true_iff, Bool.not_eq_true', List.any_eq_false]
 unfold xV
 constructor
 ·
  intro h x hx
  have := h x hx
  rw [decide_eq_true_iff] at this
  omega
 ·
  intro h x hx
  have := h x hx
  rw [decide_eq_true_iff]
  omega
theorem zdF (f : Fl) (vd : Valid f) (l : List Int) (v1 v2 v3 lv : Value) (D D' : Nat -> Prop) (W : World) (hf : RFl D W f v1 v2 v3) (hl : SlR 1 zv D' W lv l) : Calls Tryz.prog 65 #[.agg #[v1, v2, v3], lv] W (Ret fun r w' => r = .bool (decide (xV f l)) /\ Ext W w') := by
 refine G.in2 Tryz.func65 rfl Tryz.ntmps65 rfl (V.inn ?_)
 refine Vs 2 rfl ?_
 refine V.box 2 rfl rfl (fun b2 => ?_)
 refine Vs 6 rfl ?_
 refine V.call1 Tryz.call89 rfl (fun w hI => zb7 f vd v1 v2 v3 D w (Tr1 hI.k0 hf)) ?_
 refine V.alloc 5 tz3 rfl rfl (fun b5 => ?_)
 refine Vs 7 rfl ?_
 refine V.call1 Tryz.call97 rfl (fun w hI => zha (fun x => decide (x < 0 \/ (spN f : Int) <= x)) l lv D' _ _ w Tryz.call98 (Tr1 hI.k0 hl) (fun x w' hE _ _ => zia x (spN f) b5 w' (hE.cells (Blk.cells (hI.at 5 rfl)) (fun h => h)))) ?_
 refine V.ops1 rfl (fun w hI => R.notU rfl (by first | exact za | rfl)) ?_
 refine Vs 4 rfl ?_
 refine V.ret1 Tryz.results65 rfl (fun w hI => ⟨_, rfl, by rw [zeU], hI.k0⟩)
theorem zd0 {f : Fl} {pub : List Int} (h : kO f pub = 0) : zbO f = 0 /\ (zj 2 f.vars).isSome = true /\ (yR 2 f.vars pub).2 = 0 := by
 unfold kO at h
 split at h
 . rename_i h1; exact absurd h h1
 ·
  rename_i h1
  refine ⟨Decidable.not_not.1 h1, ?_, h⟩
  unfold yR at h
  split at h
  . assumption
  . cases h
theorem zhh {α : Type} {k : Nat} {R : Rel α} {D : Nat -> Prop} {w : World} {n c : Nat} {l : List α} (h : SlR k R D w (.slice none n c) l) : l = [] := by
 cases l with
 | nil => rfl
 | cons x r =>
  obtain ⟨ao, cap, h1, _, _, h4⟩ := h
  obtain ⟨b, o, cs, h5, _⟩ := h4 0 x rfl
  cases h1
  cases h5
theorem zg9 (l : List Int) (hlen : l.length <= 17592186044416) (v : Value) (D : Nat -> Prop) (W : World) (hl : SlR 1 zv D W v l) : Calls Tryz.prog 68 #[v] W (Ret fun r w' => SlR 1 zv (fun b => W.heap.size <= b) w' r l /\ Ext W w') := by
 obtain ⟨ao, co, rfl⟩ := hl.form
 refine G.in1 Tryz.func68 rfl Tryz.ntmps68 rfl (V.inn ?_)
 refine Vs 9 rfl ?_
 refine V.ops1 rfl (fun w hI => R.eqNil tu31 rfl) ?_
 cases ao
 ·
  obtain rfl := zhh hl
  refine Vs 2 rfl ?_
  refine V.bool rfl (fun h => ?_) (fun h => ?_)
  ·
   refine Vs 7 rfl ?_
   refine V.ret1 Tryz.results68 rfl (fun w hI => ⟨_, rfl, SlR.nil, hI.k0⟩)
  . cases h
 ·
  refine Vs 2 rfl ?_
  refine V.bool rfl (fun h => ?_) (fun h => ?_)
  . cases h
  ·
   refine Vs 4 rfl ?_
   refine V.bs0 5 tR31 ts3 rfl (fun b5 => ?_)
   refine Vs 1 rfl ?_
   refine V.apS 5 (fun x => [ze x]) (fun _ => rfl) (by simp [Value.oneCell']) zbF tu31 Tryz.el3 rfl (by decide) rfl (fun w hI => ⟨_, Tr1 hI.k0 hl⟩) (by omega) (by omega) (fun u5 => ?_)
   refine V.heq 5 rfl (e' := .row 3 1 u5 l.length (l.map ze)) (by rw [Nat.zero_add, List.nil_append, <- List.map_eq_flatMap]) ?_
   refine Vs 4 rfl ?_
   refine V.ret1 Tryz.results68 rfl (fun w hI => ⟨_, rfl, SlR.ofRow1 ze (fun _ _ => rfl) (hI.at 5 rfl) (fun b hb => hI.own 5 0 rfl rfl b hb), hI.k0⟩)
abbrev Cl2 := { c : List Value // c.length = 2 /\ ∀ u ∈ c, u.oneCell' = true }
def RCl : Rel Cl2 := fun _ _ x cs => cs = x.1
theorem zga : yb RCl := fun _ _ _ _ _ _ _ _ h => h
instance : StC RCl := ⟨zga⟩
end Go.Proofs.YtbkhagigkglgoaaGreatDoor
