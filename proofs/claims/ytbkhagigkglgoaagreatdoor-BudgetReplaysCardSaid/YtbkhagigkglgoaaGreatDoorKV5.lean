/-
  Contracts and the mathematics that the proof needs. Nothing here is a claim.
-/
import Derived.Test.YtbkhagigkglgoaaGreatDoorKV4
namespace Go.Proofs.YtbkhagigkglgoaaGreatDoor
open Go.GL
def LeftOk (D : Nat -> Prop) (W : World) (r : Ins) (s : StS) (q : Int -> Value) : Prop := ∀ k, 1 <= k -> k <= 3 -> SlR 1 zz D W (q k) ((xq r k).drop (jH s k))
theorem zaF {w : World} {b : Nat} {z : Value} {q : Int -> Value} {e : TypeId} {k : Int} (h : Blk w b [z, q 1, q 2, q 3] e) (hk : 1 <= k /\ k <= 3) : w.cell? ⟨b, 0 + k.toNat * 1, none⟩ = some (q k) := by
 have h1 := Blk.cells h 1 _ rfl
 have h2 := Blk.cells h 2 _ rfl
 have h3 := Blk.cells h 3 _ rfl
 rcases (show k = 1 \/ k = 2 \/ k = 3 by omega) with rfl | rfl | rfl
 . exact h1
 . exact h2
 . exact h3
theorem zgC {z u : Value} {q : Int -> Value} {k : Int} (hk : 1 <= k /\ k <= 3) : [z, q 1, q 2, q 3].set k.toNat u = [z, (if 1 = k then u else q 1), (if 2 = k then u else q 2), (if 3 = k then u else q 3)] := by
 rcases (show k = 1 \/ k = 2 \/ k = 3 by omega) with rfl | rfl | rfl <;> rfl
theorem zcA {prev : List Vr} {v : Vr} (h : zM prev v = 0) (hk : v.kind = 0) : v.low <= v.init /\ v.init <= v.high := by
 unfold zM at h
 split at h
 . cases h
 split at h
 . cases h
 split at h
 . cases h
 split at h
 . cases h
 split at h
 . cases h
 ·
  rename_i h5
  omega
theorem zfq {r : Ins} {s : StS} {x : Vr} (h : x.kind = 0) : zq r (some s) x = some ⟨s.vals ++ [x.init], s.a, s.b, s.c⟩ := by simp [zq, h]
theorem zgD {r : Ins} {s : StS} {k : Int} (_ : 1 <= k /\ k <= 3) {l : List Int} (hl : (xq r k).drop (jH s k) = l) : (xq r k)[jH s k]? = l[0]? := by
 rw [<- hl, List.getElem?_drop, Nat.add_zero]
theorem zer {f : Fl} {r : Ins} {i : Nat} {x : Vr} {s s1 : StS} (he : f.vars[i]? = some x) (hs : (f.vars.take i).foldl (zq r) (some ⟨[], 0, 0, 0⟩) = some s) (h1 : zq r (some s) x = some s1) : (f.vars.take (i + 1)).foldl (zq r) (some ⟨[], 0, 0, 0⟩) = some s1 := by
 rw [zg he, List.foldl_append, hs]; exact h1
theorem Valid.varAt0 {f : Fl} (V : Valid f) {i : Nat} {x : Vr} (he : f.vars[i]? = some x) : zM (f.vars.take i) x = 0 := by
 have h := V.ok
 unfold zS at h
 split at h
 . cases h
 split at h
 . rename_i h2; exact absurd h h2
 ·
  rename_i h2
  have h := zn9.1 h2
  unfold zv at h
  split at h
  . rename_i h2; exact absurd h h2
  ·
   rename_i h2
   rw [<- kW he]
   exact xd f.vars.length 0 (by simpa using h2) i (znf _) (by have := (zne.1 he).1; omega)
theorem LeftOk.next {D : Nat -> Prop} {W : World} {r : Ins} {s : StS} {q : Int -> Value} {k y : Int} {aq : Option Addr} {cq : Nat} {rest : List Int} (hL : LeftOk D W r s q) (hk : 1 <= k /\ k <= 3) (hr : rest = (xq r k).drop (jH s k)) (hq : SlR 1 zz D W (.slice aq rest.length cq) rest) (h1 : 1 <= rest.length) : LeftOk D W r (jf s k y) (fun j => if j = k then .slice (if cq = 1 then aq else aq.map (·.add (1 * 1))) (rest.length - 1) (cq - 1) else q j) := by
 intro j hj1 hj3
 have hc := zct s hk ⟨hj1, hj3⟩ y
 dsimp only
 by_cases e : j = k
 ·
  subst e
  rw [znb rfl] at hc
  rw [znb rfl, hc]
  have := hq.drop 1 h1
  rw [hr, List.drop_drop] at this
  rwa [<- hr] at this
 ·
  rw [zna e] at hc
  rw [zna e, hc]
  exact hL j hj1 hj3
theorem zbH {r : Ins} {s : StS} {x : Vr} {y : Int} (h : 1 <= x.kind /\ x.kind <= 3) (hy : (xq r x.kind)[jH s x.kind]? = some y) : zq r (some s) x = some (jf s x.kind y) := by
 simp only [zq, Option.bind_some]
 rw [zna (by omega), hy]; rfl
theorem zfr {r : Ins} {s : StS} {x : Vr} (h : 1 <= x.kind /\ x.kind <= 3) (hy : (xq r x.kind)[jH s x.kind]? = none) : zq r (some s) x = none := by
 simp only [zq, Option.bind_some]
 rw [zna (by omega), hy]; rfl
theorem zix {x : Vr} {y : Int} (h : ¬ y < x.low) : decide (x.high < y) = (false || !inB (x, y)) := by
 have h1 : decide (x.low <= y) = true := znc (by omega)
 simp only [inB, h1, Bool.true_and, Bool.false_or]
 by_cases h2 : y <= x.high
 . rw [znd (by omega), znc h2]; rfl
 . rw [znc (by omega), znd h2]; rfl
theorem zhO {D : Nat -> Prop} {W : World} {r : Ins} {s : StS} {q : Int -> Value} (hL : LeftOk D W r s q) {j : Nat} (hj : j < 4) : ∃ (a : Option Addr) (ln c : Nat), [Value.slice none 0 0, q 1, q 2, q 3][j]? = some (.slice a ln c) /\ (j = 0 -> ln = 0) /\ (1 <= j -> ln = ((xq r (j : Int)).drop (jH s (j : Int))).length) := by
 have key : ∀ k : Int, 1 <= k -> k <= 3 -> ∃ (a : Option Addr) (c : Nat), q k = .slice a ((xq r k).drop (jH s k)).length c := fun k h1 h3 => (hL k h1 h3).form
 obtain ⟨a1, c1, h1⟩ := key 1 (by omega) (by omega)
 obtain ⟨a2, c2, h2⟩ := key 2 (by omega) (by omega)
 obtain ⟨a3, c3, h3⟩ := key 3 (by omega) (by omega)
 rcases (show j = 0 \/ j = 1 \/ j = 2 \/ j = 3 by omega) with rfl | rfl | rfl | rfl
 . exact ⟨_, _, _, rfl, fun _ => rfl, fun h => by omega⟩
 . exact ⟨a1, _, c1, congrArg some h1, fun h => by omega, fun _ => rfl⟩
 . exact ⟨a2, _, c2, congrArg some h2, fun h => by omega, fun _ => rfl⟩
 . exact ⟨a3, _, c3, congrArg some h3, fun h => by omega, fun _ => rfl⟩
theorem zes {f : Fl} {r : Ins} {s : StS} (hS : jI f.vars r = some s) {k : Int} (hk : 1 <= k /\ k <= 3) (h : 0 < ((xq r k).drop (jH s k)).length) : zt f.vars r = 1 := by
 unfold zt
 rw [hS]
 dsimp only
 unfold yC
 rw [List.length_drop] at h
 rw [znb]
 rcases (show k = 1 \/ k = 2 \/ k = 3 by omega) with rfl | rfl | rfl
 ·
  have h : 0 < r.secret.length - s.a := h
  omega
 ·
  have h : 0 < r.pub.length - s.b := h
  omega
 ·
  have h : 0 < r.random.length - s.c := h
  omega
theorem zfs {f : Fl} {r : Ins} {s : StS} (hS : jI f.vars r = some s) (hkd : ∀ v ∈ f.vars, 0 <= v.kind /\ v.kind <= 3) (hz : ∀ k : Int, 1 <= k -> k <= 3 -> ((xq r k).drop (jH s k)).length = 0) : zt f.vars r = if (f.vars.zip s.vals).all inB then 0 else 3 := by
 have hle := zff hkd f.vars.length s (zno _) (by rw [zn5]; exact hS)
 have key : ∀ k : Int, 1 <= k -> k <= 3 -> jH s k = (xq r k).length := fun k h1 h3 => by
  have h4 := hz k h1 h3
  rw [List.length_drop] at h4
  have := hle k h1 h3
  omega
 have h1 : s.a = r.secret.length := key 1 (by omega) (by omega)
 have h2 : s.b = r.pub.length := key 2 (by omega) (by omega)
 have h3 : s.c = r.random.length := key 3 (by omega) (by omega)
 unfold zt
 rw [hS]
 dsimp only
 unfold yC
 rw [zna (by omega)]
theorem zgE {H : Hp} {w w0 : World} {bm : Nat} {v1 v2 v3 vv hv : Value} {vals hats : List Int} {m : Nat} (hI : VI [(w0, fun _ => False)] H w) (h0 : zo H 24 = some (.own bm [v1, v2, v3, vv, hv, .slice none 0 0, .int .i64 0] 180)) (h1 : zo H 900 = some (.row 3 1 vv vals.length (vals.map ze))) (h2 : zo H 901 = some (.row 3 1 hv m (hats.map ze))) : MachOk w bm v1 v2 v3 vv hv (.slice none 0 0) ⟨vals, [], 0⟩ /\ SlR 1 zz (fun b => hv.ownBlock = some b) w hv hats /\ (∀ q, qQ bm vv (.slice none 0 0) q \/ hv.ownBlock = some q -> w0.heap.size <= q /\ q < w.heap.size) /\ ∀ q, qQ bm vv (.slice none 0 0) q -> hv.ownBlock ≠ some q := by
 have o0 : ∀ q, q = bm -> w0.heap.size <= q /\ q < w.heap.size := fun q hq => ⟨hI.own 24 0 h0 rfl q hq, hI.low _ (zm h0) q hq⟩
 have o1 : ∀ q, vv.ownBlock = some q -> w0.heap.size <= q /\ q < w.heap.size := fun q hq => ⟨hI.own 900 0 h1 rfl q hq, hI.low _ (zm h1) q hq⟩
 have o2 : ∀ q, hv.ownBlock = some q -> w0.heap.size <= q /\ q < w.heap.size := fun q hq => ⟨hI.own 901 0 h2 rfl q hq, hI.low _ (zm h2) q hq⟩
 refine ⟨⟨hI.at 24 h0, hI.at 900 h1, World.ownsRow_nil w 0 _ 1, fun h => zB hI.apart h0 h1 O bm O h, fun h => (by cases h), fun q _ h => (by cases h)⟩, zkx ze (fun _ _ => rfl) (hI.at 901 h2) (fun _ h => h), ?_, ?_⟩
 ·
  rintro q ((hq | hq | hq) | hq)
  . exact o0 q hq
  . exact o1 q hq
  . cases hq
  . exact o2 q hq
 ·
  rintro q (hq | hq | hq) hs
  . exact zB hI.apart h0 h2 O q hq hs
  . exact zB hI.apart h1 h2 O q hq hs
  . cases hq
theorem kM (f : Fl) (r : Ins) (v1 v2 v3 s1 s2 s3 : Value) (D : Nat -> Prop) (W : World) (hf : RFl D W f v1 v2 v3) (hi1 : SlR 1 zz D W s1 r.secret) (hi2 : SlR 1 zz D W s2 r.pub) (hi3 : SlR 1 zz D W s3 r.random) (hsz : zn f.body + zG f.hatches <= 1024) (hbk : zw f.body <= 1000000) :
  Calls Tryz.prog 119 #[.agg #[v1, v2, v3], .agg #[s1, s2, s3]] W (Ret fun rr w' => (∃ rv, rr = .tuple #[rv, .int .i64 (zy f r)] /\ (zy f r = 0 -> ∃ bm vv hv, rv = .pointer (some ⟨bm, 0, none⟩) /\ MachOk w' bm v1 v2 v3 vv hv (.slice none 0 0) (ji f r) /\ SlR 1 zz (fun b => hv.ownBlock = some b) w' hv (qX f r) /\ (∀ q, qQ bm vv (.slice none 0 0) q \/ hv.ownBlock = some q -> W.heap.size <= q /\ q < w'.heap.size) /\ ∀ q, qQ bm vv (.slice none 0 0) q -> hv.ownBlock ≠ some q)) /\ Ext W w') := by
 have hvs := hf.vars
 have hht := hf.hatches
 obtain ⟨av, cv, rfl⟩ := hvs.form
 obtain ⟨ah, ch, rfl⟩ := hht.form
 have hmx := hvs.max
 obtain ⟨a1, n1, rfl⟩ := hi1.form
 obtain ⟨a2, n2, rfl⟩ := hi2.form
 obtain ⟨a3, n3, rfl⟩ := hi3.form
 refine zlr Tryz.func119 O Tryz.ntmps119 O (zlC ?_)
 refine Vs 2 O ?_
 refine V.box 2 O O (fun b2 => ?_)
 refine V.box 3 O O (fun b3 => ?_)
 refine Vs 8 O ?_
 refine zlT Tryz.call126 O (fun w hI => kJ f _ _ v3 D w (Tr1 hI.k0 hf) hsz hbk) ?_
 refine Vs 9 O ?_
 refine zjo O (fun c0 => ?_) (fun c0 => ?_)
 ·
  have hp : zy f r = zS f := znb c0
  refine Vs 9 O ?_
  refine zjL tr119 O O (fun w hI => ⟨_, rfl, ⟨_, by rw [hp], fun h => absurd (hp ▸ h) c0⟩, hI.k0⟩)
 ·
  have hc0 : zS f = 0 := zn9.1 c0
  have vd : Valid f := ⟨hc0, hsz, hbk⟩
  have hp : zy f r = zt f.vars r := zna c0
  have hkd := vd.kinds
  have hl := vd.lens
  refine Vs 5 O ?_
  refine zme [Value.slice none 0 0, Value.slice none 0 0, Value.slice none 0 0, Value.slice none 0 0, Value.slice none 0 0, Value.slice none 0 0, Value.int IntKind.i64 0] [(0, 3), (3, 1), (4, 1), (5, 1), (6, 1)] [(0, _)] O O (fun _ => by kernel_rfl) ?_
  refine V.box 24 O O (fun b24 => ?_)
  refine Vs 11 O ?_
  refine zme [Value.slice none 0 0, Value.slice none 0 0, Value.slice none 0 0, Value.slice none 0 0] [(0, 1), (1, 1), (2, 1), (3, 1)] [(1, _), (2, _), (3, _)] O O (fun _ => by kernel_rfl) ?_
  refine V.alloc 8 Tryz.zeroValue212 O O (fun b8 => ?_)
  refine Vs 18 O ?_
  refine zlN 900 3 1 O ?_
  refine zm5 (σ := Nat × StS × (Int -> Value) × Bool × Value) [2, 7, 8, 33, 34] [2] [2, 7, 8] O (fun e ⟨i, s, q, o, vv⟩ => (35, .int .i64 i) :: (9, .bool o) :: e) (fun e ⟨i, s, q, o, vv⟩ => (24, .own b24 [.slice av f.vars.length cv, .slice ah f.hatches.length ch, v3, vv, .slice none 0 0, .slice none 0 0, .int .i64 0] 180) :: (900, .row 3 1 vv s.vals.length (s.vals.map ze)) :: (8, .own b8 [.slice none 0 0, q 1, q 2, q 3] 212) :: e) (fun ⟨i, s, q, o, vv⟩ => i <= f.vars.length /\ (f.vars.take i).foldl (zq r) (some ⟨[], 0, 0, 0⟩) = some s /\ LeftOk D W r s q /\ o = !((f.vars.take i).zip s.vals).all inB) (fun ⟨i, s, q, o, vv⟩ => f.vars.length - i) ((0, ⟨[], 0, 0, 0⟩, fun k => if k = 1 then .slice a1 r.secret.length n1 else if k = 2 then .slice a2 r.pub.length n2 else .slice a3 r.random.length n3, false, .slice none 0 0)) (zkZ O) (zl0 O) (fun _ => rfl) (fun _ => rfl) (fun _ => rfl) (⟨znf _, rfl, fun k h1 h3 => by rcases (show k = 1 \/ k = 2 \/ k = 3 by omega) with rfl | rfl | rfl <;> assumption, rfl⟩) ?_
  rintro ⟨i, s, q, o, vv⟩ ⟨hi, hS, hL, ho⟩
  show V _ _ _ _ _ ((35, .int .i64 i) :: (9, .bool o) :: _) _ ((24, .own b24 [.slice av f.vars.length cv, .slice ah f.hatches.length ch, v3, vv, .slice none 0 0, .slice none 0 0, .int .i64 0] 180) :: (900, .row 3 1 vv s.vals.length (s.vals.map ze)) :: (8, .own b8 [.slice none 0 0, q 1, q 2, q 3] 212) :: _) _
  refine Vs 6 O ?_
  refine zjo O (fun hlt => ?_) (fun hlt => ?_)
  ·
   refine Vs 6 O ?_
   obtain ⟨x, he_x, hm_x⟩ := gE_ f.vars (i) (by omega)
   obtain ⟨b_x, o_x, c_x, ha_x, _, hc_x, hR_x⟩ := hvs.at he_x
   obtain rfl := hR_x
   refine zm1 1000 0 O O hc_x ?_
   refine zlK 1000 tR52 ts120 O ha_x (by omega) (_) (rfl) O ?_
   obtain ⟨hlv, _⟩ := ki i s hi hS
   have hkx := hkd x hm_x
   have hvc := vd.varAt0 he_x
   refine Vs 1 O ?_
   refine V.alloc 11 tz120 O O (fun b11 => ?_)
   refine Vs 11 O ?_
   refine zm6 (σ := Int × (Int -> Value) × Bool × StS) [2, 7, 8, 33, 34, 35] [2, 24, 900] [2, 7, 8] O (fun e ⟨n, q', o', s1⟩ => (12, .int .i64 n) :: (9, .bool o') :: e) (fun e ⟨n, q', o', s1⟩ => (8, .own b8 [.slice none 0 0, q' 1, q' 2, q' 3] 212) :: e) (fun ⟨n, q', o', s1⟩ => zq r (some s) x = some s1 /\ s1.vals = s.vals ++ [n] /\ LeftOk D W r s1 q' /\ o' = (o || !inB (x, n))) (fun _ => rfl) (fun _ => rfl) ?_ ?_
   ·
    refine Vs 7 O ?_
    refine zjo O (fun hk => ?_) (fun hk => ?_)
    ·
     have hk3 : 1 <= x.kind /\ x.kind <= 3 := by omega
     obtain ⟨rest, hrest⟩ : ∃ rest, rest = (xq r x.kind).drop (jH s x.kind) := ⟨_, rfl⟩
     have hq := hL x.kind hk3.1 hk3.2
     rw [<- hrest] at hq
     obtain ⟨aq, cq, hqf⟩ := hq.form
     rw [hqf] at hq
     have hg0 := zgD hk3 hrest.symm
     refine Va 6 O (by omega) ?_
     refine zlh O (fun w hI => R.load tg31 O (v := .slice aq rest.length cq) (by rw [<- hqf]; exact zaF (hI.at 8 O) hk3)) ?_
     refine Vs 4 O ?_
     refine zjo O (fun z => ?_) (fun z => ?_)
     ·
      have hn : (f.vars.take (i + 1)).foldl (zq r) (some ⟨[], 0, 0, 0⟩) = none := by
       rw [zg he_x, List.foldl_append, hS]
       exact zfr hk3 (by rw [hg0, znn (by omega)])
      have h1 : zt f.vars r = 1 := by unfold zt; rw [zaC hn]
      refine Vs 15 O ?_
      refine zjL tr119 O O (fun w hI => ⟨_, rfl, ⟨_, by rw [hp, h1], fun h => by rw [hp, h1] at h; cases h⟩, hI.k0⟩)
     ·
      refine Va 7 O (by omega) ?_
      refine zlh O (fun w hI => R.load tg31 O (v := .slice aq rest.length cq) (by rw [<- hqf]; exact zaF (hI.at 8 O) hk3)) ?_
      obtain ⟨y, he_y, hm_y⟩ := gE_ rest (0) (by omega)
      obtain ⟨b_y, o_y, c_y, ha_y, _, hc_y, hR_y⟩ := hq.at he_y
      obtain rfl := hR_y
      refine zm1 2000 0 O O hc_y ?_
      refine zlK 2000 tR31 ts3 O ha_y (by omega) (_) (rfl) O ?_
      have hy0 : (xq r x.kind)[jH s x.kind]? = some y := by rw [hg0, he_y]
      refine Vs 5 O ?_
      refine Vw [2, 24, 8, 1000, 11, 2000] [8] O ?_
      refine Vb [0, 1, 2, 3, 4] 0 (by kernel_rfl) O O O (by omega) ?_
      refine zmi 5 O (by kernel_rfl) O 0 O O (fun w hI => R.load tg31 O (v := .slice aq rest.length cq) (by rw [<- hqf]; exact zaF (hI.at 8 O) hk3)) ?_
      refine zmg 6 O (by kernel_rfl) O (fun w => zk9 tR31 ts3 O O (by omega)) ?_
      refine Vb [7] 0 (by kernel_rfl) O O O (by omega) ?_
      refine zmk 8 8 (x.kind.toNat) ts31 O (by kernel_rfl) O (rfl) (by omega) (by simp; omega) ?_
      refine VDx.done (by kernel_rfl) ?_
      refine Vs 1 O ?_
      refine zm4 8 O (e' := .own b8 [.slice none 0 0, (if 1 = x.kind then (.slice (if cq = 1 then aq else aq.map (·.add (1 * 1))) (rest.length - 1) (cq - 1)) else q 1), (if 2 = x.kind then (.slice (if cq = 1 then aq else aq.map (·.add (1 * 1))) (rest.length - 1) (cq - 1)) else q 2), (if 3 = x.kind then (.slice (if cq = 1 then aq else aq.map (·.add (1 * 1))) (rest.length - 1) (cq - 1)) else q 3)] 212) (by rw [zgC hk3]; rfl) ?_
      refine Vs 3 O ?_
      refine V.sb 65 O (fun b1 => ?_) (fun b1 => ?_)
      ·
       subst b1
       refine Vs 13 O ?_
       refine zjE (⟨y, fun j => if j = x.kind then (.slice (if cq = 1 then aq else aq.map (·.add (1 * 1))) (rest.length - 1) (cq - 1)) else q j, true, jf s x.kind y⟩) (zkZ O) (zl0 O) (⟨zbH hk3 hy0, kh _ _ _, hL.next hk3 hrest hq (by omega), rfl⟩) 0 O O
      ·
       subst b1
       refine Vs 6 O ?_
       refine zld 71 O (fun b2 => ?_) (fun b2 => ?_)
       ·
        refine Vs 7 O ?_
        refine zjE (⟨y, fun j => if j = x.kind then (.slice (if cq = 1 then aq else aq.map (·.add (1 * 1))) (rest.length - 1) (cq - 1)) else q j, true, jf s x.kind y⟩) (zkZ O) (zl0 O) (⟨zbH hk3 hy0, kh _ _ _, hL.next hk3 hrest hq (by omega), by simp [inB]; omega⟩) 0 O O
       ·
        refine Vs 7 O ?_
        refine zjE (⟨y, fun j => if j = x.kind then (.slice (if cq = 1 then aq else aq.map (·.add (1 * 1))) (rest.length - 1) (cq - 1)) else q j, decide (x.high < y), jf s x.kind y⟩) (zkZ O) (zl0 O) (⟨zbH hk3 hy0, kh _ _ _, hL.next hk3 hrest hq (by omega), zix b2⟩) 0 O O
    ·
     refine Vs 1 O ?_
     refine zjE (⟨x.init, q, o, ⟨s.vals ++ [x.init], s.a, s.b, s.c⟩⟩) (zkZ O) (zl0 O) (⟨zfq (by omega), rfl, hL, by have := zcA hvc (by omega); simp [inB, this.1, this.2]⟩) 0 O O
   rintro ⟨n, q', o', s1⟩ ⟨hst, hsv, hL', ho'⟩
   show V _ _ _ _ _ ((12, .int .i64 n) :: (9, .bool o') :: _) _ ((8, .own b8 [.slice none 0 0, q' 1, q' 2, q' 3] 212) :: _) _
   refine Vs 8 O ?_
   refine zm8 83 [(0, _)] tR31 ts3 tz3 (by decide) O O (by kernel_rfl) (fun b83 => ?_)
   refine zlO 900 83 tu31 Tryz.el3 O (by decide) O O (by omega) (by omega) (fun u900 => ?_)
   refine Vs 2 O ?_
   refine zlQ 900 O (by omega) ?_
   rintro bq cq rfl hcap_900
   refine Va 8 O (by omega) ?_
   refine zm4 900 O (e' := .row 3 1 (.slice (some ⟨bq, 0, none⟩) (s.vals.length + 1) cq) s1.vals.length (s1.vals.map ze)) (by rw [hsv, zn8, List.map_append]; rfl) ?_
   refine zjz (⟨i + 1, s1, q', o', _⟩) (zkZ O) (zl0 O) (⟨by omega, zer he_x hS hst, hL', by rw [ho', ho, hsv, zgz he_x s.vals (by omega) n]; cases ((f.vars.take i).zip s.vals).all inB <;> cases inB (x, n) <;> rfl⟩) (by first | omega | (dsimp only; omega)) 0 O O
  ·
   obtain rfl : i = f.vars.length := by omega
   rw [zn5] at hS ho
   have hSS : jI f.vars r = some s := hS
   refine Vs 13 O ?_
   refine zm5 (σ := Nat) [2, 7, 9, 88] [2, 24, 900] [2, 7] O (fun e j => (89, .int .i64 j) :: e) (fun e j => e) (fun j => j <= 4 /\ ∀ k : Int, 1 <= k -> k < j -> k <= 3 -> ((xq r k).drop (jH s k)).length = 0) (fun j => 4 - j) (0) (zkZ O) (zl0 O) (fun _ => rfl) (fun _ => rfl) (fun _ => rfl) (⟨by omega, fun k h1 h2 => by omega⟩) ?_
   rintro j ⟨hj, hzero⟩
   refine Vs 6 O ?_
   refine zjo O (fun hj4 => ?_) (fun hj4 => ?_)
   ·
    obtain ⟨al, ln, cl, hv, hl0, hl1⟩ := zhO hL (j := j) (by omega)
    refine Vs 6 O ?_
    refine zlh O (fun w hI => zmp Tryz.runUnderlying212 ts31 tg31 O O (by omega) (by simpa using hv)) ?_
    refine Vs 10 O ?_
    refine zjo O (fun z => ?_) (fun z => ?_)
    ·
     have hj0 : 1 <= j := by omega
     have h1 := zes hSS (k := (j : Int)) (by omega) (by have := hl1 hj0; omega)
     refine Vs 12 O ?_
     refine zjL tr119 O O (fun w hI => ⟨_, rfl, ⟨_, by rw [hp, h1], fun h => by rw [hp, h1] at h; cases h⟩, hI.k0⟩)
    ·
     refine Va 7 O (by omega) ?_
     refine zjz (j + 1) (zkZ O) (zl0 O) (⟨by omega, fun k h1 h2 h3 => by by_cases e : k = (j : Int); (· rw [e]; have := hl1 (by omega); omega); (· exact hzero k h1 (by omega) h3)⟩) (by first | omega | (dsimp only; omega)) 0 O O
   ·
    have hfin := zfs hSS hkd fun k h1 h3 => hzero k h1 (by omega) h3
    refine Vs 11 O ?_
    refine V.bool O (fun o1 => ?_) (fun o1 => ?_)
    ·
     have h3 : zt f.vars r = 3 := by rw [hfin, zna (by rw [ho] at o1; simpa using o1)]
     refine Vs 8 O ?_
     refine zjL tr119 O O (fun w hI => ⟨_, rfl, ⟨_, by rw [hp, h3], fun h => by rw [hp, h3] at h; cases h⟩, hI.k0⟩)
    ·
     have h0 : zt f.vars r = 0 := by rw [hfin, znb (by rw [ho] at o1; simpa using o1)]
     have hsv : yt f.vars r = s.vals := by unfold yt; rw [hSS]
     have hV : InV f.vars s.vals := hsv ▸ zaE h0
     refine zlN 901 3 1 O ?_
     refine Vs 12 O ?_
     refine zm5 (σ := Nat × Value) [7, 98, 99] [900] [7] O (fun e ⟨i, hv⟩ => (100, .int .i64 i) :: e) (fun e ⟨i, hv⟩ => (24, .own b24 [.slice av f.vars.length cv, .slice ah f.hatches.length ch, v3, vv, hv, .slice none 0 0, .int .i64 0] 180) :: (901, .row 3 1 hv i ((zdW s.vals (f.hatches.take i)).map ze)) :: e) (fun ⟨i, hv⟩ => i <= f.hatches.length) (fun ⟨i, hv⟩ => f.hatches.length - i) ((0, .slice none 0 0)) (zkZ O) (zl0 O) (fun _ => rfl) (fun _ => rfl) (fun _ => rfl) (znf _) ?_
     rintro ⟨i, hv⟩ hi
     show V _ _ _ _ _ ((100, .int .i64 i) :: _) _ ((24, .own b24 [.slice av f.vars.length cv, .slice ah f.hatches.length ch, v3, vv, hv, .slice none 0 0, .int .i64 0] 180) :: (901, .row 3 1 hv i ((zdW s.vals (f.hatches.take i)).map ze)) :: _) _
     refine Vs 6 O ?_
     refine zjo O (fun hlt => ?_) (fun hlt => ?_)
     ·
      refine Vs 6 O ?_
      obtain ⟨x, he_x, hm_x⟩ := gE_ f.hatches (i) (by omega)
      obtain ⟨b_x, o_x, c_x, ha_x, _, hc_x, hR_x⟩ := hht.at he_x
      obtain ⟨v1_x, rfl, hk_x⟩ := hR_x
      obtain ⟨a1_x, n1_x, rfl⟩ := hk_x.form
      refine zm1 3000 0 O O hc_x ?_
      refine zlK 3000 tR53 ts137 O ha_x (by omega) (_) (rfl) O ?_
      obtain ⟨g1, g2, _, g4⟩ := vd.hatch x hm_x
      refine Vs 1 O ?_
      refine V.alloc 16 tz137 O O (fun b16 => ?_)
      refine Vs 3 O ?_
      refine Vw [24, 3000, 16] [21] O ?_
      refine Vd [0, 1, 2, 3, 4, 5, 6, 7, 8, 9, 10, 12, 13, 14, 15] 0 (by kernel_rfl) O O O ?_
      refine zlU 11 0 tc148 O (by kernel_rfl) O O (fun w hI => jG vd.good hV x.term g1 g2 _ D (fun _ => True) w _ (zkx ze (fun _ _ => rfl) (hI.at 900 O) (fun _ _ => trivial)) (RTm.put (Tr1 hI.k0 hk_x))) ?_
      refine zlU 16 0 Tryz.call147 O (by kernel_rfl) O O (fun w hI => qz _ x.low x.high w g4) ?_
      refine zm9 17 121 0 [(0, _)] tR31 ts3 tz3 (by decide) O (by kernel_rfl) O O (by kernel_rfl) (fun b121 => ?_)
      refine zlP 18 901 121 0 tu31 Tryz.el3 O (by decide) O (by kernel_rfl) O O O (by omega) (by omega) (fun u901 => ?_)
      refine Vd [19, 20] 0 (by kernel_rfl) O O O ?_
      refine zlR 901 O (by omega) ?_
      rintro bh chh rfl hcap_901
      refine Vl 21 O (by kernel_rfl) O ?_
      refine VDx.done (by kernel_rfl) ?_
      refine Va 6 O (by omega) ?_
      refine zm4 901 O (e' := .row 3 1 (.slice (some ⟨bh, 0, none⟩) (i + 1) chh) (i + 1) ((zdW s.vals (f.hatches.take (i + 1))).map ze)) (by rw [zcx he_x, List.map_append]; rfl) ?_
      refine zjz (⟨i + 1, _⟩) (zkZ O) (zl0 O) (by omega) (by first | omega | (dsimp only; omega)) 0 O O
     ·
      obtain rfl : i = f.hatches.length := by omega
      have hsg : ji f r = ⟨s.vals, [], 0⟩ := by unfold ji; rw [hsv]
      have hht' : qX f r = zdW s.vals (f.hatches.take f.hatches.length) := by rw [zn5, <- hsv]
      rw [hsg, hht']
      refine Vs 13 O ?_
      refine zjL tr119 O O (fun w hI => ⟨_, rfl, ⟨_, by rw [hp, h0], fun _ => ⟨b24, vv, hv, rfl, zgE hI O O rfl⟩⟩, hI.k0⟩)
abbrev ziU (hv : Value) (l : List Int) : HE := .res (fun q => hv.ownBlock = some q) (fun w => SlR 1 zz (fun b => hv.ownBlock = some b) w hv l)
theorem zgF (hv : Value) (l : List Int) : (ziU hv l).loc := fun _ _ _ h hk hT => SlR.keep zb h hk fun q hq hlt => hT q hlt hq
theorem zgG {f : Fl} {r : Ins} {v1 v2 v3 : Value} {H : Hp} {W w : World} {g : FuncId} {args : Array Value} (_ : W.heap.size <= w.heap.size) (h0 : zy f r = 0)
  (hc : Calls Tryz.prog g args w (Ret fun rr w' => (∃ rv, rr = .tuple #[rv, .int .i64 (zy f r)] /\ (zy f r = 0 -> ∃ bm vv hv, rv = .pointer (some ⟨bm, 0, none⟩) /\ MachOk w' bm v1 v2 v3 vv hv (.slice none 0 0) (ji f r) /\ SlR 1 zz (fun b => hv.ownBlock = some b) w' hv (qX f r) /\ (∀ q, qQ bm vv (.slice none 0 0) q \/ hv.ownBlock = some q -> w.heap.size <= q /\ q < w'.heap.size) /\ ∀ q, qQ bm vv (.slice none 0 0) q -> hv.ownBlock ≠ some q)) /\ Ext w w')) :
  Calls Tryz.prog g args w (Ret fun rr w' => ∃ x : Nat × Value × Value, rr = .tuple #[.pointer (some ⟨x.1, 0, none⟩), .int .i64 0] /\ Hands H [] ((903, ziU x.2.2 (qX f r)) :: jk x.1 v1 v2 v3 x.2.1 x.2.2 (.slice none 0 0) (ji f r)) w w') := by
 refine hc.mono ?_
 rintro _ w' ⟨rr, rfl, ⟨rv, rfl, hs⟩, hk⟩
 obtain ⟨bm, vv, hv, rfl, hM, hh, hS, hap⟩ := hs h0
 obtain ⟨l1, l2⟩ := hM.lent
 refine ⟨_, rfl, (bm, vv, hv), by rw [h0], hk.mono fun q _ h => h.elim, fun x hx => ?_, List.pairwise_cons.2 ⟨fun x hx q hq hs => ?_, l2⟩⟩
 ·
  rcases zng.1 hx with rfl | hx
  . exact ⟨hh, zgF _ _, fun _ h => h, fun q hq => ⟨.inr (hS q (.inr hq)).1, (hS q (.inr hq)).2⟩⟩
  ·
   obtain ⟨k1, k2, k3, k4⟩ := l1 x hx
   exact ⟨k1, k2, k3, fun q hq => ⟨.inr (hS q (.inl (machHS.1 ⟨x, hx, hq⟩))).1, k4 q hq⟩⟩
 . exact hap q (machHS.1 ⟨x, hx, hs⟩) hq
theorem ziy {f : Fl} (vd : Valid f) : 0 + nbL f.body <= 100000 := by
 have := vd.nb; omega
theorem ziz {H : Hp} {w w0 : World} {D : Nat -> Prop} {bm : Nat} {v1 v2 v3 vv hv ov : Value} {σ : Sg} {l : List Int} (hI : VI [(w0, fun _ => False)] H w) (h0 : zo H 900 = some (.own bm [v1, v2, v3, vv, hv, ov, .int .i64 σ.time] 180)) (h1 : zo H 901 = some (.row 3 1 vv σ.vals.length (σ.vals.map ze))) (h2 : zo H 902 = some (.row 3 1 ov σ.outs.length (σ.outs.map ze))) (h3 : zo H 903 = some (ziU hv l)) : ∀ q, qQ bm vv ov q -> ¬ (D q /\ q < w0.heap.size) /\ hv.ownBlock ≠ some q := by
 rintro q (hq | hq | hq)
 . exact ⟨fun h => by have := hI.own 900 0 h0 O q hq; omega, fun h => zB hI.apart h0 h3 O q hq h⟩
 . exact ⟨fun h => by have := hI.own 901 0 h1 O q hq; omega, fun h => zB hI.apart h1 h3 O q hq h⟩
 . exact ⟨fun h => by have := hI.own 902 0 h2 O q hq; omega, fun h => zB hI.apart h2 h3 O q hq h⟩
theorem zet (f : Fl) (r : Ins) (v1 v2 v3 s1 s2 s3 : Value) (D : Nat -> Prop) (W : World) (hf0 : RFl D W f v1 v2 v3) (hi1 : SlR 1 zz D W s1 r.secret) (hi2 : SlR 1 zz D W s2 r.pub) (hi3 : SlR 1 zz D W s3 r.random) (hsz : zn f.body + zG f.hatches <= 1024) (hbk : zw f.body <= 1000000) :
  Calls Tryz.prog 87 #[.agg #[v1, v2, v3], .agg #[s1, s2, s3]] W (Ret fun rr w' => (∃ ov t, rr = .tuple #[.agg #[ov, .int .i64 t], .int .i64 (zy f r)] /\ (zy f r ≠ 0 -> ov = .slice none 0 0 /\ t = 0) /\ (zy f r = 0 -> t = (xF f r).time /\ SlR 1 zz (fun b => W.heap.size <= b) w' ov (xF f r).outs)) /\ Ext W w') := by
 have hf := hf0.narrow
 refine zlr Tryz.func87 O Tryz.ntmps87 O (zlC ?_)
 refine Vs 2 O ?_
 refine V.box 2 O O (fun b2 => ?_)
 refine V.box 3 O O (fun b3 => ?_)
 refine V.alloc 4 tz60 O O (fun b4 => ?_)
 refine Vs 4 O ?_
 refine zjF (p := zy f r = 0) (fun hc => ?_) (fun hc => ?_)
 ·
  have hck : zS f = 0 := by
   unfold zy at hc
   split at hc
   . rename_i h; exact absurd hc h
   . rename_i h; exact zn9.1 h
  have vd : Valid f := ⟨hck, hsz, hbk⟩
  have hst : zt f.vars r = 0 := by unfold zy at hc; rwa [zna (by omega)] at hc
  have hvl := vd.lens
  have hss := vd.ssize
  have hnb := ziy vd
  refine Vs 3 O ?_
  refine zmn [] (Hn := fun x : Nat × Value × Value => [(903, ziU x.2.2 (qX f r)), (900, .own x.1 [v1, v2, v3, x.2.1, x.2.2, (.slice none 0 0), .int .i64 (ji f r).time] 180), (901, .row 3 1 x.2.1 (ji f r).vals.length ((ji f r).vals.map ze)), (902, .row 3 1 (.slice none 0 0) (ji f r).outs.length ((ji f r).outs.map ze))]) [(2, some (2, 0)), (3, some (3, 0)), (4, some (4, 0))] Tryz.call119 O (fun _ _ => rfl) (fun _ => rfl) (fun w hI => zgG (hI.k0).size hc (kM f r v1 v2 v3 s1 s2 s3 D w (Tr1 hI.k0 hf0) (Tr1 hI.k0 hi1) (Tr1 hI.k0 hi2) (Tr1 hI.k0 hi3) hsz hbk)) ?_
  rintro _ ⟨bm, vv, hv⟩ rfl
  refine Vs 9 O ?_
  refine zlJ 6 900 0 O O ?_
  refine Vs 5 O ?_
  refine zjo O (fun c0 => ?_) (fun c0 => ?_)
  . exact absurd O c0
  ·
   refine Vs 7 O ?_
   refine zmn [900, 901, 902] (Hn := fun ov' : Value => [(900, .own bm [v1, v2, v3, vv, hv, ov', .int .i64 (xF f r).time] 180), (901, .row 3 1 vv (xF f r).vals.length ((xF f r).vals.map ze)), (902, .row 3 1 ov' (xF f r).outs.length ((xF f r).outs.map ze))]) [(2, some (2, 0)), (3, some (3, 0)), (4, some (4, 0)), (6, some (900, 0)), (18, some (900, 0)), (19, some (2, 2))] Tryz.call120 O (fun _ _ => rfl) (fun _ => rfl) (fun w hI => jl (σ := ji f r) (zhN f (qX f r) vd.good (by simp [zdW]) (by omega) f.body (kY vd) 0 (ji f r) (jK hst) hnb (fun b => D b /\ b < W.heap.size) (fun b => hv.ownBlock = some b) w bm v1 v2 v3 vv hv _ _ (fun q hq => hq.elim (fun h => Nat.lt_of_lt_of_le h.2 (hI.k0).size) (fun h => hI.low _ (zm (k := 903) O) q h)) (Tr1 hI.k0 hf) (hI.at 903 O) (Tr1 hI.k0 hf.body) (kL hI O O O) (ziz hI O O O O)) (hI.k0).size O O O) ?_
   rintro _ ov' ⟨rfl, hov⟩
   refine zlD (fun w hI => qH (show w.ownsRow 0 3 1 ov' _ _ from hI.at 902 O)) ?_
   rintro ⟨ao, co, rfl⟩
   refine Vs 3 O ?_
   refine Vw [2, 3, 4, 900] [9] O ?_
   refine Vd [0, 1, 2, 3, 4, 5, 6, 7] 0 (by kernel_rfl) O O O ?_
   refine zmf 8 [Value.slice none 0 0, Value.int IntKind.i64 0] [(0, 1), (1, 1)] [(0, _), (1, _)] O (by kernel_rfl) O O (fun _ => by kernel_rfl) ?_
   refine Vl 9 O (by kernel_rfl) O ?_
   refine Vx [10] (by kernel_rfl) O ?_
   refine VDx.done (by kernel_rfl) ?_
   refine Vs 2 O ?_
   refine zjT Tryz.results87 tg60 ts60 O O O O (fun w hI => ⟨_, rfl, ⟨_, _, by rw [hc], fun h => absurd hc h, fun _ => ⟨rfl, zkx ze (fun _ _ => rfl) (hI.at 902 O) (fun b hb => hI.own 902 0 O O b hb)⟩⟩, hI.k0⟩)
 ·
  refine Vs 3 O ?_
  refine zlV Tryz.call119 O (fun w hI => kM f r v1 v2 v3 s1 s2 s3 D w (Tr1 hI.k0 hf0) (Tr1 hI.k0 hi1) (Tr1 hI.k0 hi2) (Tr1 hI.k0 hi3) hsz hbk) ?_
  rintro rr w1 w2 hI1 hk12 ⟨rv, rfl, _⟩ hlow
  refine Vs 14 O ?_
  refine zjo O (fun c0 => ?_) (fun c0 => ?_)
  ·
   refine Vs 2 O ?_
   refine zme [Value.slice none 0 0, Value.int IntKind.i64 0] [(0, 1), (1, 1)] [] O O (fun _ => by kernel_rfl) ?_
   refine Vs 7 O ?_
   refine zjT Tryz.results87 tg60 ts60 O O O O (fun w hI => ⟨_, rfl, ⟨_, _, rfl, fun _ => ⟨rfl, rfl⟩, fun h => absurd h hc⟩, hI.k1⟩)
  . exact absurd hc c0
theorem zdZ (a : Int) (w : World) : Calls Tryz.prog 154 #[.int .i64 a] w (Ret fun r w' => r = .bool false /\ Ext w w') := by
 refine zlq Tryz.func154 O Tryz.ntmps154 O (Gs 14 O (zjH Tryz.results154 O ⟨_, rfl, by simp, Keep.refl _ _⟩))
theorem ziA (a b : Int) (w : World) : Calls Tryz.prog 125 #[.int .i64 a, .int .i64 b] w (Ret fun r w' => r = .int .i64 (if a < b then -1 else if b < a then 1 else 0) /\ Ext w w') := by
 refine zlr Tryz.func125 O Tryz.ntmps125 O (Gs 8 O (G.call O Tryz.call154 (zdZ a w) ?_))
 rintro _ w1 ⟨rfl, hk1⟩
 refine Gs 6 O (G.call O Tryz.call154 (zdZ b w1) ?_)
 rintro _ w2 ⟨rfl, hk2⟩
 refine Gs 9 O (G.ff O (rfl) (Gs 8 O (G.ff O (rfl) (Gs 10 O (zlf O (fun h => ?_) (fun h => ?_))))))
 . refine Gs 7 O (zjH Tryz.results125 O ⟨_, rfl, by rw [znb h], hk1.ext hk2⟩)
 ·
  refine Gs 10 O (zlf O (fun h2 => ?_) (fun h2 => ?_))
  . refine Gs 7 O (zjH Tryz.results125 O ⟨_, rfl, by rw [zna h, znb h2], hk1.ext hk2⟩)
  . refine Gs 8 O (zjH Tryz.results125 O ⟨_, rfl, by rw [zna h, zna (by omega)], hk1.ext hk2⟩)
def jL : List Int -> List Int -> Int
 | [], [] => 0
 | [], _ :: _ => -1
 | _ :: _, [] => 1
 | x :: xs, y :: ys => if x < y then -1 else if y < x then 1 else jL xs ys
theorem zdl (xs ys : List Int) (u v : Value) (D D' : Nat -> Prop) (w : World) (hx : SlR 1 zz D w u xs) (hy : SlR 1 zz D' w v ys) : Calls Tryz.prog 90 #[u, v] w (Ret fun r w' => r = .int .i64 (jL xs ys) /\ Ext w w') := by
 obtain ⟨ao, cx, rfl, hxc, hxm, hxe⟩ := hx
 obtain ⟨bo, cy, rfl, hyc, hym, hye⟩ := hy
 refine zlr Tryz.func90 O Tryz.ntmps90 O (Gs 14 O (G.loop (σ := Nat) (fun k => [(0, .slice ao xs.length cx), (1, .slice bo ys.length cy), (9, .slice ao xs.length cx), (10, .int .i64 xs.length), (11, .int .i64 k)]) (fun k => fun w' => k <= xs.length /\ k <= ys.length /\ jL (xs.drop k) (ys.drop k) = jL xs ys /\ Ext w w') (fun k => xs.length - k) (0) (zkZ O) (⟨znf _, znf _, rfl, Keep.refl _ _⟩) ?_))
 rintro k w1 ⟨hkx, hky, hc, hk1⟩
 refine Gs 6 O (zlf O (fun hlt => ?_) (fun hge => ?_))
 ·
  obtain ⟨x, hx⟩ : ∃ x, xs[k]? = some x := ⟨_, zn0 (by omega)⟩
  obtain ⟨b1, o1, c1, hao, _, hcl1, hcs1, rfl⟩ := hxe k x hx
  have hdx : xs.drop k = x :: xs.drop (k + 1) := by
   obtain ⟨h1, h2⟩ := zne.1 hx
   rw [List.drop_eq_getElem_cons h1, h2]
  refine Gs 7 O (zlg O O (zk6 tR31 ts3 O O hao (by omega)) (zlk O tg3 ((hk1.cells hcs1 (fun h => h)) 0 _ O) (Gs 13 O (zlf O (fun hgy => ?_) (fun hly => ?_)))))
  ·
   have : ys.drop k = [] := List.drop_of_length_le (by omega)
   refine Gs 12 O (zjH tr90 O ⟨_, rfl, by rw [<- hc, hdx, this]; rfl, hk1⟩)
  ·
   obtain ⟨y, hy⟩ : ∃ y, ys[k]? = some y := ⟨_, zn0 (by omega)⟩
   obtain ⟨b2, o2, c2, hbo, _, hcl2, hcs2, rfl⟩ := hye k y hy
   have hdy : ys.drop k = y :: ys.drop (k + 1) := by
    obtain ⟨h1, h2⟩ := zne.1 hy
    rw [List.drop_eq_getElem_cons h1, h2]
   have hcc : (if x < y then -1 else if y < x then 1 else jL (xs.drop (k + 1)) (ys.drop (k + 1))) = jL xs ys := by rw [<- hc, hdx, hdy]; rfl
   refine Gs 6 O (zlg O O (zk6 tR31 ts3 O O hbo (by omega)) (zlk O tg3 ((hk1.cells hcs2 (fun h => h)) 0 _ O) (Gs 7 O (G.call O Tryz.call125 (ziA x y w1) ?_))))
   rintro _ w2 ⟨rfl, hk2⟩
   refine Gs 9 O (zlf O (fun hn => ?_) (fun he => ?_))
   ·
    refine Gs 12 O (zjH tr90 O ⟨_, rfl, ?_, hk1.ext hk2⟩)
    rw [<- hcc]
    by_cases h1 : x < y
    . rw [znb h1, znb h1]
    ·
     by_cases h2 : y < x
     . rw [zna h1, znb h2, zna h1, znb h2]
     . exact absurd (by rw [zna h1, zna h2]) hn
   ·
    have h1 : ¬ x < y := fun h => he (by rw [znb h]; decide)
    have h2 : ¬ y < x := fun h => he (by rw [zna h1, znb h]; decide)
    rw [zna h1, zna h2] at hcc
    refine Ga 7 O (by omega) (zjy (k + 1) (zkZ O) (⟨by omega, by omega, hcc, hk1.ext hk2⟩) (by first | omega | (dsimp only; omega)))
 ·
  have hdx : xs.drop k = [] := List.drop_of_length_le (by omega)
  refine Gs 15 O (zlf O (fun hl2 => ?_) (fun hg2 => ?_))
  ·
   obtain ⟨y, hy⟩ : ∃ y, ys[k]? = some y := ⟨_, zn0 (by omega)⟩
   have hdy : ys.drop k = y :: ys.drop (k + 1) := by
    obtain ⟨h1, h2⟩ := zne.1 hy
    rw [List.drop_eq_getElem_cons h1, h2]
   refine Gs 7 O (zjH tr90 O ⟨_, rfl, by rw [<- hc, hdx, hdy]; rfl, hk1⟩)
  ·
   have hdy : ys.drop k = [] := List.drop_of_length_le (by omega)
   refine Gs 8 O (zjH tr90 O ⟨_, rfl, by rw [<- hc, hdx, hdy]; rfl, hk1⟩)
def yD (x y : List Int × Int) : Int := if jL x.1 y.1 ≠ 0 then jL x.1 y.1 else if x.2 < y.2 then -1 else if y.2 < x.2 then 1 else 0
theorem xN (x y : List Int × Int) (u v : Value) (D D' : Nat -> Prop) (W : World) (hx : SlR 1 zz D W u x.1) (hy : SlR 1 zz D' W v y.1) :
  Calls Tryz.prog 54 #[.agg #[u, .int .i64 x.2], .agg #[v, .int .i64 y.2]] W (Ret fun r w' => r = .int .i64 (yD x y) /\ Ext W w') := by
 refine zlr Tryz.func54 O Tryz.ntmps54 O (zlC ?_)
 refine Vs 2 O ?_
 refine V.box 2 O O (fun b2 => ?_)
 refine V.box 3 O O (fun b3 => ?_)
 refine Vs 10 O ?_
 refine zlT Tryz.call90 O (fun w hI => zdl x.1 y.1 u v D D' w (Tr1 hI.k0 hx) (Tr1 hI.k0 hy)) ?_
 refine Vs 9 O ?_
 refine zjo O (fun h0 => ?_) (fun h0 => ?_)
 ·
  refine Vs 8 O ?_
  refine zjI tr54 O (fun w hI => ⟨_, rfl, by unfold yD; rw [znb h0], hI.k0⟩)
 ·
  refine Vs 14 O ?_
  refine zjo O (fun h1 => ?_) (fun h1 => ?_)
  ·
   refine Vs 8 O ?_
   refine zjI tr54 O (fun w hI => ⟨_, rfl, by unfold yD; rw [zna h0, znb h1], hI.k0⟩)
  ·
   refine Vs 10 O ?_
   refine zjo O (fun h2 => ?_) (fun h2 => ?_)
   ·
    refine Vs 8 O ?_
    refine zjI tr54 O (fun w hI => ⟨_, rfl, by unfold yD; rw [zna h0, zna h1, znb h2], hI.k0⟩)
   ·
    refine Vs 9 O ?_
    refine zjI tr54 O (fun w hI => ⟨_, rfl, by unfold yD; rw [zna h0, zna h1, zna (by omega)], hI.k0⟩)
def zdm : List Vr -> List Int -> Int -> Option Int
 | v :: vs, x :: xs, n => if x < v.low \/ v.high < x then none else zdm vs xs (n * (v.high - v.low + 1) + x - v.low)
 | _, _, n => some n
def qk (k : Int) (vs : List Vr) (r : List Int) : Int × Int :=
 if (zk k vs).isSome then (if r.length = (zd k vs).length then (match zdm (zd k vs) r 0 with | none => (0, 3) | some n => (n, 0)) else (0, 2)) else (0, 4)
theorem zeu {k : Int} {vs : List Vr} (h : (zk k vs).isSome = true) (i : Nat) : ∃ m, zQ k ((zd k vs).take i) 1 = some m := by
 unfold zk at h
 rw [<- yp, <- List.take_append_drop i (zd k vs), zL] at h
 cases hm : zQ k ((zd k vs).take i) 1 with
 | none => rw [hm] at h; cases h
 | some m => exact ⟨m, rfl⟩
theorem xS {k : Int} {vs : List Vr} {v : Vr} (h : v ∈ zd k vs) : v ∈ vs := (List.mem_filter.1 h).1
theorem qg {α : Type} {l : List α} {i : Nat} {x : α} (h : l[i]? = some x) : l.drop i = x :: l.drop (i + 1) := by
 obtain ⟨h1, h2⟩ := zne.1 h
 rw [List.drop_eq_getElem_cons h1, h2]
theorem zft {n m s x l : Int} (h0 : 0 <= n) (h1 : n < m) (h2 : x - l < s) (h3 : 0 <= x - l) (h4 : m * s <= 4096) : 0 <= n * s /\ n * s <= 4096 /\ n * s + x - l < m * s /\ 0 <= n * s + x - l := by
 have hs : 0 <= s := by omega
 have a : 0 <= n * s := znu h0 hs
 have b : (n + 1) * s <= m * s := Int.mul_le_mul_of_nonneg_right (by omega) hs
 rw [Int.add_mul, Int.one_mul] at b
 omega
theorem zev (vs : List Vr) (k : Int) (r : List Int) (vv rv : Value) (D D' : Nat -> Prop) (W : World) (hk : 0 <= k /\ k <= 3) (hg : ∀ v ∈ vs, yg (v.low, v.high)) (hlen : vs.length <= 1000000) (hvs : SlR 5 RVr D W vv vs) (hr : SlR 1 zz D' W rv r) :
  Calls Tryz.prog 96 #[vv, .int .i64 k, rv] W (Ret fun rr w' => rr = .tuple #[.int .i64 (qk k vs r).1, .int .i64 (qk k vs r).2] /\ Ext W w') := by
 obtain ⟨ar, cr, rfl⟩ := hr.form
 have hmr := hr.max
 refine zls Tryz.func96 O Tryz.ntmps96 O (zlC ?_)
 refine zjF (p := (zk k vs).isSome = true) (fun hc => ?_) (fun hc => ?_)
 ·
  refine Vs 10 O ?_
  refine zlV tc117 O (fun w hI => qC vs k vv D w hk hg (Tr1 hI.k0 hvs) hlen) ?_
  rintro rr w1 w2 hI1 hk12 ⟨vl, rfl, hs1, _⟩ hlow
  have hos := hs1 hc
  obtain ⟨al, cl, rfl⟩ := hos.form
  have hml := hos.max
  refine Vs 18 O ?_
  refine zjo O (fun c0 => ?_) (fun c0 => ?_)
  . exact absurd (znb hc) c0
  ·
   refine Vs 10 O ?_
   refine zjo O (fun c1 => ?_) (fun c1 => ?_)
   ·
    refine Vs 9 O ?_
    refine zjL tr96 O O (fun w hI => ⟨_, rfl, by unfold qk; rw [znb hc, zna (by omega)], hI.k1⟩)
   ·
    have hel : r.length = (zd k vs).length := by omega
    refine Vs 17 O ?_
    refine zm5 (σ := Nat × Int) [2, 31, 32] [] [] O (fun e ⟨i, n⟩ => (11, .int .i64 n) :: (33, .int .i64 i) :: e) (fun e ⟨i, n⟩ => e) (fun ⟨i, n⟩ => i <= (zd k vs).length /\ zdm ((zd k vs).drop i) (r.drop i) n = zdm (zd k vs) r 0 /\ ∃ m, zQ k ((zd k vs).take i) 1 = some m /\ 0 <= n /\ n < m) (fun ⟨i, n⟩ => (zd k vs).length - i) ((0, 0)) (zkZ O) (zl0 O) (fun _ => rfl) (fun _ => rfl) (fun _ => rfl) (⟨znf _, rfl, 1, rfl, by omega, by omega⟩) ?_
    rintro ⟨i, n⟩ ⟨hi, hrk, m, hm, hn0, hn1⟩
    show V _ _ _ _ _ ((11, .int .i64 n) :: (33, .int .i64 i) :: _) _ (_) _
    refine Vs 6 O ?_
    refine zjo O (fun hlt => ?_) (fun hlt => ?_)
    ·
     refine Vs 7 O ?_
     obtain ⟨x, he_x, hm_x⟩ := gE_ (zd k vs) (i) (by omega)
     obtain ⟨b_x, o_x, c_x, ha_x, hd_x, hc_x, hR_x⟩ := hos.atD he_x
     obtain rfl := hR_x
     refine zm2 1000 0 O O (fun h_ => by have h1_ := hlow _ h_; have h2_ := hd_x; first | omega | exact h1_ h2_) hc_x ?_
     refine zlK 1000 tR52 ts120 O ha_x (by omega) (_) (rfl) O ?_
     refine Vs 1 O ?_
     refine V.alloc 13 tz120 O O (fun b13 => ?_)
     refine Vs 6 O ?_
     obtain ⟨y, he_y, hm_y⟩ := gE_ r (i) (by omega)
     obtain ⟨b_y, o_y, c_y, ha_y, _, hc_y, hR_y⟩ := hr.at he_y
     obtain rfl := hR_y
     refine zm1 2000 1 O O hc_y ?_
     have hry : i < r.length := by omega
     have hgx := hg x (xS hm_x)
     unfold yg at hgx
     dsimp only at hgx
     have hdx := qg he_x
     have hdy := qg he_y
     refine Vq (by kernel_rfl) ?_
     refine Vs 2 O ?_
     refine zlM 2000 tR31 ts3 O ha_y (by omega) (_) (rfl) O ?_
     refine Vs 5 O ?_
     refine zld 45 O (fun b1 => ?_) (fun b1 => ?_)
     ·
      refine Vs 24 O ?_
      refine zjL tr96 O O (fun w hI => ⟨_, rfl, by unfold qk; rw [znb hc, znb hel, <- hrk, hdx, hdy]; unfold zdm; rw [znb (by omega)], hI.k1⟩)
     ·
      refine Vs 2 O ?_
      refine zlM 2000 tR31 ts3 O ha_y (by omega) (_) (rfl) O ?_
      refine Vs 7 O ?_
      refine zjo O (fun d1 => ?_) (fun d1 => ?_)
      ·
       refine Vs 13 O ?_
       refine zjL tr96 O O (fun w hI => ⟨_, rfl, by unfold qk; rw [znb hc, znb hel, <- hrk, hdx, hdy]; unfold zdm; rw [znb (by omega)], hI.k1⟩)
      ·
       obtain ⟨m', hm'⟩ := zeu hc (i + 1)
       have hp := ym k ((zd k vs).take (i + 1)) 1 m' (fun v hv => hg v (xS (List.mem_of_mem_take hv))) (by omega) (by omega) hm'
       have hst := hm'
       rw [zg he_x, zL, hm] at hst
       have hkx : x.kind = k := of_decide_eq_true (List.mem_filter.1 hm_x).2
       have hmm : m * (x.high - x.low + 1) = m' := by
        simp only [Option.bind, zQ] at hst
        rw [znb hkx] at hst
        split at hst
        . cases hst
        . exact Option.some.inj hst
       have hrs := zft (s := x.high - x.low + 1) (x := y) (l := x.low) hn0 hn1 (by omega) (by omega) (by omega)
       refine Vs 2 O ?_
       refine Vw [1000, 13, 2000] [] O ?_
       refine Vd [0, 1, 4, 5, 9, 10] 0 (by kernel_rfl) O O O ?_
       refine zlL 6 2000 tR31 ts3 O (by kernel_rfl) O ha_y (by omega) (_) (rfl) O ?_
       refine Vd [7] 0 (by kernel_rfl) O O O ?_
       refine zlU 2 0 Tryz.call118 O (by kernel_rfl) O O (fun w hI => jZ x w (hg x (xS hm_x))) ?_
       refine Vb [3, 8, 11, 12] 0 (by kernel_rfl) O O O (by omega) ?_
       refine VD.done (by kernel_rfl) ?_
       refine Va 6 O (by omega) ?_
       refine zjz ((i + 1, n * (x.high - x.low + 1) + y - x.low)) (zkZ O) (zl0 O) (⟨by omega, by rw [<- hrk, hdx, hdy]; conv => rhs; unfold zdm; rw [zna (by omega)], m', hm', by omega, by omega⟩) (by first | omega | (dsimp only; omega)) 0 O O
    ·
     have : i = (zd k vs).length := by omega
     subst this
     rw [List.drop_length, <- hel, List.drop_length] at hrk
     refine Vs 13 O ?_
     refine zjL tr96 O O (fun w hI => ⟨_, rfl, by unfold qk; rw [znb hc, znb hel, <- hrk]; rfl, hI.k1⟩)
 ·
  refine Vs 10 O ?_
  refine zlV tc117 O (fun w hI => qC vs k vv D w hk hg (Tr1 hI.k0 hvs) hlen) ?_
  rintro rr w1 w2 hI1 hk12 ⟨vl, rfl, _, _⟩ hlow
  refine Vs 18 O ?_
  refine zjo O (fun c0 => ?_) (fun c0 => ?_)
  ·
   refine Vs 10 O ?_
   refine zjL tr96 O O (fun w hI => ⟨_, rfl, by unfold qk; rw [zna hc, zna hc], hI.k1⟩)
  . exact absurd (by rw [zna hc]; decide) c0
def zD : List Vr -> Int -> List Int × Int
 | [], n => ([], n)
 | v :: vs, n => ((v.low + (zD vs n).2.tmod (v.high - v.low + 1)) :: (zD vs n).1, (zD vs n).2.tdiv (v.high - v.low + 1))
theorem xB : ∀ (vs : List Vr) (n : Int), (zD vs n).1.length = vs.length
 | [], _ => rfl
 | v :: vs, n => by simp [zD, xB vs n]
structure UnIn (os : List Vr) (n : Int) (i q : Int) (xs : List Int) : Prop where
 low : -1 <= i
 lt : i < os.length
 row : xs = List.replicate (i + 1).toNat 0 ++ (zD (os.drop (i + 1).toNat) n).1
 rest : q = (zD (os.drop (i + 1).toNat) n).2
 q0 : 0 <= q /\ q <= n
theorem zkA {os : List Vr} {n : Int} (h : 0 <= n) : UnIn os n ((os.length : Int) - 1) n (List.replicate os.length 0) := by
 have e : ((os.length : Int) - 1 + 1).toNat = os.length := by omega
 exact ⟨by omega, by omega, by rw [e, List.drop_length]; simp [zD], by rw [e, List.drop_length]; rfl, h, Int.le_refl _⟩
theorem UnIn.len {os : List Vr} {n i q : Int} {xs : List Int} (h : UnIn os n i q xs) : xs.length = os.length := by
 have := h.low
 have := h.lt
 rw [h.row, zn8, List.length_replicate, xB, List.length_drop]
 omega
theorem ze0 {k : Int} {vs : List Vr} (hg : ∀ v ∈ vs, yg (v.low, v.high)) (h : (zk k vs).isSome = true) : (zk k vs).getD 0 <= 4096 := by
 cases hm : zk k vs with
 | none => rw [hm] at h; cases h
 | some m => exact (ym k vs 1 m hg (by omega) (by omega) hm).2
theorem UnIn.step {os : List Vr} {n q : Int} {j : Nat} {xs : List Int} {x : Vr} (h : UnIn os n j q xs) (hx : os[j]? = some x) (hs : 1 <= x.high - x.low + 1) : UnIn os n ((j : Int) - 1) (q.tdiv (x.high - x.low + 1)) (xs.set j (x.low + q.tmod (x.high - x.low + 1))) := by
 have e1 : ((j : Int) + 1).toNat = j + 1 := by omega
 have e2 : ((j : Int) - 1 + 1).toNat = j := by omega
 have hx0 := h.row
 have hq0 := h.rest
 rw [e1] at hx0 hq0
 have hd : zD (os.drop j) n = ((x.low + q.tmod (x.high - x.low + 1)) :: (zD (os.drop (j + 1)) n).1, q.tdiv (x.high - x.low + 1)) := by
  rw [qg hx, zD, <- hq0]
 have hl := h.lt
 refine ⟨by omega, by omega, ?_, by rw [e2, hd], Int.tdiv_nonneg h.q0.1 (by omega), Int.le_trans (Int.tdiv_le_self _ h.q0.1) h.q0.2⟩
 rw [e2, hd, hx0, List.replicate_succ', List.append_assoc]
 rw [List.set_append_right _ _ (by simp)]
 simp
def zl (k : Int) (vs : List Vr) (n : Int) : Int :=
 if (zk k vs).isSome then (if n < 0 \/ (zk k vs).getD 0 <= n then 3 else 0) else 4
theorem kN (vs : List Vr) (k n : Int) (vv : Value) (D : Nat -> Prop) (W : World) (hk : 0 <= k /\ k <= 3) (hg : ∀ v ∈ vs, yg (v.low, v.high)) (hlen : vs.length <= 1000000) (hvs : SlR 5 RVr D W vv vs) :
  Calls Tryz.prog 86 #[vv, .int .i64 k, .int .i64 n] W (Ret fun rr w' => (∃ u, rr = .tuple #[u, .int .i64 (zl k vs n)] /\ (zl k vs n ≠ 0 -> u = .slice none 0 0) /\ (zl k vs n = 0 -> SlR 1 zz (fun b => W.heap.size <= b) w' u (zD (zd k vs) n).1)) /\ Ext W w') := by
 refine zls Tryz.func86 O Tryz.ntmps86 O (zlC ?_)
 refine zjF (p := (zk k vs).isSome = true) (fun hc => ?_) (fun hc => ?_)
 ·
  refine Vs 10 O ?_
  refine zlV tc117 O (fun w hI => qC vs k vv D w hk hg (Tr1 hI.k0 hvs) hlen) ?_
  rintro rr w1 w2 hI1 hk12 ⟨vl, rfl, hs1, _⟩ hlow
  have hos := hs1 hc
  obtain ⟨al, cl, rfl⟩ := hos.form
  have hml := hos.max
  have hN := ze0 hg hc
  have hol := zn6 (yA k vs) hlen
  refine Vs 18 O ?_
  refine zjo O (fun c0 => ?_) (fun c0 => ?_)
  . exact absurd (znb hc) c0
  ·
   refine Vs 5 O ?_
   refine zld 28 O (fun c1 => ?_) (fun c1 => ?_)
   ·
    have hC : zl k vs n = 3 := by unfold zl; rw [znb hc, znb (.inl c1)]
    refine Vs 17 O ?_
    refine zjL tr86 O O (fun w hI => ⟨_, rfl, ⟨_, by rw [hC], fun _ => rfl, fun h => by rw [hC] at h; cases h⟩, hI.k1⟩)
   ·
    refine Vs 7 O ?_
    refine zjo O (fun c2 => ?_) (fun c2 => ?_)
    ·
     have hC : zl k vs n = 3 := by unfold zl; rw [znb hc, znb (.inr c2)]
     refine Vs 9 O ?_
     refine zjL tr86 O O (fun w hI => ⟨_, rfl, ⟨_, by rw [hC], fun _ => rfl, fun h => by rw [hC] at h; cases h⟩, hI.k1⟩)
    ·
     have hC : zl k vs n = 0 := by unfold zl; rw [znb hc, zna (by omega)]
     refine Vs 7 O ?_
     refine zkl 35 tu31 Tryz.el3 O (by omega) (by omega) (zs := List.replicate (zd k vs).length (.int .i64 0)) (ziV _ _ O) (by simp) (fun b35 => ?_)
     refine zm4 35 O (e' := .row 3 1 (.slice (some ⟨b35, 0, none⟩) (zd k vs).length (zd k vs).length) (zd k vs).length ((List.replicate (zd k vs).length (0 : Int)).map ze)) (by rw [List.map_replicate]) ?_
     refine Va 13 O (by omega) ?_
     refine zm5 (σ := Int × Int × List Int) [8, 11] [] [] O (fun e ⟨i, q, xs⟩ => (12, .int .i64 i) :: (2, .int .i64 q) :: e) (fun e ⟨i, q, xs⟩ => (35, .row 3 1 (.slice (some ⟨b35, 0, none⟩) (zd k vs).length (zd k vs).length) (zd k vs).length (xs.map ze)) :: e) (fun ⟨i, q, xs⟩ => UnIn (zd k vs) n i q xs) (fun ⟨i, q, xs⟩ => (i + 1).toNat) ((((zd k vs).length : Int) - 1, n, List.replicate (zd k vs).length 0)) (zkZ O) (zl0 O) (fun _ => rfl) (fun _ => rfl) (fun _ => rfl) (zkA (by omega)) ?_
     rintro ⟨i, q, xs⟩ hU
     show V _ _ _ _ _ ((12, .int .i64 i) :: (2, .int .i64 q) :: _) _ ((35, .row 3 1 (.slice (some ⟨b35, 0, none⟩) (zd k vs).length (zd k vs).length) (zd k vs).length (xs.map ze)) :: _) _
     refine Vs 7 O ?_
     refine zjo O (fun hlt => ?_) (fun hlt => ?_)
     ·
      obtain ⟨j, rfl⟩ : ∃ j : Nat, i = j := ⟨i.toNat, by omega⟩
      have hjl := hU.lt
      refine Vs 8 O ?_
      obtain ⟨x, he_x, hm_x⟩ := gE_ (zd k vs) (j) (by omega)
      obtain ⟨b_x, o_x, c_x, ha_x, hd_x, hc_x, hR_x⟩ := hos.atD he_x
      obtain rfl := hR_x
      refine zm2 1000 0 O O (fun h_ => by have h1_ := hlow _ h_; have h2_ := hd_x; first | omega | exact h1_ h2_) hc_x ?_
      refine zlK 1000 tR52 ts120 O ha_x (by omega) (_) (rfl) O ?_
      have hgx := hg x (xS hm_x)
      unfold yg at hgx
      dsimp only at hgx
      have hq := hU.q0
      have hxl := hU.len
      have hr0 := Int.tmod_nonneg (x.high - x.low + 1) hq.1
      have hr1 := Int.tmod_lt_of_pos q (show 0 < x.high - x.low + 1 by omega)
      refine Vs 1 O ?_
      refine zlT Tryz.call118 O (fun w hI => jZ x w (hg x (xS hm_x))) ?_
      refine Vs 4 O ?_
      refine Vw [1000] [] O ?_
      refine Vd [0, 1, 2, 3, 7, 8] 0 (by kernel_rfl) O O O ?_
      refine zlL 4 1000 tR52 ts120 O (by kernel_rfl) O ha_x (by omega) (_) (rfl) O ?_
      refine Vd [5, 6] 0 (by kernel_rfl) O O O ?_
      refine zmg 9 O (by kernel_rfl) O (fun w => R.rem O O (by omega) (by omega)) ?_
      refine Vb [10, 11] 0 (by kernel_rfl) O O O (by omega) ?_
      refine zlS 12 35 0 (j) ts3 O (by kernel_rfl) O O (by omega) (by simp; omega) ?_
      refine VD.done (by kernel_rfl) ?_
      refine Vs 1 O ?_
      refine zm4 35 O (e' := .row 3 1 (.slice (some ⟨b35, 0, none⟩) (zd k vs).length (zd k vs).length) (zd k vs).length ((xs.set j (x.low + q.tmod (x.high - x.low + 1))).map ze)) (by rw [List.map_set] <;> rfl) ?_
      refine Vs 3 O ?_
      refine zlh O (fun w hI => R.quo O O (by omega) (by omega)) ?_
      refine Va 9 O (by omega) ?_
      refine zjz (⟨(j : Int) - 1, q.tdiv (x.high - x.low + 1), xs.set j (x.low + q.tmod (x.high - x.low + 1))⟩) (zkZ O) (zl0 O) (hU.step he_x (by omega)) (by first | omega | (dsimp only; omega)) 0 O O
     ·
      have hi : i = -1 := by have := hU.low; omega
      subst hi
      have hx := hU.row
      simp at hx
      refine Vs 13 O ?_
      refine zjL tr86 O O (fun w hI => ⟨_, rfl, ⟨_, by rw [hC], fun h => absurd hC h, fun _ => by rw [<- hx]; exact zkx ze (fun _ _ => rfl) (hI.at 35 O) (fun b hb => hI.own 35 1 O O b hb)⟩, hI.k1⟩)
 ·
  refine Vs 10 O ?_
  refine zlV tc117 O (fun w hI => qC vs k vv D w hk hg (Tr1 hI.k0 hvs) hlen) ?_
  rintro rr w1 w2 hI1 hk12 ⟨vl, rfl, _, _⟩ hlow
  have hC : zl k vs n = 4 := by unfold zl; rw [zna hc]
  refine Vs 18 O ?_
  refine zjo O (fun c0 => ?_) (fun c0 => ?_)
  ·
   refine Vs 10 O ?_
   refine zjL tr86 O O (fun w hI => ⟨_, rfl, ⟨_, by rw [hC, zna hc], fun _ => rfl, fun h => by rw [hC] at h; cases h⟩, hI.k1⟩)
  . exact absurd (by rw [zna hc]; decide) c0
abbrev Ob := List Int × Int
theorem zcB : ∀ (x y : List Int), jL y x = - jL x y
 | [], [] => rfl
 | [], _ :: _ => rfl
 | _ :: _, [] => rfl
 | a :: x, b :: y => by
  simp only [jL]
  have := zcB x y
  (repeat' split); all_goals omega
theorem zbI : ∀ {x y : List Int}, jL x y = 0 -> x = y
 | [], [], _ => rfl
 | [], _ :: _, h => by simp [jL] at h
 | _ :: _, [], h => by simp [jL] at h
 | a :: x, b :: y, h => by
  simp only [jL] at h
  split at h
  . simp at h
  ·
   split at h
   . simp at h
   . rw [show a = b by omega, zbI h]
theorem zaG : ∀ (x : List Int), jL x x = 0
 | [] => rfl
 | a :: x => by simp [jL, zaG x]
theorem zba : ∀ {x y z : List Int}, jL x y < 0 -> jL y z < 0 -> jL x z < 0
 | [], [], _, h, _ => by simp [jL] at h
 | [], _ :: _, [], _, h => by simp [jL] at h
 | [], _ :: _, _ :: _, _, _ => by simp [jL]
 | _ :: _, [], _, h, _ => by simp [jL] at h
 | _ :: _, _ :: _, [], _, h => by simp [jL] at h
 | a :: x, b :: y, c :: z, h, h' => by
  simp only [jL] at h h' ⊢
  by_cases h1 : a < b
  ·
   by_cases h2 : b < c
   . rw [znb (by omega)]; omega
   ·
    by_cases h3 : c < b
    . rw [zna h2, znb h3] at h'; omega
    . rw [znb (by omega)]; omega
  ·
   by_cases h2 : b < a
   . rw [zna h1, znb h2] at h; omega
   ·
    rw [zna h1, zna h2] at h
    by_cases h3 : b < c
    . rw [znb (by omega)]; omega
    ·
     by_cases h4 : c < b
     . rw [zna h3, znb h4] at h'; omega
     ·
      rw [zna h3, zna h4] at h'
      rw [zna (by omega), zna (by omega)]
      exact zba h h'
theorem xv (x y : Ob) : yD y x = - yD x y := by
 unfold yD
 have := zcB x.1 y.1
 (repeat' split); all_goals omega
theorem kn (x : Ob) : yD x x = 0 := by
 unfold yD
 simp [zaG]
theorem jM {x y : Ob} (h : yD x y = 0) : x = y := by
 unfold yD at h
 split at h
 . rename_i h1; exact absurd h h1
 ·
  rename_i h1
  split at h
  . simp at h
  ·
   split at h
   . simp at h
   . exact Prod.ext (zbI (zn9.1 h1)) (by omega)
theorem cmpOb_iff {x y : Ob} : yD x y = 0 ↔ x = y := ⟨jM, fun h => h ▸ kn x⟩
theorem zgH {x y : Ob} : yD x y < 0 ↔ jL x.1 y.1 < 0 \/ (x.1 = y.1 /\ x.2 < y.2) := by
 unfold yD
 by_cases h : x.1 = y.1
 ·
  have h1 : jL x.1 y.1 = 0 := by rw [h]; exact zaG _
  rw [zna (by rw [h1]; decide), h1]
  by_cases h2 : x.2 < y.2
  . simp [h2, h]
  ·
   rw [zna h2]
   by_cases h3 : y.2 < x.2
   . simp [h3, h2]
   . simp [h3, h2]
 ·
  have h1 : jL x.1 y.1 ≠ 0 := fun e => h (zbI e)
  rw [znb h1]
  simp [h]
theorem jm {x y z : Ob} (h : yD x y < 0) (h' : yD y z < 0) : yD x z < 0 := by
 rw [zgH] at h h' ⊢
 rcases h with h | ⟨h1, h2⟩
 ·
  rcases h' with h' | ⟨h3, h4⟩
  . exact .inl (zba h h')
  . exact .inl (h3 ▸ h)
 ·
  rcases h' with h' | ⟨h3, h4⟩
  . exact .inl (h1 ▸ h')
  . exact .inr ⟨h1.trans h3, by omega⟩
abbrev Asc (l : List Ob) : Prop := l.Pairwise fun a b => yD a b < 0
theorem Asc.irr {l : List Ob} {x : Ob} (h : Asc (x :: l)) : x ∉ l := fun hm => by
 have := (List.pairwise_cons.1 h).1 x hm
 rw [kn] at this
 omega
theorem zfu : ∀ {l l' : List Ob}, Asc l -> Asc l' -> (∀ x, x ∈ l ↔ x ∈ l') -> l = l'
 | [], [], _, _, _ => rfl
 | [], y :: l', _, _, h => absurd ((h y).2 (zn4 ..)) (by simp)
 | x :: l, [], _, _, h => absurd ((h x).1 (zn4 ..)) (by simp)
 | x :: l, y :: l', h1, h2, h => by
  have hxy : x = y := by
   rcases zng.1 ((h x).1 (zn4 ..)) with e | e
   . exact e
   ·
    rcases zng.1 ((h y).2 (zn4 ..)) with e' | e'
    . exact e'.symm
    ·
     have a := (List.pairwise_cons.1 h2).1 x e
     have b := (List.pairwise_cons.1 h1).1 y e'
     have c := xv x y
     omega
  subst hxy
  rw [zfu (List.pairwise_cons.1 h1).2 (List.pairwise_cons.1 h2).2 fun z => ?_]
  constructor
  ·
   intro hz
   rcases zng.1 ((h z).1 (zn3 _ hz)) with rfl | h3
   . exact absurd hz h1.irr
   . exact h3
  ·
   intro hz
   rcases zng.1 ((h z).2 (zn3 _ hz)) with rfl | h3
   . exact absurd hz h2.irr
   . exact h3
def zhh (x : Ob) : List Ob -> List Ob
 | [] => [x]
 | y :: l => if yD x y < 0 then x :: y :: l else if x = y then y :: l else y :: zhh x l
def zdn (l : List Ob) : List Ob := l.foldr zhh []
theorem mem_insO {x z : Ob} : ∀ {l : List Ob}, z ∈ zhh x l ↔ z = x \/ z ∈ l
 | [] => by simp [zhh]
 | y :: l => by
  simp only [zhh]
  split
  . simp
  ·
   split
   . rename_i h; subst h; simp
   ·
    simp only [zng, mem_insO (l := l)]
    constructor
    ·
     rintro (h | h | h)
     . exact .inr (.inl h)
     . exact .inl h
     . exact .inr (.inr h)
    ·
     rintro (h | h | h)
     . exact .inr (.inl h)
     . exact .inl h
     . exact .inr (.inr h)
theorem ze1 {x : Ob} : ∀ {l : List Ob}, Asc l -> Asc (zhh x l)
 | [], _ => List.pairwise_singleton _ _
 | y :: l, h => by
  simp only [zhh]
  split
  ·
   rename_i h1
   refine List.pairwise_cons.2 ⟨fun z hz => ?_, h⟩
   rcases zng.1 hz with rfl | hz
   . exact h1
   . exact jm h1 ((List.pairwise_cons.1 h).1 z hz)
  ·
   split
   . exact h
   ·
    rename_i h1 h2
    refine List.pairwise_cons.2 ⟨fun z hz => ?_, ze1 (List.pairwise_cons.1 h).2⟩
    rcases mem_insO.1 hz with rfl | hz
    ·
     have a := xv z y
     have b : yD z y ≠ 0 := fun e => h2 (jM e)
     omega
    . exact (List.pairwise_cons.1 h).1 z hz
theorem mem_distO {z : Ob} : ∀ {l : List Ob}, z ∈ zdn l ↔ z ∈ l
 | [] => Iff.rfl
 | x :: l => by
  show z ∈ zhh x (zdn l) ↔ _
  rw [mem_insO, mem_distO, zng]
theorem zcC : ∀ (l : List Ob), Asc (zdn l)
 | [] => List.Pairwise.nil
 | _ :: l => ze1 (zcC l)
theorem zgI {l m : List Ob} (h : Asc l) (hm : ∀ x, x ∈ l ↔ x ∈ m) : l = zdn m := zfu h (zcC m) fun x => by rw [hm, mem_distO]
theorem zcD {l s m : List Ob} (hp : s.Perm l) (hn : l.Nodup) (hs : s.Pairwise fun a b => ¬ yD b a < 0) (hm : ∀ x, x ∈ l ↔ x ∈ m) : s = zdn m := by
 have hsn : s.Nodup := hp.nodup_iff.2 hn
 refine zgI ?_ fun x => by rw [hp.mem_iff, hm]
 refine (hs.and hsn).imp ?_
 intro a b h
 have h1 := xv a b
 have h2 : yD a b ≠ 0 := fun e => h.2 (jM e)
 omega
end Go.Proofs.YtbkhagigkglgoaaGreatDoor
namespace Go.GL
def ROb : Rel (List Int × Int) := fun D w o cs => ∃ v, cs = [v, .int .i64 o.2] /\ SlR 1 zz D w v o.1
def RQu : Rel (Int × List Int) := fun D w q cs => ∃ v, cs = [.int .i64 q.1, v] /\ SlR 1 zz D w v q.2
def RPg : Rel Fl := fun D w f cs => ∃ v1 v2 v3, cs = [v1, v2, v3] /\ RFl D w f v1 v2 v3
theorem zaH : zX ROb := fun _ _ _ _ hD hk _ _ ⟨v, h1, h2⟩ => ⟨v, h1, h2.stable zb hD hk⟩
theorem xT : zX RQu := fun _ _ _ _ hD hk _ _ ⟨v, h1, h2⟩ => ⟨v, h1, h2.stable zb hD hk⟩
theorem zaI : zX RPg := fun _ _ _ _ hD hk _ _ ⟨v1, v2, v3, h1, h2⟩ => ⟨v1, v2, v3, h1, h2.vars.stable yX hD hk, h2.hatches.stable yY hD hk, h2.body.stable zf hD hk⟩
theorem zfv : xG ROb := fun _ _ _ _ ⟨v, h1, h2⟩ => ⟨v, h1, h2.narrow (by omega) yi⟩
theorem zcE : xG RQu := fun _ _ _ _ ⟨v, h1, h2⟩ => ⟨v, h1, h2.narrow (by omega) yi⟩
theorem zcF : xG RPg := fun _ _ _ _ ⟨v1, v2, v3, h1, h2⟩ => ⟨v1, v2, v3, h1, h2.narrow⟩
instance : StC ROb := ⟨zaH⟩
instance : StC RQu := ⟨xT⟩
instance : StC RPg := ⟨zaI⟩
instance : Dt ROb := ⟨zaH, zfv⟩
instance : Dt RQu := ⟨xT, zcE⟩
instance : Dt RPg := ⟨zaI, zcF⟩
theorem zhi (D : Nat -> Prop) {w : World} (x : List Int × Int) (cs : List Value) (h : ROb D w x cs) : ∀ u ∈ cs, u.oneCell' = true := by
 obtain ⟨v, rfl, h1⟩ := h
 obtain ⟨a, c, rfl⟩ := h1.form
 simp [Value.oneCell']
theorem zfw (D : Nat -> Prop) {w : World} (x : Int × List Int) (cs : List Value) (h : RQu D w x cs) : ∀ u ∈ cs, u.oneCell' = true := by
 obtain ⟨v, rfl, h1⟩ := h
 obtain ⟨a, c, rfl⟩ := h1.form
 simp [Value.oneCell']
@[ext] structure Ac where
 mode : Int
 budget : Int
 spent : Int
 left : List Int
 asked : List (Int × List Int)
deriving DecidableEq
structure RAc (D : Nat -> Prop) (w : World) (a : Ac) (v1 v2 : Value) : Prop where
 left : SlR 1 zz D w v1 a.left
 asked : SlR 2 RQu D w v2 a.asked
theorem RAc.ext {D : Nat -> Prop} {w w' : World} {a : Ac} {v1 v2 : Value} (h : RAc D w a v1 v2) (hk : Ext w w') : RAc D w' a v1 v2 := ⟨h.left.ext zb hk, h.asked.ext xT hk⟩
instance {D : Nat -> Prop} {w w' : World} {a : Ac} {v1 v2 : Value} : Tr (RAc D w a v1 v2) w w' (RAc D w' a v1 v2) := ⟨fun h hk => RAc.ext h hk⟩
theorem RAc.wide {D D' : Nat -> Prop} {w : World} {a : Ac} {v1 v2 : Value} (h : RAc D w a v1 v2) (hD : ∀ q, D q -> D' q) : RAc D' w a v1 v2 := ⟨h.left.wide zb hD, h.asked.wide xT hD⟩
section
variable {P : Program} {env : Env} {w : World} {dst : Option Tmp} {ty : TypeId} {pos : String} {aft : Array Edge} {g : Option (Nat × Bool)}
theorem M.bs0 {t e : TypeId} {k : Nat} (hu : ∀ w, (underlying t).run P w = .ok (.slice e) w) (hs : ∀ w, (sizeOf e).run P w = .ok k w) :
  yz P ⟨dst, .buildSlice t 0 #[], ty, pos, aft, g⟩ env w (fun u w' => ∃ b, u = .slice (some ⟨b, 0, none⟩) 0 0 /\ New w [] e b w') := by
 refine ⟨.slice (some ⟨w.heap.size, 0, none⟩) 0 0, w.alloc (.cells #[] e), ?_, _, rfl, New.mk w [] e⟩
 intro n a ha
 have h0 : Array.range 0 = #[] := Array.eq_empty_of_size_eq_zero (by simp)
 simp [execOp, Instr.buildSlice, hu, hs, newRow, Instr.fill, h0]
end
end Go.GL
namespace Go.Proofs.YtbkhagigkglgoaaGreatDoor
open Go.GL
theorem zbJ (vs : List Vr) (k : Int) (vv : Value) (D : Nat -> Prop) (w : World) (hvs : SlR 5 RVr D w vv vs) (hlen : vs.length <= 1000000) : Calls Tryz.prog 72 #[vv, .int .i64 k] w (Ret fun r w' => SlR 5 RVr (fun b => w.heap.size <= b) w' r (zd k vs) /\ Ext w w') := by
 obtain ⟨av, nv, rfl⟩ := hvs.form
 have hvs0 := hvs
 have hE := Keep.refl (fun _ => False) w
 refine zlr Tryz.func72 O Tryz.ntmps72 O (Gs 7 O (zkf O O (M.bs0 tR52 ts120) ?_))
 rintro _ w0 ⟨b0, rfl, hg_b0, hs_b0, hB_b0, hk_b0⟩
 obtain ⟨hE, hvs⟩ := Tr2 hk_b0 hE hvs
 have ho0 : w0.ownsRow 0 120 5 (.slice (some ⟨b0, 0, none⟩) 0 0) 0 [] := yv (k := 5) (n := 0) (cap := 0) hB_b0 (zno _) (by decide) rfl
 refine Gs 10 O (G.loop (σ := Nat × Value) (fun ⟨i, vl⟩ => [(0, .slice av vs.length nv), (1, .int .i64 k), (5, vl), (6, .int .i64 i)]) (fun ⟨i, vl⟩ => fun w' => i <= vs.length /\ w'.ownsRow 0 120 5 vl (zd k (vs.take i)).length ((zd k (vs.take i)).flatMap zd9) /\ (∀ q, vl.ownBlock = some q -> w.heap.size <= q) /\ Ext w w') (fun ⟨i, vl⟩ => vs.length - i) ((0, .slice (some ⟨b0, 0, none⟩) 0 0)) (zkZ O) (⟨znf _, ho0, fun q hq => by obtain rfl : b0 = q := Option.some.inj hq; omega, hE⟩) ?_)
 rintro ⟨i, vl⟩ w2 ⟨hi, hown, hfr, hE2⟩
 show G _ _ _ _ _ [(0, .slice av vs.length nv), (1, .int .i64 k), (5, vl), (6, .int .i64 i)] _
 have hvs2 := hvs0.ext yX hE2
 refine Gs 9 O (zjn O (fun hlt => ?_) (fun hlt => ?_))
 ·
  obtain ⟨x, he_x, hm_x⟩ := gE_ vs (i) (by omega)
  obtain ⟨b_x, o_x, c_x, ha_x, _, hc_x, hR_x⟩ := hvs2.at he_x
  have h1_x := RVr.one hR_x
  obtain rfl := hR_x
  have hlt_x : b_x < _ := zn2 _ _ (hc_x 0 _ rfl)
  have hot := zav (k := k) he_x
  have hol := yA k (vs.take i)
  rw [znt] at hol
  refine Gs 8 O (zlg O O (zk6 tR52 ts120 O O ha_x (by omega)) (Gs 1 O (zlk O tg89 (hc_x 1 _ O) (Gs 4 O (zjn O (fun hkx => ?_) (fun hkx => ?_))))))
  ·
   rw [znb hkx] at hot
   refine Gs 4 O (zlg O O (zk6 tR52 ts120 O O ha_x (by omega)) (zlm O tg120 ts120 hc_x O (zkf O O (M.buildSlice (cs := zd9 x) [(0, _)] tR52 ts120 tz120 (by decide) O (by kernel_rfl)) ?_)))
   rintro _ w5 ⟨b5, rfl, hg_b5, hs_b5, hB_b5, hk_b5⟩
   have hown5 := zR hown hk_b5 (fun _ _ h => h)
   have hE5 := hE2.ext hk_b5
   have hs5 := hE5.size
   refine zkf O O (M.append tu52 Tryz.el120 O (by decide) O O hown5 O (Cells.add hB_b5.cells) (zdP _) (by omega) (by omega)) ?_
   rintro vl' w6 ⟨hown6, hfr6, hk6, _⟩
   refine Ga 9 O (by omega) (zjy ((i + 1, vl')) (zkZ O) (⟨by omega, ?_, ?_, hE5.trans hk6 (fun q hq h => by have := hfr q h; omega)⟩) (by first | omega | (dsimp only; omega)))
   ·
    rw [hot, zn8, List.flatMap_append]
    exact hown6
   ·
    intro q hq
    rcases hfr6 with h | ⟨q', h, h'⟩
    . exact hfr q (by rw [<- h]; exact hq)
    . rw [h] at hq; cases hq; omega
  ·
   rw [zna hkx, List.append_nil] at hot
   refine Ga 8 O (by omega) (zjy ((i + 1, vl)) (zkZ O) (⟨by omega, by rw [hot]; exact hown, hfr, hE2⟩) (by first | omega | (dsimp only; omega)))
 ·
  obtain rfl : i = vs.length := by omega
  rw [zn5] at hown
  refine Gs 12 O (zjH Tryz.results72 O ⟨_, rfl, zky (by omega) zd9 zdO (fun x _ => rfl) hown hfr, hE2⟩)
theorem qh (vs : List Vr) (k : Int) (vv : Value) (D : Nat -> Prop) (w : World) (hvs : SlR 5 RVr D w vv vs) (hlen : vs.length <= 1000000) : Calls Tryz.prog 66 #[vv, .int .i64 k] w (Ret fun r w' => (∃ a b : Int, r = .tuple #[.int .i64 a, .int .i64 b]) /\ Ext w w') := by
 obtain ⟨av, nv, rfl⟩ := hvs.form
 have hE := Keep.refl (fun _ => False) w
 refine zlr Tryz.func66 O Tryz.ntmps66 O (Gs 8 O (zjB (σ := Bool) (fun q => [(0, .slice av vs.length nv), (1, .int .i64 k), (23, .bool q)]) (fun q => fun w' => w' = w) ?_ ?_))
 ·
  refine Gs 4 O (zlb 12 O (fun hh1 => ?_) (fun hh1 => ?_))
  ·
   refine Gs 4 O (zlb 16 O (fun hh2 => ?_) (fun hh2 => ?_))
   ·
    refine Gs 4 O (zlb 20 O (fun hh3 => ?_) (fun hh3 => ?_))
    ·
     refine Gs 4 O ?_
     refine zjD (_) (zkZ O) (rfl)
    ·
     refine Gs 4 O ?_
     refine zjD (_) (Sub.cons O (Sub.cons O (Sub.cons (by first | rfl | (show some (Value.bool false) = some (Value.bool _); simp [*])) Sub.nil))) (rfl)
   ·
    refine Gs 8 O ?_
    refine zjD (_) (Sub.cons O (Sub.cons O (Sub.cons (by first | rfl | (show some (Value.bool false) = some (Value.bool _); simp [*])) Sub.nil))) (rfl)
  ·
   refine Gs 12 O ?_
   refine zjD (_) (Sub.cons O (Sub.cons O (Sub.cons (by first | rfl | (show some (Value.bool false) = some (Value.bool _); simp [*])) Sub.nil))) (rfl)
 rintro q w1 hw1
 subst hw1
 refine Gs 1 O (G.bool O (fun q1 => ?_) (fun q1 => ?_))
 . refine Gs 8 O (zjK tr66 O O ⟨_, rfl, ⟨_, _, rfl⟩, hE⟩)
 ·
  refine Gs 6 O (G.call O Tryz.call72 (zbJ vs k _ D _ hvs hlen) ?_)
  rintro _ wz4 ⟨hl, hz4⟩
  obtain ⟨hE, hvs⟩ := Tr2 hz4 hE hvs
  have hol := yA k vs
  generalize zd k vs = l at hl hol
  obtain ⟨al, nl, rfl⟩ := hl.form
  refine Gs 10 O ?_
  have hlm := hl.max
  refine G.loop (σ := Nat) (fun i => [(6, .slice al l.length nl), (7, .int .i64 i)]) (fun i => fun w' => i <= l.length /\ (∀ v ∈ l.take i, v.low <= v.high /\ -1048576 <= v.low /\ v.high <= 1048576) /\ Ext wz4 w') (fun i => l.length - i) (0) (zkZ O) (⟨znf _, by simp, Keep.refl _ _⟩) ?_
  rintro i w2 ⟨hi, hgood, hL1⟩
  obtain ⟨hE, hvs, hl⟩ := Tr3 hL1 hE hvs hl
  refine Gs 9 O (zjn O (fun hlt => ?_) (fun hlt => ?_))
  ·
   obtain ⟨x, he_x, hm_x⟩ := gE_ l (i) (by omega)
   obtain ⟨b_x, o_x, c_x, ha_x, _, hc_x, hR_x⟩ := hl.at he_x
   have h1_x := RVr.one hR_x
   obtain rfl := hR_x
   have hlt_x : b_x < _ := zn2 _ _ (hc_x 0 _ rfl)
   refine Gs 5 O (Qt (by kernel_rfl) (Gs 2 O (zlj O O (fun w1 hw1 => zk6 tR52 ts120 O O ha_x (by omega)) (Gs 1 O (zll O tg3 (fun w1 hw1 => ((hw1.cells hc_x (fun h => h)) 2 _ O)) (Gs 2 O (zlj O O (fun w1 hw1 => zk6 tR52 ts120 O O ha_x (by omega)) (Gs 1 O (zll O tg3 (fun w1 hw1 => ((hw1.cells hc_x (fun h => h)) 3 _ O)) (Gs 2 O (zlb 44 O (fun p1 => ?_) (fun p1 => ?_))))))))))))
   ·
    refine Gs 15 O (zln (fun wz5 hz5 => ?_))
    obtain ⟨hE, hvs, hl, hL1, hc_x⟩ := Tr5 hz5 hE hvs hl hL1 hc_x
    refine Gs 14 O (zjK tr66 O O ⟨_, rfl, ⟨_, _, rfl⟩, hE⟩)
   ·
    refine Gs 2 O (zlj O O (fun w1 hw1 => zk6 tR52 ts120 O O ha_x (by omega)) (Gs 1 O (zll O tg3 (fun w1 hw1 => ((hw1.cells hc_x (fun h => h)) 2 _ O)) (Gs 3 O (zlb 52 O (fun p2 => ?_) (fun p2 => ?_))))))
    ·
     refine Gs 7 O (zln (fun wz6 hz6 => ?_))
     obtain ⟨hE, hvs, hl, hL1, hc_x⟩ := Tr5 hz6 hE hvs hl hL1 hc_x
     refine Gs 14 O (zjK tr66 O O ⟨_, rfl, ⟨_, _, rfl⟩, hE⟩)
    ·
     refine Gs 2 O (zlj O O (fun w1 hw1 => zk6 tR52 ts120 O O ha_x (by omega)) (Gs 1 O (zll O tg3 (fun w1 hw1 => ((hw1.cells hc_x (fun h => h)) 3 _ O)) (Gs 2 O (zln (fun wz7 hz7 => ?_))))))
     obtain ⟨hE, hvs, hl, hL1, hc_x⟩ := Tr5 hz7 hE hvs hl hL1 hc_x
     refine Gs 1 O (zjn O (fun p3 => ?_) (fun p3 => ?_))
     . refine Gs 12 O (zjK tr66 O O ⟨_, rfl, ⟨_, _, rfl⟩, hE⟩)
     ·
      refine Ga 8 O (by omega) ?_
      have hgood2 : ∀ v ∈ l.take (i + 1), v.low <= v.high /\ -1048576 <= v.low /\ v.high <= 1048576 := fun v hv => by
       rw [zg he_x, znj, zni] at hv
       rcases hv with hv | rfl
       . exact hgood v hv
       . omega
      refine zjy (i + 1) (zkZ O) (⟨by omega, hgood2, hL1⟩) (by first | omega | (dsimp only; omega))
  ·
   obtain rfl : i = l.length := by omega
   rw [zn5] at hgood
   refine Gs 17 O (G.loop (σ := Nat × Int) (fun ⟨j, n⟩ => [(6, .slice al l.length nl), (8, .int .i64 n), (9, .int .i64 j)]) (fun ⟨j, n⟩ => fun w' => j <= l.length /\ 0 <= n /\ n <= 4096 /\ Ext w2 w') (fun ⟨j, n⟩ => l.length - j) ((0, 1)) (zkZ O) (⟨znf _, by decide, by decide, Keep.refl _ _⟩) ?_)
   rintro ⟨j, n⟩ w3 ⟨hj, hn0, hn1, hL2⟩
   show G _ _ _ _ _ [(6, .slice al l.length nl), (8, .int .i64 n), (9, .int .i64 j)] _
   obtain ⟨hE, hvs, hl, hL1⟩ := Tr4 hL2 hE hvs hl hL1
   refine Gs 9 O (zjn O (fun hlt2 => ?_) (fun hlt2 => ?_))
   ·
    obtain ⟨x, he_x, hm_x⟩ := gE_ l (j) (by omega)
    obtain ⟨b_x, o_x, c_x, ha_x, _, hc_x, hR_x⟩ := hl.at he_x
    have h1_x := RVr.one hR_x
    obtain rfl := hR_x
    have hlt_x : b_x < _ := zn2 _ _ (hc_x 0 _ rfl)
    have hgx := hgood x hm_x
    have hm1 : 0 <= n * (x.high - x.low + 1) := znu hn0 (by omega)
    have hm2 : n * (x.high - x.low + 1) <= 4096 * 2097153 := Int.mul_le_mul hn1 (by omega) (by omega) (by omega)
    refine Gs 5 O (Qt (by kernel_rfl) (Gs 3 O (zlj O O (fun w1 hw1 => zk6 tR52 ts120 O O ha_x (by omega)) (Gs 1 O (zll O tg3 (fun w1 hw1 => ((hw1.cells hc_x (fun h => h)) 3 _ O)) (Gs 2 O (zlj O O (fun w1 hw1 => zk6 tR52 ts120 O O ha_x (by omega)) (Gs 1 O (zll O tg3 (fun w1 hw1 => ((hw1.cells hc_x (fun h => h)) 2 _ O)) (Ga 4 O (by omega) (zln (fun wz8 hz8 => ?_))))))))))))
    obtain ⟨hE, hvs, hl, hL1, hL2, hc_x⟩ := Tr6 hz8 hE hvs hl hL1 hL2 hc_x
    refine Gs 7 O (zjn O (fun p4 => ?_) (fun p4 => ?_))
    . refine Gs 12 O (zjK tr66 O O ⟨_, rfl, ⟨_, _, rfl⟩, hE⟩)
    . refine Ga 8 O (by omega) (zjy ((j + 1, n * (x.high - x.low + 1))) (zkZ O) (⟨by omega, hm1, by omega, hL2⟩) (by first | omega | (dsimp only; omega)))
   . refine Gs 13 O (zjK tr66 O O ⟨_, rfl, ⟨_, _, rfl⟩, hE⟩)
def jN : List Vr -> Int
 | [] => 1
 | v :: vs => (v.high - v.low + 1) * jN vs
theorem jO : ∀ {vs : List Vr}, (∀ v ∈ vs, 1 <= v.high - v.low + 1) -> 1 <= jN vs
 | [], _ => Int.le_refl _
 | v :: vs, h => by
  have h1 := h v (zn4 ..)
  have h2 := jO (vs := vs) fun x hx => h x (zn3 _ hx)
  have : (1 : Int) * 1 <= (v.high - v.low + 1) * jN vs := Int.mul_le_mul h1 h2 (by omega) (by omega)
  exact this
theorem zaJ {k : Int} : ∀ (vs : List Vr) (n m : Int), (∀ v ∈ vs, v.kind = k) -> zQ k vs n = some m -> m = n * jN vs
 | [], n, m, _, h => by simp only [zQ, Option.some.injEq] at h; rw [<- h, jN, Int.mul_one]
 | v :: vs, n, m, hk, h => by
  simp only [zQ] at h
  rw [znb (hk v (zn4 ..))] at h
  split at h
  . cases h
  . rw [zaJ vs _ m (fun x hx => hk x (zn3 _ hx)) h, jN, Int.mul_assoc]
theorem zew {k : Int} {vs : List Vr} {m : Int} (h : zk k vs = some m) : m = jN (zd k vs) := by
 unfold zk at h
 rw [<- yp] at h
 rw [zaJ (zd k vs) _ _ (fun v hv => of_decide_eq_true (List.mem_filter.1 hv).2) h, Int.one_mul]
theorem zaK : ∀ {vs : List Vr} {r : Int}, 0 <= r -> (∀ v ∈ vs, 1 <= v.high - v.low + 1) -> (zD vs r).2 = r / jN vs
 | [], r, _, _ => by simp [zD, jN]
 | v :: vs, r, h0, h => by
  have h1 := h v (zn4 ..)
  have hp := jO (vs := vs) fun x hx => h x (zn3 _ hx)
  rw [zD]
  simp only
  rw [zaK h0 fun x hx => h x (zn3 _ hx), Int.tdiv_eq_ediv_of_nonneg (Int.ediv_nonneg h0 (by omega)), Int.ediv_ediv, zna (by omega), jN, Int.mul_comm (v.high - v.low + 1), Int.sub_zero]
theorem zbb {r : Int} (h0 : 0 <= r) : ∀ {vs : List Vr} {i : Nat} {x : Vr}, (∀ v ∈ vs, 1 <= v.high - v.low + 1) -> vs[i]? = some x -> (zD vs r).1[i]? = some (x.low + (r / jN (vs.drop (i + 1))).tmod (x.high - x.low + 1))
 | [], _, _, _, hx => by simp at hx
 | v :: vs, 0, x, h, hx => by
  simp only [List.getElem?_cons_zero, Option.some.injEq] at hx
  subst hx
  simp only [zD, List.getElem?_cons_zero, List.drop_succ_cons, List.drop_zero]
  rw [zaK h0 fun x hx => h x (zn3 _ hx)]
 | v :: vs, i + 1, x, h, hx => by
  simp only [List.getElem?_cons_succ] at hx
  simp only [zD, List.getElem?_cons_succ, List.drop_succ_cons]
  exact zbb h0 (fun x hx => h x (zn3 _ hx)) hx
end Go.Proofs.YtbkhagigkglgoaaGreatDoor
namespace Go.GL
theorem yI {p : Prop} [Decidable p] (h : p) : some (Value.bool true) = some (Value.bool (decide p)) := by rw [znc h]
theorem yJ {p : Prop} [Decidable p] (h : ¬ p) : some (Value.bool false) = some (Value.bool (decide p)) := by rw [znd h]
theorem yK {q p : Prop} [Decidable q] [Decidable p] (h : q ↔ p) : some (Value.bool (decide q)) = some (Value.bool (decide p)) := by rw [znr.2 h]
end Go.GL
namespace Go.Proofs.YtbkhagigkglgoaaGreatDoor
open Go.GL
theorem zdo (vs : List Vr) (k : Int) (vv : Value) (D : Nat -> Prop) (W : World) (hk : 0 <= k /\ k <= 3) (hg : ∀ v ∈ vs, yg (v.low, v.high)) (hlen : vs.length <= 1000000) (hvs : SlR 5 RVr D W vv vs) :
  Calls Tryz.prog 66 #[vv, .int .i64 k] W (Ret fun r w' => r = .tuple #[.int .i64 ((zk k vs).getD 0), .int .i64 (if (zk k vs).isSome then 0 else 4)] /\ Ext W w') := by
 have hgo : ∀ v ∈ zd k vs, yg (v.low, v.high) := fun v hv => hg v (List.mem_filter.1 hv).1
 have hsp : zQ k (zd k vs) 1 = zk k vs := yp k vs 1
 have hall : ∀ v ∈ zd k vs, v.kind = k := fun v hv => by simpa using (List.mem_filter.1 hv).2
 have hol := zn6 (yA k vs) hlen
 refine zlr Tryz.func66 O Tryz.ntmps66 O (zlC ?_)
 refine Vs 8 O ?_
 refine zm6 (σ := Unit) [0, 1] [] [] O (fun e u => (23, .bool (decide (¬ (0 <= k /\ k <= 3)))) :: e) (fun e u => e) (fun u => True) (fun _ => rfl) (fun _ => rfl) ?_ ?_
 ·
  refine Vs 4 O ?_
  refine zld 12 O (fun k1_ => ?_) (fun k1_ => ?_)
  ·
   refine Vs 4 O ?_
   refine zld 16 O (fun k2_ => ?_) (fun k2_ => ?_)
   ·
    refine Vs 4 O ?_
    refine zld 20 O (fun k3_ => ?_) (fun k3_ => ?_)
    ·
     refine Vs 4 O ?_
     refine zjE (()) (Sub.cons (by first | exact yI (by omega) | exact yJ (by omega) | exact yK (by omega)) (zkZ O)) (zl0 O) (trivial) 0 O O
    ·
     refine Vs 4 O ?_
     refine zjE (()) (Sub.cons (by first | exact yI (by omega) | exact yJ (by omega) | exact yK (by omega)) (zkZ O)) (zl0 O) (trivial) 0 O O
   ·
    refine Vs 8 O ?_
    refine zjE (()) (Sub.cons (by first | exact yI (by omega) | exact yJ (by omega) | exact yK (by omega)) (zkZ O)) (zl0 O) (trivial) 0 O O
  ·
   refine Vs 12 O ?_
   refine zjE (()) (Sub.cons (by first | exact yI (by omega) | exact yJ (by omega) | exact yK (by omega)) (zkZ O)) (zl0 O) (trivial) 0 O O
 rintro u _
 refine Vs 1 O ?_
 refine zjo O (fun h0 => ?_) (fun h0 => ?_)
 . exact absurd hk h0
 ·
  refine Vs 6 O ?_
  refine zlV Tryz.call72 O (fun w hI => zbJ vs k vv D w (Tr1 hI.k0 hvs) hlen) ?_
  rintro l w1 w2 hI1 hk12 hos hlow
  obtain ⟨al, cl, rfl⟩ := hos.form
  have hml := hos.max
  refine Vs 10 O ?_
  refine zm5 (σ := Nat) [6] [] [] O (fun e i => (7, .int .i64 i) :: e) (fun e i => e) (fun i => i <= (zd k vs).length) (fun i => (zd k vs).length - i) (0) (zkZ O) (zl0 O) (fun _ => rfl) (fun _ => rfl) (fun _ => rfl) (znf _) ?_
  rintro i hi
  refine Vs 9 O ?_
  refine zjo O (fun hlt => ?_) (fun hlt => ?_)
  ·
   refine Vs 5 O ?_
   obtain ⟨x, he_x, hm_x⟩ := gE_ (zd k vs) (i) (by omega)
   obtain ⟨b_x, o_x, c_x, ha_x, hd_x, hc_x, hR_x⟩ := hos.atD he_x
   obtain rfl := hR_x
   refine zm2 1000 0 O O (fun h_ => by have h1_ := hlow _ h_; have h2_ := hd_x; first | omega | exact h1_ h2_) hc_x ?_
   have hgx := hgo x hm_x
   unfold yg at hgx
   dsimp only at hgx
   refine Vq (by kernel_rfl) ?_
   refine Vs 2 O ?_
   refine zlM 1000 tR52 ts120 O ha_x (by omega) (_) (rfl) O ?_
   refine Vs 4 O ?_
   refine zlM 1000 tR52 ts120 O ha_x (by omega) (_) (rfl) O ?_
   refine Vs 4 O ?_
   refine zld 44 O (fun b1 => ?_) (fun b1 => ?_)
   . exact absurd b1 (by omega)
   ·
    refine Vs 2 O ?_
    refine zlM 1000 tR52 ts120 O ha_x (by omega) (_) (rfl) O ?_
    refine Vs 5 O ?_
    refine zld 52 O (fun b2 => ?_) (fun b2 => ?_)
    . exact absurd b2 (by omega)
    ·
     refine Vs 2 O ?_
     refine zlM 1000 tR52 ts120 O ha_x (by omega) (_) (rfl) O ?_
     refine Vs 6 O ?_
     refine zjo O (fun b3 => ?_) (fun b3 => ?_)
     . exact absurd b3 (by omega)
     ·
      refine Va 8 O (by omega) ?_
      refine zjz (i + 1) (zkZ O) (zl0 O) (by omega) (by first | omega | (dsimp only; omega)) 0 O O
  ·
   refine Vs 17 O ?_
   refine zm5 (σ := Nat × Int) [6] [] [] O (fun e ⟨j, n⟩ => (8, .int .i64 n) :: (9, .int .i64 j) :: e) (fun e ⟨j, n⟩ => e) (fun ⟨j, n⟩ => j <= (zd k vs).length /\ zQ k ((zd k vs).take j) 1 = some n) (fun ⟨j, n⟩ => (zd k vs).length - j) ((0, 1)) (zkZ O) (zl0 O) (fun _ => rfl) (fun _ => rfl) (fun _ => rfl) (⟨znf _, rfl⟩) ?_
   rintro ⟨j, n⟩ ⟨hj, hs⟩
   show V _ _ _ _ _ ((8, .int .i64 n) :: (9, .int .i64 j) :: _) _ (_) _
   have hn := ym k ((zd k vs).take j) 1 n (fun v hv => hgo v (List.mem_of_mem_take hv)) (by omega) (by omega) hs
   refine Vs 9 O ?_
   refine zjo O (fun hlt2 => ?_) (fun hlt2 => ?_)
   ·
    refine Vs 5 O ?_
    obtain ⟨x, he_x, hm_x⟩ := gE_ (zd k vs) (j) (by omega)
    obtain ⟨b_x, o_x, c_x, ha_x, hd_x, hc_x, hR_x⟩ := hos.atD he_x
    obtain rfl := hR_x
    refine zm2 2000 0 O O (fun h_ => by have h1_ := hlow _ h_; have h2_ := hd_x; first | omega | exact h1_ h2_) hc_x ?_
    have hgx := hgo x hm_x
    unfold yg at hgx
    dsimp only at hgx
    have hp := zd8 (n := n) (s := x.high - x.low + 1) hn.1 hn.2 (by omega) (by omega)
    have hst : zQ k ((zd k vs).take (j + 1)) 1 = if 4096 < n * (x.high - x.low + 1) then none else some (n * (x.high - x.low + 1)) := by
     rw [zg he_x, zL, hs]; simp [zQ, hall x hm_x]
    refine Vq (by kernel_rfl) ?_
    refine Vs 3 O ?_
    refine zlM 2000 tR52 ts120 O ha_x (by omega) (_) (rfl) O ?_
    refine Vs 4 O ?_
    refine zlM 2000 tR52 ts120 O ha_x (by omega) (_) (rfl) O ?_
    refine Va 14 O (by omega) ?_
    refine zjo O (fun hb => ?_) (fun hb => ?_)
    ·
     rw [znb hb] at hst
     have hnone : zk k vs = none := by
      rw [<- hsp, <- List.take_append_drop (j + 1) (zd k vs), zL, hst]; rfl
     refine Vs 12 O ?_
     refine zjL tr66 O O (fun w hI => ⟨_, rfl, by rw [hnone]; rfl, hI.k1⟩)
    ·
     rw [zna hb] at hst
     refine Va 8 O (by omega) ?_
     refine zjz ((j + 1, n * (x.high - x.low + 1))) (zkZ O) (zl0 O) (⟨by omega, hst⟩) (by first | omega | (dsimp only; omega)) 0 O O
   ·
    have : j = (zd k vs).length := by omega
    subst this
    rw [zn5, hsp] at hs
    refine Vs 13 O ?_
    refine zjL tr66 O O (fun w hI => ⟨_, rfl, by rw [hs]; rfl, hI.k1⟩)
theorem qD (vs : List Vr) (k r : Int) (vv : Value) (D : Nat -> Prop) (W : World) (hk : 0 <= k /\ k <= 3) (hg : ∀ v ∈ vs, yg (v.low, v.high)) (hlen : vs.length <= 1000000) (hvs : SlR 5 RVr D W vv vs) :
  Calls Tryz.prog 71 #[vv, .int .i64 k, .int .i64 r] W (Ret fun rr w' => (∃ u, rr = .tuple #[u, .int .i64 (zl k vs r)] /\ (zl k vs r ≠ 0 -> u = .slice none 0 0) /\ (zl k vs r = 0 -> SlR 1 zz (fun b => W.heap.size <= b) w' u (zD (zd k vs) r).1)) /\ Ext W w') := by
 have hgo : ∀ v ∈ zd k vs, yg (v.low, v.high) := fun v hv => hg v (List.mem_filter.1 hv).1
 have hgs : ∀ v ∈ zd k vs, 1 <= v.high - v.low + 1 := fun v hv => by have := hgo v hv; unfold yg at this; dsimp only at this; omega
 have hol := zn6 (yA k vs) hlen
 have hul := xB (zd k vs) r
 refine zls Tryz.func71 O Tryz.ntmps71 O (zlC ?_)
 refine Vs 10 O ?_
 refine zlT Tryz.call66 O (fun w hI => zdo vs k vv D w hk hg hlen (Tr1 hI.k0 hvs)) ?_
 refine Vs 14 O ?_
 refine zjo O (fun c0 => ?_) (fun c0 => ?_)
 ·
  have hc : ¬ (zk k vs).isSome = true := fun h => c0 (znb h)
  have hC : zl k vs r = 4 := by unfold zl; rw [zna hc]
  refine Vs 9 O ?_
  refine zjL tr71 O O (fun w hI => ⟨_, rfl, ⟨_, by rw [hC, zna hc], fun _ => rfl, fun h => by rw [hC] at h; cases h⟩, hI.k0⟩)
 ·
  have hc : (zk k vs).isSome = true := by
   cases h : (zk k vs).isSome with
   | true => rfl
   | false => rw [h] at c0; exact absurd (by decide) c0
  have hN := ze0 hg hc
  obtain ⟨m, hm⟩ := Option.isSome_iff_exists.1 hc
  have hmp := zew hm
  have hU : zl k vs r = if r < 0 \/ m <= r then 3 else 0 := by unfold zl; rw [znb hc, hm]; rfl
  rw [hm] at hN
  simp only [Option.getD_some] at hN
  rw [hm]
  simp only [Option.getD_some]
  refine Vs 8 O ?_
  refine zld 25 O (fun r0 => ?_) (fun r0 => ?_)
  ·
   have hC : zl k vs r = 3 := by rw [hU, znb (.inl r0)]
   refine Vs 15 O ?_
   refine zjL tr71 O O (fun w hI => ⟨_, rfl, ⟨_, by rw [hC], fun _ => rfl, fun h => by rw [hC] at h; cases h⟩, hI.k0⟩)
  ·
   refine Vs 6 O ?_
   refine zjo O (fun r1 => ?_) (fun r1 => ?_)
   ·
    have hC : zl k vs r = 3 := by rw [hU, znb (.inr r1)]
    refine Vs 8 O ?_
    refine zjL tr71 O O (fun w hI => ⟨_, rfl, ⟨_, by rw [hC], fun _ => rfl, fun h => by rw [hC] at h; cases h⟩, hI.k0⟩)
   ·
    have hC : zl k vs r = 0 := by rw [hU, zna (by omega)]
    refine Vs 6 O ?_
    refine zlV Tryz.call72 O (fun w hI => zbJ vs k vv D w (Tr1 hI.k0 hvs) hlen) ?_
    rintro l w1 w2 hI1 hk12 hos hlow
    obtain ⟨al, cl, rfl⟩ := hos.form
    have hml := hos.max
    refine Vs 5 O ?_
    refine zmc 33 tR31 ts3 O (fun b33 => ?_)
    refine Vs 10 O ?_
    refine zm5 (σ := Nat × Int × Value) [2, 10] [] [] O (fun e ⟨i, n, v⟩ => (12, .int .i64 i) :: (8, .int .i64 n) :: (11, v) :: e) (fun e ⟨i, n, v⟩ => (33, .row 3 1 v i (((zD (zd k vs) r).1.take i).map ze)) :: e) (fun ⟨i, n, v⟩ => i <= (zd k vs).length /\ n = jN ((zd k vs).drop i) /\ n <= 4096) (fun ⟨i, n, v⟩ => (zd k vs).length - i) ((0, m, .slice (some ⟨b33, 0, none⟩) 0 0)) (zkZ O) (zl0 O) (fun _ => rfl) (fun _ => rfl) (fun _ => rfl) (⟨znf _, hmp, hN⟩) ?_
    rintro ⟨i, n, v⟩ ⟨hi, hn, hn4⟩
    show V _ _ _ _ _ ((12, .int .i64 i) :: (8, .int .i64 n) :: (11, v) :: _) _ ((33, .row 3 1 v i (((zD (zd k vs) r).1.take i).map ze)) :: _) _
    refine Vs 9 O ?_
    refine zjo O (fun hlt => ?_) (fun hlt => ?_)
    ·
     refine Vs 5 O ?_
     obtain ⟨x, he_x, hm_x⟩ := gE_ (zd k vs) (i) (by omega)
     obtain ⟨b_x, o_x, c_x, ha_x, hd_x, hc_x, hR_x⟩ := hos.atD he_x
     obtain rfl := hR_x
     refine zm2 1000 0 O O (fun h_ => by have h1_ := hlow _ h_; have h2_ := hd_x; first | omega | exact h1_ h2_) hc_x ?_
     have hgx := hgo x hm_x
     unfold yg at hgx
     dsimp only at hgx
     have hdx := qg he_x
     have hp1 := jO (vs := (zd k vs).drop (i + 1)) fun y hy => hgs y (List.mem_of_mem_drop hy)
     have hn' : n.tdiv (x.high - x.low + 1) = jN ((zd k vs).drop (i + 1)) := by
      rw [hn, hdx, jN, Int.mul_tdiv_cancel_left _ (by omega)]
     have hn1 : 1 <= n := by rw [hn]; exact jO fun y hy => hgs y (List.mem_of_mem_drop hy)
     have hle := Int.tdiv_le_self (x.high - x.low + 1) (show 0 <= n by omega)
     have hq0 := Int.tdiv_nonneg (show 0 <= r by omega) (show 0 <= n.tdiv (x.high - x.low + 1) by omega)
     have hq1 := Int.tdiv_le_self (n.tdiv (x.high - x.low + 1)) (show 0 <= r by omega)
     have hr0 := Int.tmod_nonneg (x.high - x.low + 1) hq0
     have hr1 := Int.tmod_lt_of_pos (r.tdiv (n.tdiv (x.high - x.low + 1))) (show 0 < x.high - x.low + 1 by omega)
     have zo := zbb (r := r) (by omega) hgs he_x
     rw [<- Int.tdiv_eq_ediv_of_nonneg (by omega), <- hn'] at zo
     refine Vq (by kernel_rfl) ?_
     refine Vs 2 O ?_
     refine zlM 1000 tR52 ts120 O ha_x (by omega) (_) (rfl) O ?_
     refine Vs 4 O ?_
     refine zlM 1000 tR52 ts120 O ha_x (by omega) (_) (rfl) O ?_
     refine Va 11 O (by omega) ?_
     refine zlh O (fun w hI => R.quo O O (by omega) (by omega)) ?_
     refine Vs 3 O ?_
     refine Vw [1000] [] O ?_
     refine Vd [0, 1, 2, 6, 7, 9] 0 (by kernel_rfl) O O O ?_
     refine zlL 3 1000 tR52 ts120 O (by kernel_rfl) O ha_x (by omega) (_) (rfl) O ?_
     refine Vd [4, 5] 0 (by kernel_rfl) O O O ?_
     refine zmg 8 O (by kernel_rfl) O (fun w => R.quo O O (by omega) (by omega)) ?_
     refine zmg 10 O (by kernel_rfl) O (fun w => R.rem O O (by omega) (by omega)) ?_
     refine Vb [11] 0 (by kernel_rfl) O O O (by omega) ?_
     refine zm9 12 67 0 [(0, _)] tR31 ts3 tz3 (by decide) O (by kernel_rfl) O O (by kernel_rfl) (fun b67 => ?_)
     refine zlP 13 33 67 0 tu31 Tryz.el3 O (by decide) O (by kernel_rfl) O O O (by omega) (by omega) (fun u33 => ?_)
     refine Vd [14] 0 (by kernel_rfl) O O O ?_
     refine VD.done (by kernel_rfl) ?_
     refine Vs 2 O ?_
     refine zm4 33 O (e' := .row 3 1 u33 (i + 1) (((zD (zd k vs) r).1.take (i + 1)).map ze)) (by rw [List.take_add_one, zo, List.map_append]; rfl) ?_
     refine Va 5 O (by omega) ?_
     refine zjz (⟨i + 1, n.tdiv (x.high - x.low + 1), u33⟩) (zkZ O) (zl0 O) (⟨by omega, hn', by omega⟩) (by first | omega | (dsimp only; omega)) 0 O O
    ·
     have : i = (zd k vs).length := by omega
     subst this
     refine zm4 33 O (e' := .row 3 1 v (zD (zd k vs) r).1.length ((zD (zd k vs) r).1.map ze)) (by rw [<- hul, zn5]) ?_
     refine Vs 13 O ?_
     refine zjL tr71 O O (fun w hI => ⟨_, rfl, ⟨_, by rw [hC], fun h => absurd hC h, fun _ => zkx ze (fun _ _ => rfl) (hI.at 33 O) (fun b hb => hI.own 33 1 O O b hb)⟩, hI.k1⟩)
def zfx (f : Fl) (s : Int) : List Int := if zl 1 f.vars s = 0 then (zD (zd 1 f.vars) s).1 else []
def qR (f : Fl) (pub : List Int) (s : Int) : Ins := ⟨zfx f s, pub, []⟩
def obN (f : Fl) (pub : List Int) (s : Int) : Ob := if zy f (qR f pub s) = 0 then ((xF f (qR f pub s)).outs, (xF f (qR f pub s)).time) else ([], 0)
def spN (f : Fl) : Nat := ((zk 1 f.vars).getD 0).toNat
def ko (f : Fl) : List Int := (List.range (spN f)).map fun i : Nat => (i : Int)
def ze2 (f : Fl) (pub rs : List Int) : List Ob := zdn (rs.map (obN f pub))
structure ValidA (a : Ac) : Prop where
 mode : a.mode = 0 \/ a.mode = 1
 b1 : 1 <= a.budget
 b2 : a.budget <= 1048576
 s1 : 1 <= a.spent
 s2 : a.spent <= a.budget
 l1 : 1 <= a.left.length
 l2 : a.left.length <= 4096
 rng : ∀ x ∈ a.left, 0 <= x /\ x < 4096
 asc : a.left.Pairwise (· < ·)
instance (a : Ac) : Decidable (ValidA a) :=
 if h : (a.mode = 0 \/ a.mode = 1) /\ 1 <= a.budget /\ a.budget <= 1048576 /\ 1 <= a.spent /\ a.spent <= a.budget /\ 1 <= a.left.length /\ a.left.length <= 4096 /\ (∀ x ∈ a.left, 0 <= x /\ x < 4096) /\ a.left.Pairwise (· < ·) then
  isTrue ⟨h.1, h.2.1, h.2.2.1, h.2.2.2.1, h.2.2.2.2.1, h.2.2.2.2.2.1, h.2.2.2.2.2.2.1, h.2.2.2.2.2.2.2.1, h.2.2.2.2.2.2.2.2⟩
 else isFalse fun g => h ⟨g.1, g.2, g.3, g.4, g.5, g.6, g.7, g.8, g.9⟩
def za0 (f : Fl) : Int := if zS f ≠ 0 then zS f else if zd 3 f.vars ≠ [] then 14 else 0
def zcG (f : Fl) (pub : List Int) : Int := if za0 f ≠ 0 then za0 f else (qk 2 f.vars pub).2
def xe (f : Fl) (l : List Int) : Prop := ∀ r ∈ l, 0 <= r /\ r < (spN f : Int)
instance (f : Fl) (l : List Int) : Decidable (xe f l) := by unfold xe; infer_instance
abbrev Qu := Int × List Int
def qPC (f : Fl) (a : Ac) (pub : List Int) : Int := if zcG f pub ≠ 0 then zcG f pub else if xe f a.left then 0 else 2
def zcH (ps : List Fl) (i : Int) : Option Fl := if i < 0 then none else ps[i.toNat]?
def xC (a : Ac) (ps : List Fl) (q : Qu) : Int := if ¬ ValidA a then 1 else match zcH ps q.1 with
 | none => 3
 | some f => qPC f a q.2
def zK (a : Ac) (f : Fl) (q : Qu) : Int := if a.mode = 1 then (ze2 f q.2 a.left).length else if q ∈ a.asked then 1 else (ze2 f q.2 (ko f)).length
def yF (f : Fl) (pub : List Int) (o : Ob) (l : List Int) : List Int := l.filter fun s => decide (obN f pub s = o)
def zaZ (a : Ac) (f : Fl) (q : Qu) (n : Int) (o : Ob) : Ac := ⟨a.mode, a.budget, a.spent * n, yF f q.2 o a.left, if q ∈ a.asked then a.asked else a.asked ++ [q]⟩
structure Res where
 ac : Ac
 answer : Int
 charge : Int
 ob : Ob
 code : Int
def ac0 : Ac := ⟨0, 0, 0, [], []⟩
def zhP (c : Int) : Res := ⟨ac0, 0, 0, ([], 0), c⟩
def zhQ (l : List Ob) (o : Ob) : Int := if o ∈ l then (l.findIdx (fun x => decide (x = o)) : Nat) else -1
def ziB (a : Ac) (f : Fl) (q : Qu) (s : Int) : Res := ⟨zaZ a f q (zK a f q) (obN f q.2 s), zhQ (ze2 f q.2 (ko f)) (obN f q.2 s), zK a f q, obN f q.2 s, 0⟩
def zcI (a : Ac) (ps : List Fl) (q : Qu) (s : Int) : Res :=
 if xC a ps q ≠ 0 then zhP (xC a ps q) else if s ∉ a.left then zhP 11 else match zcH ps q.1 with
 | none => zhP 0
 | some f => if a.budget.tdiv a.spent < zK a f q then zhP 18 else ziB a f q s
theorem zcJ {a : Ac} {ps : List Fl} {q : Qu} (h : xC a ps q = 0) : ValidA a /\ ∃ f, zcH ps q.1 = some f /\ za0 f = 0 /\ (qk 2 f.vars q.2).2 = 0 /\ xe f a.left := by
 unfold xC at h
 split at h
 . cases h
 ·
  rename_i h1
  have hv := zn9.1 h1
  cases hg : zcH ps q.1 with
  | none => rw [hg] at h; cases h
  | some f =>
   rw [hg] at h
   unfold qPC zcG at h
   simp only at h
   by_cases h2 : za0 f = 0
   ·
    simp only [h2, ne_eq, not_true_eq_false, if_false] at h
    by_cases h3 : (qk 2 f.vars q.2).2 = 0
    ·
     simp only [h3, not_true_eq_false, if_false] at h
     by_cases h4 : xe f a.left
     . exact ⟨hv, f, rfl, h2, h3, h4⟩
     . rw [zna h4] at h; cases h
    . rw [znb h3] at h; exact absurd h h3
   ·
    rw [znb h2] at h
    rw [znb h2] at h; exact absurd h h2
theorem zgJ {f : Fl} {pub rs : List Int} {s : Int} (h : s ∈ rs) : obN f pub s ∈ ze2 f pub rs := mem_distO.2 (List.mem_map.2 ⟨s, h, rfl⟩)
theorem mem_allR {f : Fl} {s : Int} : s ∈ ko f ↔ 0 <= s /\ s < (spN f : Int) := by
 unfold ko
 rw [List.mem_map]
 constructor
 ·
  rintro ⟨i, hi, rfl⟩
  rw [List.mem_range] at hi
  omega
 ·
  intro h
  exact ⟨s.toNat, List.mem_range.2 (by omega), by omega⟩
def Agree (ps : List Fl) (a : Ac) : Prop := ∀ q ∈ a.asked, ∀ f, zcH ps q.1 = some f -> ∀ s ∈ a.left, ∀ t ∈ a.left, obN f q.2 s = obN f q.2 t
theorem Agree.ans {ps : List Fl} {a : Ac} {f : Fl} {q : Qu} {n : Int} {o : Ob} (h : Agree ps a) (hf : zcH ps q.1 = some f) : Agree ps (zaZ a f q n o) := by
 intro r hr g hg s hs t ht
 have hs := List.mem_filter.1 hs
 have ht := List.mem_filter.1 ht
 have hr : r ∈ (if q ∈ a.asked then a.asked else a.asked ++ [q]) := hr
 have hc : r ∈ a.asked \/ r = q := by
  split at hr
  . exact .inl hr
  ·
   rcases znj.1 hr with hr | hr
   . exact .inl hr
   . exact .inr (zni.1 hr)
 rcases hc with hc | rfl
 . exact h r hc g hg s hs.1 t ht.1
 ·
  rw [hf] at hg
  cases hg
  rw [of_decide_eq_true hs.2, of_decide_eq_true ht.2]
theorem zaL {a : Ac} {f : Fl} {q : Qu} (hv : ValidA a) (hi : xe f a.left) : 1 <= zK a f q := by
 have h1 := hv.l1
 obtain ⟨s, hs⟩ : ∃ s, s ∈ a.left := ⟨a.left[0], List.getElem_mem _⟩
 have h2 : ∀ rs, s ∈ rs -> (1 : Int) <= (ze2 f q.2 rs).length := fun rs hr => by have := List.length_pos_of_mem (zgJ (f := f) (pub := q.2) hr); omega
 unfold zK
 split
 . exact h2 _ hs
 ·
  split
  . omega
  . exact h2 _ (mem_allR.2 (hi s hs))
theorem jn {b s p : Int} (hb : 0 <= b) (hs : 1 <= s) (h : p <= b.tdiv s) : s * p <= b := by
 rw [Int.tdiv_eq_ediv_of_nonneg hb] at h
 have := (Int.le_ediv_iff_mul_le (by omega)).1 h
 rw [Int.mul_comm]
 exact this
theorem ValidA.ans {a : Ac} {f : Fl} {q : Qu} {s : Int} (hv : ValidA a) (hs : s ∈ a.left) (hi : xe f a.left) (hp : zK a f q <= a.budget.tdiv a.spent) : ValidA (zaZ a f q (zK a f q) (obN f q.2 s)) := by
 have h1 := jn (by have := hv.b1; omega) hv.s1 hp
 have h2 := zaL (q := q) hv hi
 have hsub : ∀ x ∈ yF f q.2 (obN f q.2 s) a.left, x ∈ a.left := fun x hx => (List.mem_filter.1 hx).1
 have h3 : s ∈ yF f q.2 (obN f q.2 s) a.left := List.mem_filter.2 ⟨hs, znc rfl⟩
 have h4 := List.length_filter_le (fun s' => decide (obN f q.2 s' = obN f q.2 s)) a.left
 have h5 : 1 * 1 <= a.spent * zK a f q := Int.mul_le_mul hv.s1 h2 (by omega) (by have := hv.s1; omega)
 exact ⟨hv.mode, hv.b1, hv.b2, by have : (zaZ a f q (zK a f q) (obN f q.2 s)).spent = a.spent * zK a f q := rfl; omega, h1, List.length_pos_of_mem h3, zn6 h4 hv.l2, fun x hx => hv.rng x (hsub x hx), hv.asc.filter _⟩
structure Nn where
 q : Qu
 next : List Int
theorem RFl.wide {D D' : Nat -> Prop} {w : World} {f : Fl} {v1 v2 v3 : Value} (h : RFl D w f v1 v2 v3) (hD : ∀ q, D q -> D' q) : RFl D' w f v1 v2 v3 := ⟨h.vars.wide yX hD, h.hatches.wide yY hD, h.body.wide zf hD⟩
def zgc (vs : List Vr) (s p r : Int) : Int := if zl 1 vs s ≠ 0 then zl 1 vs s else if zl 2 vs p ≠ 0 then zl 2 vs p else zl 3 vs r
theorem zcK (vs : List Vr) (s p r : Int) (vv : Value) (D : Nat -> Prop) (W : World) (hg : ∀ v ∈ vs, yg (v.low, v.high)) (hlen : vs.length <= 1000000) (hvs : SlR 5 RVr D W vv vs) :
  Calls Tryz.prog 74 #[vv, .int .i64 s, .int .i64 p, .int .i64 r] W (Ret fun rr w' => (∃ a b c, rr = .tuple #[.agg #[a, b, c], .int .i64 (zgc vs s p r)] /\ (zgc vs s p r ≠ 0 -> a = .slice none 0 0 /\ b = .slice none 0 0 /\ c = .slice none 0 0) /\ (zgc vs s p r = 0 -> SlR 1 zz (fun q => W.heap.size <= q) w' a (zD (zd 1 vs) s).1 /\ SlR 1 zz (fun q => W.heap.size <= q) w' b (zD (zd 2 vs) p).1 /\ SlR 1 zz (fun q => W.heap.size <= q) w' c (zD (zd 3 vs) r).1)) /\ Ext W w') := by
 refine zlt Tryz.func74 O Tryz.ntmps74 O (zlC ?_)
 refine Vs 2 O ?_
 refine V.alloc 8 Tryz.zeroValue123 O O (fun b8 => ?_)
 refine Vs 7 O ?_
 refine zlV Tryz.call71 O (fun w hI => qD vs 1 s vv D w (by decide) hg hlen (Tr1 hI.k0 hvs)) ?_
 rintro r1 w1 w2 hI1 hk12 ⟨a, rfl, ha0, ha1⟩ hlow
 refine Vs 14 O ?_
 refine zjo O (fun c1 => ?_) (fun c1 => ?_)
 ·
  have hc : zgc vs s p r = zl 1 vs s := znb c1
  refine Vs 2 O ?_
  refine zme [Value.slice none 0 0, Value.slice none 0 0, Value.slice none 0 0] [(0, 1), (1, 1), (2, 1)] [] O O (fun _ => by kernel_rfl) ?_
  refine Vs 7 O ?_
  refine zjT tr74 tg123 ts123 O O O O (fun w hI => ⟨_, rfl, ⟨_, _, _, by rw [hc], fun _ => ⟨rfl, rfl, rfl⟩, fun h => absurd (hc ▸ h) c1⟩, hI.k1⟩)
 ·
  have ha := ha1 (zn9.1 c1)
  obtain ⟨aa, ca, rfl⟩ := ha.form
  refine Vs 6 O ?_
  refine zlV Tryz.call71 O (fun w hI => qD vs 2 p vv D w (by decide) hg hlen (Tr1 hI.k1 hvs)) ?_
  rintro r2 w3 w4 hI3 hk34 ⟨b, rfl, hb0, hb1⟩ hlow2
  refine Vs 14 O ?_
  refine zjo O (fun c2 => ?_) (fun c2 => ?_)
  ·
   have hc : zgc vs s p r = zl 2 vs p := by unfold zgc; rw [zna c1, znb c2]
   refine Vs 2 O ?_
   refine zme [Value.slice none 0 0, Value.slice none 0 0, Value.slice none 0 0] [(0, 1), (1, 1), (2, 1)] [] O O (fun _ => by kernel_rfl) ?_
   refine Vs 7 O ?_
   refine zjT tr74 tg123 ts123 O O O O (fun w hI => ⟨_, rfl, ⟨_, _, _, by rw [hc], fun _ => ⟨rfl, rfl, rfl⟩, fun h => absurd (hc ▸ h) c2⟩, hI.k2⟩)
  ·
   have hb := hb1 (zn9.1 c2)
   obtain ⟨ab, cb, rfl⟩ := hb.form
   refine Vs 6 O ?_
   refine zlV Tryz.call71 O (fun w hI => qD vs 3 r vv D w (by decide) hg hlen (Tr1 hI.k2 hvs)) ?_
   rintro r3 w5 w6 hI5 hk56 ⟨c, rfl, hc0, hc1⟩ hlow3
   have hcc : zgc vs s p r = zl 3 vs r := by unfold zgc; rw [zna c1, zna c2]
   refine Vs 14 O ?_
   refine zjo O (fun c3 => ?_) (fun c3 => ?_)
   ·
    refine Vs 2 O ?_
    refine zme [Value.slice none 0 0, Value.slice none 0 0, Value.slice none 0 0] [(0, 1), (1, 1), (2, 1)] [] O O (fun _ => by kernel_rfl) ?_
    refine Vs 7 O ?_
    refine zjT tr74 tg123 ts123 O O O O (fun w hI => ⟨_, rfl, ⟨_, _, _, by rw [hcc], fun _ => ⟨rfl, rfl, rfl⟩, fun h => absurd (hcc ▸ h) c3⟩, hI.k3⟩)
   ·
    have hc := hc1 (zn9.1 c3)
    obtain ⟨ac, cc, rfl⟩ := hc.form
    have e1 : W.heap.size <= w1.heap.size := hI1.k0.size
    have e3 : W.heap.size <= w3.heap.size := hI3.k1.size
    have e5 : W.heap.size <= w5.heap.size := hI5.k2.size
    refine V.dat 900 2 O O O (ha) (fun q hq _ hs => by have := hlow q hs; omega) ?_
    refine V.dat 901 1 O O O (hb) (fun q hq _ hs => by have := hlow2 q hs; omega) ?_
    refine V.dat 902 0 O O O (hc) (fun q hq _ hs => by have := hlow3 q hs; omega) ?_
    refine Vs 7 O ?_
    refine zme [Value.slice none 0 0, Value.slice none 0 0, Value.slice none 0 0] [(0, 1), (1, 1), (2, 1)] [(0, _), (1, _), (2, _)] O O (fun _ => by kernel_rfl) ?_
    refine Vs 5 O ?_
    refine zjT tr74 tg123 ts123 O O O O (fun w hI => ⟨_, rfl, ⟨_, _, _, by rw [hcc, zn9.1 c3], fun h => absurd (hcc ▸ zn9.1 c3) h, fun _ => ⟨(hI.at 900 O).1.wide zb (fun q hq => by omega), (hI.at 901 O).1.wide zb (fun q hq => by omega), (hI.at 902 O).1.wide zb (fun q hq => by omega)⟩⟩, hI.k3⟩)
theorem zhj {f : Fl} {pub : List Int} {s : Int} {ov : Value} {t : Int} {B : Nat -> Prop} {w : World} (h1 : zy f (qR f pub s) ≠ 0 -> ov = .slice none 0 0 /\ t = 0) (h2 : zy f (qR f pub s) = 0 -> t = (xF f (qR f pub s)).time /\ SlR 1 zz B w ov (xF f (qR f pub s)).outs) : t = (obN f pub s).2 /\ SlR 1 zz B w ov (obN f pub s).1 := by
 unfold obN
 by_cases h : zy f (qR f pub s) = 0
 . rw [znb h]; exact h2 h
 ·
  rw [zna h]
  obtain ⟨rfl, rfl⟩ := h1 h
  exact ⟨rfl, SlR.nil⟩
theorem qi (f : Fl) (vd : Valid f) (pub : List Int) (s : Int) (v1 v2 v3 pv : Value) (D D' : Nat -> Prop) (W : World) (hf : RFl D W f v1 v2 v3) (hp : SlR 1 zz D' W pv pub) :
  Calls Tryz.prog 49 #[.agg #[v1, v2, v3], pv, .int .i64 s] W (Ret fun r w' => (∃ ov, r = .agg #[ov, .int .i64 (obN f pub s).2] /\ SlR 1 zz (fun b => W.heap.size <= b) w' ov (obN f pub s).1) /\ Ext W w') := by
 have hl := vd.lens
 obtain ⟨ap, cp, rfl⟩ := hp.form
 refine zls Tryz.func49 O Tryz.ntmps49 O (zlC ?_)
 refine Vs 2 O ?_
 refine V.box 3 O O (fun b3 => ?_)
 refine V.alloc 6 tz60 O O (fun b6 => ?_)
 refine Vs 7 O ?_
 refine zlV Tryz.call86 O (fun w hI => kN f.vars 1 s v1 D w (by decide) vd.good (by omega) (Tr1 hI.k0 hf.vars)) ?_
 rintro r1 w1 w2 hI1 hk12 ⟨u, rfl, hu0, hu1⟩ hlow
 have hsec : SlR 1 zz (fun b => w1.heap.size <= b) w2 u (zfx f s) := by
  unfold zfx
  by_cases h : zl 1 f.vars s = 0
  . rw [znb h]; exact hu1 h
  . rw [zna h, hu0 h]; exact SlR.nil
 obtain ⟨au, cu, rfl⟩ := hsec.form
 have e1 : W.heap.size <= w1.heap.size := hI1.k0.size
 refine Vs 8 O ?_
 refine V.dat 900 0 O O O (hsec) (fun q hq _ hs => by have := hlow q hs; omega) ?_
 refine Vs 4 O ?_
 refine zme [Value.slice none 0 0, Value.slice none 0 0, Value.slice none 0 0] [(0, 1), (1, 1), (2, 1)] [(0, _), (1, _)] O O (fun _ => by kernel_rfl) ?_
 refine zlV Tryz.call87 O (fun w hI => zet f (qR f pub s) v1 v2 v3 _ _ _ (fun b => D b \/ D' b \/ (w1.heap.size <= b /\ b < w2.heap.size)) w (RFl.wide (Tr1 hI.k1 hf) (fun q hq => .inl hq)) ((hI.at 900 O).1.wide zb (fun q hq => .inr (.inr hq))) ((hp.ext zb hI.k1).wide zb (fun q hq => .inr (.inl hq))) SlR.nil vd.size vd.bulk) ?_
 rintro r2 w3 w4 hI3 hk34 ⟨ov, t, rfl, h1, h2⟩ hlow2
 obtain ⟨rfl, hov⟩ := zhj h1 h2
 obtain ⟨ao, co, rfl⟩ := hov.form
 have e3 : W.heap.size <= w3.heap.size := hI3.k1.size
 refine Vs 3 O ?_
 refine V.alloc 9 tz60 O O (fun b9 => ?_)
 refine Vs 11 O ?_
 refine V.dat 901 0 O O O (hov) (fun q hq _ hs => by have := hlow2 q hs; omega) ?_
 refine zjQ Tryz.results49 tg60 ts60 O O O (fun w hI => ⟨_, rfl, ⟨_, rfl, (hI.at 901 O).1.wide zb (fun q hq => by omega)⟩, hI.k2⟩)
theorem zfy {k : Int} {vs : List Vr} (hg : ∀ v ∈ vs, yg (v.low, v.high)) (h : (zk k vs).isSome = true) : zl k vs 0 = 0 := by
 obtain ⟨m, hm⟩ := Option.isSome_iff_exists.1 h
 have := ym k vs 1 m hg (by omega) (by omega) hm
 unfold zl
 rw [znb h, hm]
 simp only [Option.getD_some]
 rw [zna (by omega)]
theorem zbK (f : Fl) (vd : Valid f) (hr : zd 3 f.vars = []) (hs2 : (zk 2 f.vars).isSome = true) (pub : List Int) (s : Int) (v1 v2 v3 pv : Value) (D D' : Nat -> Prop) (W : World) (hf : RFl D W f v1 v2 v3) (hp : SlR 1 zz D' W pv pub) :
  Calls Tryz.prog 40 #[.agg #[v1, v2, v3], pv, .int .i64 s] W (Ret fun r w' => (∃ ov, r = .agg #[ov, .int .i64 (obN f pub s).2] /\ SlR 1 zz (fun b => W.heap.size <= b) w' ov (obN f pub s).1) /\ Ext W w') := by
 have hl := vd.lens
 have hs3 : zk 3 f.vars = some 1 := by unfold zk; rw [<- yp, hr]; rfl
 have hi : zgc f.vars s 0 0 = zl 1 f.vars s := by
  unfold zgc
  rw [zfy vd.good hs2, zfy vd.good (by rw [hs3]; rfl)]
  by_cases h : zl 1 f.vars s = 0
  . rw [zna (znm h), zna (by decide), h]
  . rw [znb h]
 obtain ⟨ap, cp, rfl⟩ := hp.form
 refine zls Tryz.func40 O Tryz.ntmps40 O (zlC ?_)
 refine Vs 2 O ?_
 refine V.box 3 O O (fun b3 => ?_)
 refine V.alloc 6 tz60 O O (fun b6 => ?_)
 refine Vs 7 O ?_
 refine zlV Tryz.call74 O (fun w hI => zcK f.vars s 0 0 v1 D w vd.good (by omega) (Tr1 hI.k0 hf.vars)) ?_
 rintro r1 w1 w2 hI1 hk12 ⟨a, b, c, rfl, hu0, hu1⟩ hlow
 have hsec : SlR 1 zz (fun b => w1.heap.size <= b) w2 a (zfx f s) /\ SlR 1 zz (fun b => w1.heap.size <= b) w2 c [] /\ ∃ (ab : Option Addr) (nb cb : Nat), b = .slice ab nb cb := by
  unfold zfx
  by_cases h : zl 1 f.vars s = 0
  ·
   obtain ⟨h1, h2, h3⟩ := hu1 (hi.trans h)
   obtain ⟨ab, cb, hb⟩ := h2.form
   rw [znb h]
   refine ⟨h1, ?_, _, _, _, hb⟩
   rw [hr] at h3
   exact h3
  ·
   obtain ⟨rfl, rfl, rfl⟩ := hu0 (fun h' => h (hi.symm.trans h'))
   rw [zna h]
   exact ⟨SlR.nil, SlR.nil, _, _, _, rfl⟩
 obtain ⟨hsec, hrnd, ab, nb, cb, rfl⟩ := hsec
 obtain ⟨au, cu, rfl⟩ := hsec.form
 obtain ⟨ac, cc, rfl⟩ := hrnd.form
 have e1 : W.heap.size <= w1.heap.size := hI1.k0.size
 refine Vs 3 O ?_
 refine V.alloc 7 Tryz.zeroValue123 O O (fun b7 => ?_)
 refine Vs 12 O ?_
 refine V.dat 900 0 O O O (hsec) (fun q hq _ hs => by have := hlow q hs; omega) ?_
 refine V.dat 902 0 O O O (hrnd) (fun q hq _ hs => by have := hlow q hs; omega) ?_
 refine Vs 3 O ?_
 refine zlV Tryz.call75 O (fun w hI => zfo f (qR f pub s) v1 v2 v3 _ _ _ D _ D' _ w (Tr1 hI.k1 hf) (hI.at 900 O).1 (Tr1 hI.k1 hp) (hI.at 902 O).1 vd.size vd.bulk) ?_
 rintro r2 w3 w4 hI3 hk34 ⟨ov, t, rfl, h1, h2⟩ hlow2
 obtain ⟨rfl, hov⟩ := zhj h1 h2
 obtain ⟨ao, co, rfl⟩ := hov.form
 have e3 : W.heap.size <= w3.heap.size := hI3.k1.size
 refine Vs 3 O ?_
 refine V.alloc 9 tz60 O O (fun b9 => ?_)
 refine Vs 11 O ?_
 refine V.dat 901 0 O O O (hov) (fun q hq _ hs => by have := hlow2 q hs; omega) ?_
 refine zjQ Tryz.results40 tg60 ts60 O O O (fun w hI => ⟨_, rfl, ⟨_, rfl, (hI.at 901 O).1.wide zb (fun q hq => by omega)⟩, hI.k2⟩)
end Go.Proofs.YtbkhagigkglgoaaGreatDoor
namespace Go.GL
open Go.RowKit
section
variable {P : Program} {env : Env} {w : World} {dst : Option Tmp} {ty : TypeId} {pos : String} {aft : Array Edge} {g : Option (Nat × Bool)}
theorem zmE {t u e : TypeId} {x y : Operand} {v : Value} {m : Nat} {xs : List Value} {s : ByteArray} (hu : P.underlying t = some (.slice e)) (huu : P.underlying u = some .string) (he : (P.info? e).map (fun i => (i.zero, i.size, i.bytes)) = some (some (.int .u8 0), 1, 1))
  (hx : ev env x = some v) (hy : ev env y = some (.string s)) (hown : w.ownsRow 0 e 1 v m xs) (h0 : 0 < s.size) (hmax : m + s.size <= 9223372036854775807) (hby : m + s.size <= 140737488355328) :
  yz P ⟨dst, .call ⟨.builtin .append, #[x, y], #[t, u]⟩, ty, pos, aft, g⟩ env w (fun r w' => w'.ownsRow 0 e 1 r (m + s.size) (xs ++ Lib.strCells s) /\ (r.ownBlock = v.ownBlock \/ ∃ g, r.ownBlock = some g /\ w.heap.size <= g) /\ Keep (fun k => v.ownBlock = some k) w w') := by
 obtain ⟨i, hi, hz0, hz1, hz2⟩ := info_parts he
 obtain ⟨v', w', h1, h2, h3, _⟩ := Lib.run_append_own_string (P := P) w 0 t u ty e i hu huu hi hz0 hz1 hz2 v m xs hown s (by unfold maxLen; omega) hby (znf _)
 have hd : w.drawn <= w'.drawn /\ (v'.ownBlock = v.ownBlock \/ ∃ g, v'.ownBlock = some g /\ w.heap.size <= g) := by
  rcases hown.2 with ⟨rfl, rfl⟩ | ⟨g0, cap, cur, rfl, hbg, hg0, hnc, hcm, hcs, htake⟩
  ·
   have hr := run_append_nil_string (P := P) w t u ty e i (.int .u8 0) hu huu hi hz0 s h0 (by omega) (by rw [hz2]; omega)
   rw [h1] at hr
   cases hr
   exact ⟨Nat.le_succ _, .inr ⟨_, rfl, zno _⟩⟩
  ·
   by_cases hroom : m + s.size <= cap
   ·
    have hcs' : cur.size = cap := by simpa using hcs
    have hr := Lib.run_append_room_string (P := P) w t u ty e i hu huu hi hz1 g0 m cap cur hg0 s hroom (by omega)
    rw [h1] at hr
    cases hr
    exact ⟨zno _, .inl rfl⟩
   ·
    have holds : ∀ j u, xs[j]? = some u -> w.cell? ((⟨g0, 0, none⟩ : Addr).add j) = some u := hown.cells (g := g0) rfl
    have hxl : xs.length = m := by have := hown.1; omega
    have hr := Lib.run_append_grow_string (P := P) w t u ty e i (.int .u8 0) hu huu hi hz0 ⟨g0, 0, none⟩ m cap xs (by rw [hz1]; omega) holds s (by omega) (by omega) (by rw [hz2]; exact growslice_fits (by omega) (by omega))
    rw [h1] at hr
    cases hr
    exact ⟨Nat.le_succ _, .inr ⟨_, rfl, zno _⟩⟩
 refine ⟨v', w', ?_, h2, hd.2, h3.os, h3.tape, h3.output, hd.1, h3.size, fun k hk hn => h3.block k hk (fun e => hn e.symm)⟩
 intro n a ha
 simp [execOp, resolve, invoke, builtin, ha.eval hx, ha.eval hy, h1]
theorem zmF {t t' : TypeId} {x y : Operand} {a b : ByteArray} (hx : ev env x = some (.string a)) (hy : ev env y = some (.string b)) (hs : a.size + b.size <= 9223372036854775807) : yo P ⟨dst, .binOp .add t x y t', ty, pos, aft, g⟩ env w (.string (a ++ b)) w := by
 intro n c hc
 have hg : (eqGuard BinOp.add t x y (Value.string a) (Value.string b)).run P w = .ok () w := by simp [eqGuard]
 simp [execOp, hc.eval hx, hc.eval hy, binOp, hg, Op.stringOp]
 omega
end
section
variable {P : Program} {n : Nat} {Q : Exit -> Act -> World -> Prop} {ks : List Fr} {pos : Pos} {env : Env} {A : Tgs} {H Hs : Hp} {Bs B0 : yc} {ops : Array Oper} {rest : List Oper} {v : Value} {L : List Nat} {fuel : Nat} {listed : Array Bool}
variable {d : Nat} {op : Op} {ty : TypeId} {ps : String} {aft : Array Edge} {g : Option (Nat × Bool)}
theorem zmG (k : Nat) {t u e : TypeId} {x y : Operand} {m : Nat} {xs : List Value} {s : ByteArray} (hu : P.underlying t = some (.slice e)) (huu : P.underlying u = some .string) (he : (P.info? e).map (fun i => (i.zero, i.size, i.bytes)) = some (some (.int .u8 0), 1, 1))
  (hn : (Nat.blt d n, gd ops env g, zo H k, ev env x, ev env y) = (true, some true, some (.row e 1 v m xs), some v, some (.string s))) (h0 : 0 < s.size) (hmax : m + s.size <= 9223372036854775807) (hby : m + s.size <= 140737488355328)
  (h : ∀ r, V P n Q ks (.o ops rest) ((d, r) :: env) ((d, none) :: A) (hset H k (.row e 1 r (m + s.size) (xs ++ Lib.strCells s))) Bs) : V P n Q ks (.o ops (⟨some d, .call ⟨.builtin .append, #[x, y], #[t, u]⟩, ty, ps, aft, g⟩ :: rest)) env A H Bs := by
 simp only [Prod.mk.injEq] at hn
 obtain ⟨h1, h2, h3, h4, h5⟩ := hn
 refine fun hA w hI => zkf h1 h2 (zmE hu huu he h4 h5 (hI.at k h3) h0 hmax hby) ?_
 rintro r w' ⟨ho, hf, hk⟩
 refine h r (TgOk.none (hA.res h3 (by simp [qm, h3]))) w' (hI.set h3 hk ho trivial (fun _ h => h) (fun q hq => ⟨?_, xj ho hq⟩))
 rcases hf with hf | ⟨g', hf, hg'⟩
 . exact .inl (by show v.ownBlock = some q; rw [<- hf]; exact hq)
 ·
  have hq : r.ownBlock = some q := hq
  rw [hf] at hq; cases hq; exact .inr hg'
theorem V.opM (k : Nat) {e e' : HE} {r : Value} (hn : (Nat.blt d n, gd ops env g, zo H k, qm H k) = (true, some true, some e, none)) (hl : e'.loc) (hz : ∀ b, ¬ e'.fz b) (hm : ∀ w, VI Bs H w -> yz P ⟨some d, op, ty, ps, aft, g⟩ env w (fun u w' => u = r /\ e'.holds w' /\ Keep e.S w w' /\ ∀ q, e'.S q -> (e.S q \/ w.heap.size <= q) /\ q < w'.heap.size))
  (h : V P n Q ks (.o ops rest) ((d, r) :: env) ((d, none) :: A) (hset H k e') Bs) : V P n Q ks (.o ops (⟨some d, op, ty, ps, aft, g⟩ :: rest)) env A H Bs := by
 simp only [Prod.mk.injEq] at hn
 refine fun hA w hI => zkf hn.1 hn.2.1 (hm w hI) ?_
 rintro _ w' ⟨rfl, hh, hk, hS⟩
 exact h (TgOk.none (hA.res hn.2.2.1 hn.2.2.2)) w' (hI.set hn.2.2.1 hk hh hl hz hS)
theorem zmH (i k j : Nat) {e e' : HE} {r : Value} (hi : ops[i]? = some ⟨some d, op, ty, ps, aft, g⟩) (hr : Region.ready .any ops listed = [i]) (hn : (Nat.blt d n, gd ops env g, zo H k, qm H k, qr (Hs.map (·.1)), qq k (Hs.map (·.1))) = (true, some true, some e, none, true, true)) (hB : Bs.drop j = B0) (hl : e'.loc) (hz : ∀ b, ¬ e'.fz b)
  (hm : ∀ w, VI Bs H w -> yz P ⟨some d, op, ty, ps, aft, g⟩ env w (fun u w' => u = r /\ e'.holds w' /\ Keep e.S w w' /\ ∀ q, e'.S q -> (e.S q \/ w.heap.size <= q) /\ q < w'.heap.size))
  (h : VD P n Q ks ops Hs B0 L fuel (listed.setIfInBounds i true) ((d, r) :: env) ((d, none) :: A) (hset H k e') Bs) : VD P n Q ks ops Hs B0 L (fuel + 1) listed env A H Bs := by
 simp only [Prod.mk.injEq] at hn
 subst hB
 obtain ⟨h1, h2, h3, h4, h5, h6⟩ := hn
 refine fun hH hA w hI => zlY i hi hr h1 h2 (.inl (hm w hI)) ?_
 rintro _ w' ⟨rfl, hh, hk, hS⟩
 have hI' := hI.set h3 hk hh hl hz hS
 have hH' : Has Hs (hset H k e') := hH.set h3 h6
 exact ⟨(hI'.drop j).pick hH' h5, h hH' (TgOk.none (hA.res h3 h4)) w' hI'⟩
theorem zmw (i j : Nat) (kks : List Nat) {β : Type} {Hn : β -> Hp} {u : β -> Value} (A1 : Tgs) (hi : ops[i]? = some ⟨some d, op, ty, ps, aft, g⟩) (hr : Region.ready .any ops listed = [i]) (hn : (Nat.blt d n, gd ops env g, qr (Hs.map (·.1))) = (true, some true, true)) (hB : Bs.drop j = B0)
  (hHs : ∀ x, Hs.map (fun y => zo (Hn x ++ yw kks H) y.1) = Hs.map (fun y => some y.2))
  (hA1 : ∀ x, A1.map (fun p => zd2 ((d, u x) :: env) p.1) = A1.map (fun p => jv (Hn x ++ yw kks H) p.2)) (hA2 : ∀ x, A1.all (fun p => (jv (Hn x ++ yw kks H) p.2).isSome) = true)
  (hm : ∀ w, VI Bs H w -> yz P ⟨some d, op, ty, ps, aft, g⟩ env w (fun r w' => ∃ x, r = u x /\ Hands H kks (Hn x) w w'))
  (h : ∀ x, VD P n Q ks ops Hs B0 L fuel (listed.setIfInBounds i true) ((d, u x) :: env) A1 (Hn x ++ yw kks H) Bs) : VD P n Q ks ops Hs B0 L (fuel + 1) listed env A H Bs := by
 simp only [Prod.mk.injEq] at hn
 subst hB
 intro hH hA w hI
 refine zlY i hi hr hn.1 hn.2.1 (.inl (hm w hI)) ?_
 rintro _ w' ⟨x, rfl, hh⟩
 have hI' := hI.hands hh
 exact ⟨(hI'.drop j).pick (zl0 (hHs x)) hn.2.2, h x (zl0 (hHs x)) (zl1 (hA1 x) (hA2 x)) w' hI'⟩
end
section
variable {P : Program} {n : Nat} {Q : Exit -> Act -> World -> Prop} {ks : List Fr} {env : Env} {A : Tgs} {H Hs : Hp} {Bs B0 : yc} {ops : Array Oper} {L : List Nat} {fuel : Nat} {listed : Array Bool}
variable {d : Nat} {ty : TypeId} {ps : String} {aft : Array Edge}
theorem zmI (i i2 k2 j : Nat) (kk : List Nat) {f : FuncId} {xs : Array Operand} {ts : Array TypeId} {vs : List Value} {α : Type} {Hn : α -> Hp} {Φ : Value -> α -> Prop} (A1 : Tgs) {e2 ty2 : TypeId} {ps2 : String} {aft2 : Array Edge} {d2 : Nat} {z : Value} {cs : List Value} (hf : ∀ args w, (callFunc f args).run P w = .ok (.enter f args) w)
  (hi : (ops[i]?, ops[i2]?) = (some ⟨some d, .call ⟨.value (.func f), xs, ts⟩, ty, ps, aft, none⟩, some ⟨some d2, .alloc e2, ty2, ps2, aft2, none⟩)) (hr : Region.ready .any ops listed = [i, i2]) (hn : (Nat.blt d n, Nat.blt d2 n, qo env xs.toList, (zo H k2).isNone, qr (Hs.map (·.1))) = (true, true, some vs, true, true)) (hB : Bs.drop j = B0)
  (hHs : ∀ x, Hs.map (fun y => zo (Hn x ++ yw kk H) y.1) = Hs.map (fun y => some y.2))
  (hA1 : ∀ r x, A1.map (fun p => zd2 ((d, r) :: env) p.1) = A1.map (fun p => jv (Hn x ++ yw kk H) p.2)) (hA2 : ∀ x, A1.all (fun p => (jv (Hn x ++ yw kk H) p.2).isSome) = true)
  (hz : ∀ w, (zeroValue e2).run P w = .ok z w) (hzc : z.cells = cs.toArray)
  (hc : ∀ w, VI Bs H w -> Calls P f vs.toArray w (Ret fun r w' => ∃ x, Φ r x /\ Hands H kk (Hn x) w w'))
  (h : ∀ r x, Φ r x -> VD P n Q ks ops Hs B0 L fuel (listed.setIfInBounds i true) ((d, r) :: env) A1 (Hn x ++ yw kk H) Bs)
  (h2 : ∀ b, VD P n Q ks ops Hs B0 L fuel (listed.setIfInBounds i2 true) ((d2, .pointer (some ⟨b, 0, none⟩)) :: env) ((d2, some (k2, 0)) :: A) ((k2, .own b cs e2) :: H) Bs) : VD P n Q ks ops Hs B0 L (fuel + 1) listed env A H Bs := by
 simp only [Prod.mk.injEq, Option.isNone_iff_eq_none] at hi hn
 subst hB
 obtain ⟨hi1, hi2⟩ := hi
 obtain ⟨hb1, hb2, hv, hk2, hu0⟩ := hn
 intro hH hA w hI
 refine zku i i2 (R := fun r w' => ∃ x, Φ r x /\ Hands H kk (Hn x) w w') (Rj := fun r w' => ∃ b, r = .pointer (some ⟨b, 0, none⟩) /\ New w cs e2 b w') hi1 hi2 hr O O hb1 O O hb2 (.inr ⟨f, _, F.call hf (yh hv), hc w hI⟩) (.inl (M.alloc hz hzc)) ?_ ?_
 ·
  rintro r w1 ⟨x, hP, hh⟩
  have hI' := hI.hands hh
  exact ⟨fun _ => (hI'.drop j).pick (zl0 (hHs x)) hu0, h r x hP (zl0 (hHs x)) (zl1 (hA1 r x) (hA2 x)) w1 hI'⟩
 ·
  rintro _ w1 ⟨b, rfl, hb, hs, hB, hk⟩
  have hI1 : VI Bs ((k2, .own b cs e2) :: H) w1 := hI.new hk k2 hB trivial (fun _ h => h) (fun q hq => by have hq : q = b := hq; omega)
  have hH1 : Has Hs ((k2, .own b cs e2) :: H) := hH.new hk2
  refine ⟨fun _ => (hI1.drop j).pick hH1 hu0, h2 b hH1 ((hA.new hk2).push fun k' off hg => ?_) w1 hI1⟩
  cases hg
  exact ⟨b, 0, by simp [qm, zo, Nat.beq_refl], rfl⟩
end
open Go.RowKit
section
variable {P : Program} {env : Env} {w : World} {dst : Option Tmp} {ty : TypeId} {pos : String} {aft : Array Edge} {g : Option (Nat × Bool)}
theorem zmJ {tp t' te : TypeId} {x y : Operand} {p : Option Addr} (hp : P.underlying tp = some (.pointer te)) (hx : ev env x = some (.pointer p)) (hy : ev env y = some (.pointer none)) : yo P ⟨dst, .binOp .eql tp x y t', ty, pos, aft, g⟩ env w (.bool p.isNone) w := by
 intro n a ha
 have h : ∀ d : Nat, (Op.equalIn (d + 1) tp (.pointer p) (.pointer none)).run P w = .ok p.isNone w := fun d => by
  cases p <;> simp [Op.equalIn, run_underlying hp]
 have hg : (eqGuard BinOp.eql tp x y (.pointer p) (.pointer none)).run P w = .ok () w := by simp [eqGuard]
 have hb : (binOp .eql tp (.pointer p) (.pointer none)).run P w = .ok (.bool p.isNone) w := by
  simp only [binOp]
  simp [Op.equal, Op.maxDepth, h 9999]
 simp [execOp, ha.eval hx, ha.eval hy, hg, hb]
theorem zmK {tp t' te : TypeId} {j : TypeInfo} {x y : Operand} {a0 : Addr} (hp : P.underlying tp = some (.pointer te)) (hte : P.info? te = some j) (hx : ev env x = some (.pointer (some a0))) (hy : ev env y = some (.pointer (some a0))) : yo P ⟨dst, .binOp .neq tp x y t', ty, pos, aft, g⟩ env w (.bool false) w := by
 intro n a ha
 have hg : (eqGuard BinOp.neq tp x y (.pointer (some a0)) (.pointer (some a0))).run P w = .ok () w := by simp [eqGuard]
 simp [execOp, ha.eval hx, ha.eval hy, hg, Lib.run_neq_ptr_same w a0 hp hte]
theorem zmL {s d : TypeId} {x : Operand} {v u : Value} (hx : ev env x = some v) (h : (convert s d v).run P w = .ok u w) : yo P ⟨dst, .convert s d x, ty, pos, aft, g⟩ env w u w := by
 intro n a ha
 simp [execOp, ha.eval hx, h]
theorem R.same {f : FuncId} {fn : Func} {x : Operand} {ts : Array TypeId} {v : Value} (hf : P.funcs[f]? = some fn) (hname : (fn.name == "runtime.NumGoroutine") = false) (hb : fn.body.isNone = true) (hn : Extern.findNext fn = none) (he : Extern.find fn = some Extern.AbiNoEscape.same) (hx : ev env x = some v) :
  yo P ⟨dst, .call ⟨.value (.func f), #[x], ts⟩, ty, pos, aft, g⟩ env w v w := by
 intro n a ha
 have hfv : a.eval (.func f) = .func (.func f) #[] #[] := rfl
 simp [execOp, resolve, invoke, Deferred.ofValue, hfv, ha.eval hx, run_callFunc_extern hf hname hb hn he, Lib.run_noEscape]
theorem zmM {t : TypeId} {x : Operand} {a : Addr} {m c : Nat} (hx : ev env x = some (.slice (some a) m c)) (hc : c ≠ 0) : yo P ⟨dst, .call ⟨.builtin .unsafeSliceData, #[x], #[t]⟩, ty, pos, aft, g⟩ env w (.pointer (some a)) w := by
 intro n c' ha
 simp [execOp, resolve, invoke, builtin, ha.eval hx, Lib.run_unsafeSliceData_row w _ _ a m c hc]
theorem zmN {t : TypeId} {x : Operand} {m c : Nat} (hx : ev env x = some (.slice none m c)) : yo P ⟨dst, .call ⟨.builtin .unsafeSliceData, #[x], #[t]⟩, ty, pos, aft, g⟩ env w (.pointer none) w := by
 intro n c' ha
 simp [execOp, resolve, invoke, builtin, ha.eval hx, Lib.run_unsafeSliceData_nil w _ _ m c]
theorem zmO {t t' : TypeId} {x y : Operand} {p : Option Addr} (hx : ev env x = some (.pointer p)) (hy : ev env y = some (.int .i64 0)) : yo P ⟨dst, .call ⟨.builtin .unsafeString, #[x, y], #[t, t']⟩, ty, pos, aft, g⟩ env w (.string .empty) w := by
 intro n c' ha
 simp [execOp, resolve, invoke, builtin, ha.eval hx, ha.eval hy, Lib.run_unsafeString_none w t t' ty p]
theorem M.unsafeString {pt it e : TypeId} {x y : Operand} {b c : Nat} {l : List UInt8} (hp : P.underlying pt = some (.pointer e)) (hc : P.cellsOf e = 1) (hx : ev env x = some (.pointer (some ⟨b, 0, none⟩))) (hy : ev env y = some (.int .i64 l.length)) (h0 : l ≠ []) (hown : w.ownsRow 0 e 1 (.slice (some ⟨b, 0, none⟩) l.length c) l.length (Lib.byteCells l)) :
  yz P ⟨dst, .call ⟨.builtin .unsafeString, #[x, y], #[pt, it]⟩, ty, pos, aft, g⟩ env w (fun u w' => u = .string ⟨l.toArray⟩ /\ Keep (fun q => q = b) w w') := by
 have hcl := (jV hown).2.2
 obtain ⟨sp, hB, hcap, hcm, hlen⟩ := zbl hown
 have hsh : w.shape? b = some (e, c * 1) := by
  unfold Blk at hB
  simp [World.shape?, hB]
  rw [zn8] at hlen
  omega
 have hr := Lib.run_unsafeString_row (P := P) w pt it ty e hp hc b (c * 1) hsh l h0 (by omega) (by omega) (fun j x hx => by
  have := hcl j (.int .u8 x.toNat) (by simp [Lib.byteCells, hx])
  by_cases hj : j = 0
  . subst hj; simpa [Addr.add] using this
  ·
   simpa [Addr.add, hj] using this)
 refine ⟨.string ⟨l.toArray⟩, w.freeze ⟨b, 0, none⟩ l.length, ?_, rfl, ?_⟩
 ·
  intro n a ha
  simp [execOp, resolve, invoke, builtin, ha.eval hx, ha.eval hy, hr]
 ·
  have hl : l.length ≠ 0 := by simpa using h0
  unfold World.freeze
  rw [zna hl]
  refine ⟨rfl, rfl, rfl, zno _, by simp, fun k hk hn => ?_⟩
  simp only [Array.getElem?_modify]
  rw [zna (fun e => hn e.symm)]
end
end Go.GL
namespace Go.Proofs.YtbkhagigkglgoaaGreatDoor
open Go.GL
theorem zcL (p v : Value) (b : Nat) (hp : p = .pointer none \/ p = .pointer (some ⟨b, 0, none⟩)) (W : World) (hB : Blk W b [p, v] 184) :
  Calls Tryz.prog 152 #[.pointer (some ⟨b, 0, none⟩)] W (Ret fun r w' => r = .tuple #[] /\ Blk w' b [.pointer (some ⟨b, 0, none⟩), v] 184 /\ Keep (fun q => q = b) W w') := by
 have hsh : ∀ w, Blk w b [p, v] 184 -> w.shape? b = some (184, 2) := fun w h => by
  unfold Blk at h
  simp [World.shape?, h]
 obtain ⟨j, hj, hjs⟩ : ∃ j, Tryz.prog.info? 184 = some j /\ j.size = 2 := Option.map_eq_some_iff.1 (show (Tryz.prog.info? 184).map (·.size) = some 2 by kernel_rfl)
 have hlies : liesAt Tryz.prog Tryz.prog.depth 184 (2 / Tryz.prog.cellsOf 184) 0 184 1 = true := by kernel_rfl
 refine zlq Tryz.func152 O Tryz.ntmps152 O (zmm [(900, .own b [p, v] 184)] (fun x hx => by rw [zni] at hx; subst hx; exact ⟨hB, trivial, fun _ h => h, fun q hq => by have hq : q = b := hq; rw [hq]; exact hB.lt⟩) (List.pairwise_singleton _ _) ?_)
 refine zlJ 0 900 0 O O ?_
 rcases hp with rfl | rfl
 ·
  refine Vs 6 O ?_
  refine zlh O (fun w hI => zmJ tu181 O O) ?_
  refine Vs 2 O ?_
  refine V.bool O (fun c => ?_) (fun c => ?_)
  ·
   refine Vs 3 O ?_
   refine zlh O (fun w hI => zmL O (Lib.run_to_unsafe w ⟨b, 0, none⟩ tu181 Tryz.underlying238 hj (by rw [hjs]; decide) (hsh w (hI.at 900 O)) (Nat.zero_lt_succ 1))) ?_
   refine zlh O (fun w hI => R.same Tryz.func179 O O O O O) ?_
   refine zlh O (fun w hI => zmL O (Lib.run_from_unsafe w ⟨b, 0, none⟩ Tryz.underlying238 tu181 hj (hsh w (hI.at 900 O)) hlies)) ?_
   refine Vs 4 O ?_
   refine zjW Tryz.results152 (fun w hI => ⟨_, rfl, rfl, hI.at 900 rfl, hI.k0.mono fun q _ ⟨x, hx, hq⟩ => by rw [zni] at hx; subst hx; exact hq⟩)
  . cases c
 ·
  refine Vs 6 O ?_
  refine zlh O (fun w hI => zmJ tu181 O O) ?_
  refine Vs 2 O ?_
  refine V.bool O (fun c => ?_) (fun c => ?_)
  . cases c
  ·
   refine Vs 7 O ?_
   refine zlh O (fun w hI => zmK tu181 hj O O) ?_
   refine Vs 2 O ?_
   refine V.bool O (fun d => ?_) (fun d => ?_)
   . cases d
   ·
    refine Vs 1 O ?_
    refine zjW Tryz.results152 (fun w hI => ⟨_, rfl, rfl, hI.at 900 rfl, hI.k0.mono fun q _ ⟨x, hx, hq⟩ => by rw [zni] at hx; subst hx; exact hq⟩)
end Go.Proofs.YtbkhagigkglgoaaGreatDoor
namespace Go.GL
open Go.Lib
def Dig (c : UInt8) : Prop := 48 <= c.toNat /\ c.toNat <= 57
theorem ze3 {m : Nat} (h : m < 10) : (UInt8.ofNat (48 + m)).toNat = 48 + m := by
 have : (48 + m) % 256 = 48 + m := Nat.mod_eq_of_lt (by omega)
 simp [this]
theorem xr (u : Nat) : ∀ c ∈ decDigits u, Dig c := by
 induction u using Nat.strongRecOn with
 | _ u ih =>
  intro c hc
  rw [decDigits] at hc
  split at hc
  ·
   rename_i h
   rw [zni] at hc
   subst hc
   unfold Dig
   rw [ze3 h]; omega
  ·
   rename_i h
   rcases znj.1 hc with hc | hc
   . exact ih (u / 10) (by omega) c hc
   ·
    rw [zni] at hc
    subst hc
    unfold Dig
    rw [ze3 (Nat.mod_lt _ (by decide))]
    have := Nat.mod_lt u (show 0 < 10 by decide)
    omega
def ziZ (l : List UInt8) : Nat := l.foldl (fun a c => a * 10 + (c.toNat - 48)) 0
theorem ze4 (u : Nat) : ziZ (decDigits u) = u := by
 induction u using Nat.strongRecOn with
 | _ u ih =>
  rw [decDigits]
  split
  ·
   rename_i h
   simp only [ziZ, List.foldl_cons, List.foldl_nil]
   rw [ze3 h]; omega
  ·
   rename_i h
   have h1 := ih (u / 10) (by omega)
   unfold ziZ at h1 ⊢
   rw [List.foldl_append, h1]
   simp only [List.foldl_cons, List.foldl_nil]
   rw [ze3 (Nat.mod_lt _ (by decide))]
   omega
theorem jP {u v : Nat} (h : decDigits u = decDigits v) : u = v := by
 rw [<- ze4 u, <- ze4 v, h]
theorem ze5 {a b : Int} (h : itoa a = itoa b) : a = b := by
 unfold itoa at h
 split at h <;> split at h
 ·
  have := jP (List.cons.inj h).2
  omega
 ·
  have := xr b.toNat 45 (by rw [<- h]; exact zn4 ..)
  exact absurd this (by unfold Dig; decide)
 ·
  have := xr a.toNat 45 (by rw [h]; exact zn4 ..)
  exact absurd this (by unfold Dig; decide)
 ·
  have := jP h
  omega
theorem zbL {a : Int} {c : UInt8} (h : c.toNat < 45) : c ∉ itoa a := by
 intro hc
 unfold itoa at hc
 split at hc
 ·
  rcases zng.1 hc with rfl | hc
  . exact absurd h (by decide)
  . have := (xr _ c hc).1; omega
 . have := (xr _ c hc).1; omega
theorem ze6 {α : Type} {c : α} : ∀ {a b x y : List α}, c ∉ a -> c ∉ b -> a ++ c :: x = b ++ c :: y -> a = b /\ x = y
 | [], [], _, _, _, _, h => ⟨rfl, (List.cons.inj h).2⟩
 | [], _ :: _, _, _, _, hb, h => absurd (zng.2 (.inl (List.cons.inj h).1)) hb
 | _ :: _, [], _, _, ha, _, h => absurd (zng.2 (.inl (List.cons.inj h).1.symm)) ha
 | p :: a, q :: b, x, y, ha, hb, h => by
  obtain ⟨h1, h2⟩ := List.cons.inj h
  obtain ⟨h3, h4⟩ := ze6 (fun h => ha (zn3 _ h)) (fun h => hb (zn3 _ h)) h2
  exact ⟨by rw [h1, h3], h4⟩
def xt (c : UInt8) (l : List Int) : List UInt8 := l.flatMap fun n => itoa n ++ [c]
theorem qO (c : UInt8) (n : Int) (l : List Int) : xt c (n :: l) = itoa n ++ c :: xt c l := by simp [xt]
theorem zcM (c : UInt8) (l l' : List Int) : xt c (l ++ l') = xt c l ++ xt c l' := by simp [xt]
def xU (o : List Int × Int) : List UInt8 := xt 44 o.1 ++ itoa o.2
theorem zbc : ∀ {o p : List Int × Int}, xU o = xU p -> o = p
 | ([], t), ([], t'), h => by
  have : itoa t = itoa t' := h
  rw [ze5 this]
 | ([], t), (n :: l, t'), h => by
  unfold xU at h
  simp only [qO, List.append_assoc, List.cons_append] at h
  have h : itoa t = itoa n ++ 44 :: (xt 44 l ++ itoa t') := h
  exact absurd (show (44 : UInt8) ∈ itoa t by rw [h]; simp) (zbL (by decide))
 | (n :: l, t), ([], t'), h => by
  unfold xU at h
  simp only [qO, List.append_assoc, List.cons_append] at h
  have h : itoa n ++ 44 :: (xt 44 l ++ itoa t) = itoa t' := h
  exact absurd (show (44 : UInt8) ∈ itoa t' by rw [<- h]; simp) (zbL (by decide))
 | (n :: l, t), (m :: l', t'), h => by
  unfold xU at h
  simp only [qO, List.append_assoc, List.cons_append] at h
  obtain ⟨h1, h2⟩ := ze6 (zbL (by decide)) (zbL (by decide)) h
  have := zbc (o := (l, t)) (p := (l', t')) h2
  rw [Prod.mk.injEq] at this
  rw [ze5 h1, this.1, this.2]
end Go.GL
namespace Go.Proofs
open Go.Shelf
def Tryz.laysM171_ren : Go.Shelf.Ren := ⟨fun | 171 => 122 | 243 => 153 | 246 => 180 | 283 => 193 | 284 => 194 | 285 => 195 | 286 => 196 | 129 => 139 | 317 => 207 | 318 => 208 | 319 => 209 | 320 => 210 | 337 => 213 | 338 => 214 | n => n, fun | 3 => 3 | 9 => 9 | 2 => 2 | 4 => 4 | 171 => 249 | 0 => 0 | 53 => 204 | 37 => 182 | 5 => 5 | 173 => 251 | 212 => 259 | 51 => 202 | 20 => 20 | 213 => 260 | 46 => 157 | 232 => 266 | 233 => 267 | n => n, fun | 17 => 0 | 18 => 1 | 19 => 2 | n => n⟩
theorem Tryz.laysM171 : Go.Proofs.LaysM.n171 Tryz.prog Tryz.laysM171_ren := {
 mixed := by kernel_rfl
 f129 := Tryz.func139.trans (congrArg some (by kernel_rfl))
 f171 := Tryz.func122.trans (congrArg some (by kernel_rfl))
 f243 := Tryz.func153.trans (congrArg some (by kernel_rfl))
 f246 := Tryz.func180.trans (congrArg some (by kernel_rfl))
 f283 := Tryz.func193.trans (congrArg some (by kernel_rfl))
 f284 := Tryz.func194.trans (congrArg some (by kernel_rfl))
 f285 := Tryz.func195.trans (congrArg some (by kernel_rfl))
 f286 := Tryz.func196.trans (congrArg some (by kernel_rfl))
 f317 := Tryz.func207.trans (congrArg some (by kernel_rfl))
 f318 := Tryz.func208.trans (congrArg some (by kernel_rfl))
 f319 := Tryz.func209.trans (congrArg some (by kernel_rfl))
 f320 := Tryz.func210.trans (congrArg some (by kernel_rfl))
 f337 := Tryz.func213.trans (congrArg some (by kernel_rfl))
 f338 := Tryz.func214.trans (congrArg some (by kernel_rfl))
 t0 := Tryz.underlying0
 a0 := Tryz.isAgg0
 z0 := Tryz.sizeOf0
 v0 := Tryz.zeroValue0
 t2 := Tryz.underlying2
 a2 := Tryz.isAgg2
 z2 := Tryz.sizeOf2
 v2 := Tryz.zeroValue2
 t3 := tu3
 a3 := tg3
 z3 := ts3
 v3 := tz3
 t4 := tu4
 a4 := tg4
 z4 := ts4
 v4 := tz4
 t5 := Tryz.underlying5
 a5 := Tryz.isAgg5
 z5 := ts5
 v5 := Tryz.zeroValue5
 t9 := tu9
 a9 := tg9
 z9 := ts9
 v9 := Tryz.zeroValue9
 t20 := Tryz.underlying20
 a20 := Tryz.isAgg20
 z20 := Tryz.sizeOf20
 v20 := Tryz.zeroValue20
 t37 := Tryz.underlying182
 a37 := Tryz.isAgg182
 z37 := Tryz.sizeOf182
 v37 := Tryz.zeroValue182
 t46 := Tryz.underlying157
 a46 := Tryz.isAgg157
 z46 := Tryz.sizeOf157
 v46 := Tryz.zeroValue157
 t51 := Tryz.underlying202
 a51 := Tryz.isAgg202
 z51 := Tryz.sizeOf202
 v51 := Tryz.zeroValue202
 t53 := Tryz.underlying204
 a53 := Tryz.isAgg204
 z53 := Tryz.sizeOf204
 v53 := Tryz.zeroValue204
 t171 := Tryz.underlying249
 a171 := Tryz.isAgg249
 z171 := Tryz.sizeOf249
 v171 := Tryz.zeroValue249
 t173 := Tryz.underlying251
 a173 := Tryz.isAgg251
 z173 := Tryz.sizeOf251
 v173 := Tryz.zeroValue251
 t212 := Tryz.underlying259
 a212 := Tryz.isAgg259
 z212 := Tryz.sizeOf259
 v212 := Tryz.zeroValue259
 t213 := Tryz.underlying260
 a213 := Tryz.isAgg260
 z213 := Tryz.sizeOf260
 t232 := Tryz.underlying266
 a232 := Tryz.isAgg266
 z232 := Tryz.sizeOf266
 v232 := Tryz.zeroValue266
 t233 := Tryz.underlying267
 a233 := Tryz.isAgg267
 z233 := Tryz.sizeOf267
 v233 := Tryz.zeroValue267
 g17 := by kernel_rfl
 g18 := by kernel_rfl
 g19 := by kernel_rfl
 i0 := by kernel_rfl
 i2 := by kernel_rfl
 i3 := by kernel_rfl
 i4 := by kernel_rfl
 i5 := by kernel_rfl
 i9 := by kernel_rfl
 i20 := by kernel_rfl
 i37 := by kernel_rfl
 i46 := by kernel_rfl
 i51 := by kernel_rfl
 i53 := by kernel_rfl
 i171 := by kernel_rfl
 i173 := by kernel_rfl
 i212 := by kernel_rfl
 i232 := by kernel_rfl
 i233 := by kernel_rfl
 m17 := by kernel_rfl
 m18 := by kernel_rfl
 m19 := by kernel_rfl }
open Go.RowKit Go.Sort Go.Lib in
theorem Tryz.strconv_Itoa (n : Int) (h0 : -9223372036854775808 <= n) (h1 : n <= 9223372036854775807) (w : World) (htab : Lib.TabIs Tryz.prog w "internal/strconv.uint64pow10" .u64 Lib.pow10Tab) :
  Calls Tryz.prog 122 #[.int .i64 n] w fun e w' => e = .returned (.string ⟨(Lib.itoa n).toArray⟩) /\ ∃ k os, w' = grow (w.drewN k) os := Any.strconv_Itoa Tryz.laysM171 n h0 h1 w htab
end Go.Proofs
namespace Go.Proofs.YtbkhagigkglgoaaGreatDoor
open Go.GL
theorem zfz (a b : List UInt8) : (⟨a.toArray⟩ : ByteArray) ++ ⟨b.toArray⟩ = ⟨(a ++ b).toArray⟩ := by
 apply ByteArray.ext
 simp
theorem zbM (a : List UInt8) : Lib.strCells ⟨a.toArray⟩ = Lib.byteCells a := by simp [Lib.strCells_eq]
theorem zbN (a : List UInt8) : (⟨a.toArray⟩ : ByteArray).size = a.length := by simp [ByteArray.size]
def Tab (w : World) : Prop := Lib.TabIs Tryz.prog w "internal/strconv.uint64pow10" .u64 Lib.pow10Tab
theorem Tab.ext {w w' : World} (h : Tab w) (hk : Ext w w') : Tab w' :=
 Go.Joins.tab_stays (P := Tryz.prog) (g := 0) (by kernel_rfl) h (B := w.heap.size) ⟨hk.os, hk.tape, hk.output, hk.size, fun k hk' => hk.block k hk' (fun h => h)⟩ (zno _)
instance {w w' : World} : Tr (Tab w) w w' (Tab w') := ⟨Tab.ext⟩
theorem zdp (w : World) (k : Nat) (os : Array Obj) : Ext w (Go.Sort.grow (w.drewN k) os) := by
 refine ⟨rfl, rfl, rfl, Nat.le_add_right _ _, ?_, fun i hi _ => ?_⟩
 ·
  show w.heap.size <= (w.heap ++ os).size
  rw [Array.size_append]; omega
 ·
  show (w.heap ++ os)[i]? = _
  rw [Array.getElem?_append_left hi]
theorem zfA (n : Int) (h0 : -9223372036854775808 <= n) (h1 : n <= 9223372036854775807) (w : World) (ht : Tab w) : Calls Tryz.prog 122 #[.int .i64 n] w (Ret fun r w' => r = .string ⟨(Lib.itoa n).toArray⟩ /\ Ext w w') := by
 refine (Tryz.strconv_Itoa n h0 h1 w ht).mono ?_
 rintro e w' ⟨rfl, k, os, rfl⟩
 exact ⟨_, rfl, rfl, zdp w k os⟩
abbrev ziC (k1 k2 b : Nat) (p v : Value) (m : Nat) (bs : List Value) : Hp := [(k1, .own b [p, v] 184), (k2, .row 5 1 v m bs)]
theorem zfB {k1 k2 b m : Nat} {p v : Value} {bs : List Value} {w : World} (hB : Blk w b [p, v] 184) (hR : w.ownsRow 0 5 1 v m bs) (hne : v.ownBlock ≠ some b) :
  (∀ x ∈ ziC k1 k2 b p v m bs, x.2.holds w /\ x.2.loc /\ (∀ b, ¬ x.2.fz b) /\ ∀ q, x.2.S q -> q < w.heap.size) /\ (ziC k1 k2 b p v m bs).Pairwise (fun x y => ∀ q, x.2.S q -> ¬ y.2.S q) := by
 refine ⟨fun x hx => ?_, List.pairwise_cons.2 ⟨fun x hx q hq hs => ?_, List.pairwise_singleton _ _⟩⟩
 ·
  simp only [zng, List.not_mem_nil, or_false] at hx
  rcases hx with rfl | rfl
  . exact ⟨hB, trivial, fun _ h => h, fun q hq => by have hq : q = b := hq; rw [hq]; exact hB.lt⟩
  . exact ⟨hR, trivial, fun _ h => h, fun q hq => xj hR hq⟩
 ·
  rw [zni] at hx
  subst hx
  have hq : q = b := hq
  subst hq
  exact hne hs
theorem zhR {H : Hp} {p v : Value} {b : Nat} {w : World} (hp : p = .pointer none \/ p = .pointer (some ⟨b, 0, none⟩)) (hB : Blk w b [p, v] 184) (h0 : zo H 900 = some (.own b [p, v] 184)) :
  Calls Tryz.prog 152 #[.pointer (some ⟨b, 0, none⟩)] w (Ret fun r w' => ∃ _x : Unit, r = .tuple #[] /\ Hands H [900] [(900, .own b [.pointer (some ⟨b, 0, none⟩), v] 184)] w w') := by
 refine (zcL p v b hp w hB).mono ?_
 rintro e w' ⟨_, rfl, rfl, h1, h2⟩
 refine ⟨_, rfl, (), rfl, h2.mono fun q _ hq => ⟨_, zm h0, rfl, hq⟩, fun x hx => ?_, List.pairwise_singleton _ _⟩
 rw [zni] at hx
 subst hx
 exact ⟨h1, trivial, fun _ h => h, fun q hq => ⟨.inl ⟨_, zm h0, rfl, hq⟩, by have hq : q = b := hq; rw [hq]; exact h1.lt⟩⟩
theorem zj0 {k1 k2 b m q : Nat} {p v : Value} {bs : List Value} (h : HS (ziC k1 k2 b p v m bs) q) : q = b \/ v.ownBlock = some q := by
 obtain ⟨x, hx, hq⟩ := h
 simp only [zng, List.not_mem_nil, or_false] at hx
 rcases hx with rfl | rfl
 . exact .inl hq
 . exact .inr hq
theorem bldB {H : Hp} {w0 w : World} {b m m' : Nat} {p p' v v' : Value} {bs bs' : List Value} (hI : VI [(w0, HS (ziC 900 901 b p v m bs))] H w) (h0 : zo H 900 = some (.own b [p', v'] 184)) (h1 : zo H 901 = some (.row 5 1 v' m' bs')) : ∀ q, v'.ownBlock = some q -> v.ownBlock = some q \/ w0.heap.size <= q := by
 intro q hq
 rcases (hI.base _ (zn4 ..)).2 _ (zm h1) q hq with h | h
 ·
  rcases zj0 h with h | h
  . exact absurd hq (fun hq => zB hI.apart h0 h1 O b O (h ▸ hq))
  . exact .inl h
 . exact .inr h
theorem zdq (p v : Value) (b : Nat) (bs : List Value) (s : ByteArray) (hp : p = .pointer none \/ p = .pointer (some ⟨b, 0, none⟩)) (W : World) (hB : Blk W b [p, v] 184) (hR : W.ownsRow 0 5 1 v bs.length bs) (hne : v.ownBlock ≠ some b) (h0 : 0 < s.size) (hlen : bs.length + s.size <= 140737488355328) :
  Calls Tryz.prog 121 #[.pointer (some ⟨b, 0, none⟩), .string s] W (Ret fun r w' => r = .tuple #[.int .i64 s.size, .nilIface] /\ ∃ v', Blk w' b [.pointer (some ⟨b, 0, none⟩), v'] 184 /\ w'.ownsRow 0 5 1 v' (bs.length + s.size) (bs ++ Lib.strCells s) /\ v'.ownBlock ≠ some b /\ Keep (fun q => q = b \/ v.ownBlock = some q) W w' /\ ∀ q, v'.ownBlock = some q -> v.ownBlock = some q \/ W.heap.size <= q) := by
 refine zlr Tryz.func121 O Tryz.ntmps121 O (zmm [(900, .own b [p, v] 184), (901, .row 5 1 v bs.length bs)] (zfB (k1 := 900) (k2 := 901) hB hR hne).1 (zfB (k1 := 900) (k2 := 901) hB hR hne).2 ?_)
 refine zlJ 0 900 0 O O ?_
 refine Vs 9 O ?_
 refine zmn [900] (Hn := fun _x : Unit => [(900, .own b [.pointer (some ⟨b, 0, none⟩), v] 184)]) [(0, some (900, 0)), (6, some (900, 0))] Tryz.call152 O (fun _ _ => rfl) (fun _ => rfl) (fun w hI => zhR hp (hI.at 900 O) O) ?_
 rintro _ ⟨⟩ rfl
 refine Vs 10 O ?_
 refine zmG 901 Tryz.underlying182 tu9 Tryz.el5 O (h0) (by omega) (by omega) (fun u901 => ?_)
 refine zlQ 901 O (by omega) ?_
 rintro bq cq rfl hcap_901
 refine Vs 14 O ?_
 refine zjL Tryz.results121 O O (fun w hI => ⟨_, rfl, rfl, _, hI.at 900 rfl, hI.at 901 rfl, fun h => zB hI.apart (k := 900) (k' := 901) O O O b O h, hI.k0.mono (fun q _ h => zj0 h), bldB hI O rfl⟩)
end Go.Proofs.YtbkhagigkglgoaaGreatDoor
namespace Go.GL
theorem zmP {P : Program} {env : Env} {w : World} {dst : Option Tmp} {ty : TypeId} {pos : String} {aft : Array Edge} {g : Option (Nat × Bool)} {pt it e : TypeId} {x y : Operand} {b c : Nat} {l : List UInt8} (hp : P.underlying pt = some (.pointer e)) (hc : P.cellsOf e = 1) (hx : ev env x = some (.pointer (some ⟨b, 0, none⟩))) (hy : ev env y = some (.int .i64 l.length)) (h0 : l ≠ []) (hown : w.ownsRow 0 e 1 (.slice (some ⟨b, 0, none⟩) l.length c) l.length (Lib.byteCells l)) :
  yz P ⟨dst, .call ⟨.builtin .unsafeString, #[x, y], #[pt, it]⟩, ty, pos, aft, g⟩ env w (fun u w' => u = .string ⟨l.toArray⟩ /\ HE.holds w' (.res (fun q => q = b) (fun _ => True)) /\ Keep (HE.S (.row e 1 (.slice (some ⟨b, 0, none⟩) l.length c) l.length (Lib.byteCells l))) w w' /\ ∀ q, HE.S (.res (fun q => q = b) (fun _ => True)) q -> (HE.S (.row e 1 (.slice (some ⟨b, 0, none⟩) l.length c) l.length (Lib.byteCells l)) q \/ w.heap.size <= q) /\ q < w'.heap.size) := by
 obtain ⟨u, w', hr, rfl, hk⟩ := M.unsafeString (dst := dst) (ty := ty) (pos := pos) (aft := aft) (g := g) (it := it) hp hc hx hy h0 hown
 refine ⟨_, w', hr, rfl, trivial, hk.mono fun q _ hq => by show some b = some q; rw [hq], fun q hq => ?_⟩
 have hq : q = b := hq
 subst hq
 exact ⟨.inl rfl, Nat.lt_of_lt_of_le (xj hown O) hk.size⟩
end Go.GL
namespace Go.Proofs.YtbkhagigkglgoaaGreatDoor
open Go.GL
theorem zcN (p : Value) (b bq cq : Nat) (l : List UInt8) (h0 : l ≠ []) (W : World) (hB : Blk W b [p, .slice (some ⟨bq, 0, none⟩) l.length cq] 184) (hR : W.ownsRow 0 5 1 (.slice (some ⟨bq, 0, none⟩) l.length cq) l.length (Lib.byteCells l)) (hne : (Value.slice (some ⟨bq, 0, none⟩) l.length cq).ownBlock ≠ some b) :
  Calls Tryz.prog 123 #[.pointer (some ⟨b, 0, none⟩)] W (Ret fun r w' => r = .string ⟨l.toArray⟩ /\ Blk w' b [p, .slice (some ⟨bq, 0, none⟩) l.length cq] 184 /\ Keep (fun q => q = b \/ some bq = some q) W w') := by
 have hl0 := List.length_pos_iff.2 h0
 have hcap := (zbl hR).choose_spec.2.1
 refine zlq Tryz.func123 O Tryz.ntmps123 O (zmm [(900, .own b [p, .slice (some ⟨bq, 0, none⟩) l.length cq] 184), (901, .row 5 1 (.slice (some ⟨bq, 0, none⟩) l.length cq) l.length (Lib.byteCells l))] (zfB (k1 := 900) (k2 := 901) hB hR hne).1 (zfB (k1 := 900) (k2 := 901) hB hR hne).2 ?_)
 refine zlJ 0 900 0 O O ?_
 refine Vs 6 O ?_
 refine Vw [900] [] O ?_
 refine Vd [0, 1, 2, 3, 5, 6, 7, 8, 9] 0 (by kernel_rfl) O O O ?_
 refine zli 4 0 O (by kernel_rfl) O O (fun w hI => zmM O (by omega)) ?_
 refine zmH 10 901 0 (e' := .res (fun q => q = bq) (fun _ => True)) (r := .string ⟨l.toArray⟩) O (by kernel_rfl) O O (fun _ _ _ _ _ _ => trivial) (fun _ h => h) (fun w hI => zmP (e := 5) (c := cq) (l := l) Tryz.underlying217 (by kernel_rfl) O O h0 (hI.at 901 O)) ?_
 refine Vd [11] 0 (by kernel_rfl) O O O ?_
 refine VD.done (by kernel_rfl) ?_
 refine Vs 2 O ?_
 refine zjI Tryz.results123 O (fun w hI => ⟨_, rfl, rfl, hI.at 900 rfl, hI.k0.mono (fun q _ h => zj0 h)⟩)
theorem zbO (p : Value) (b : Nat) (W : World) (hB : Blk W b [p, .slice none 0 0] 184) :
  Calls Tryz.prog 123 #[.pointer (some ⟨b, 0, none⟩)] W (Ret fun r w' => r = .string ⟨[].toArray⟩ /\ Blk w' b [p, .slice none 0 0] 184 /\ Keep (fun q => q = b) W w') := by
 refine zlq Tryz.func123 O Tryz.ntmps123 O (zmm [(900, .own b [p, .slice none 0 0] 184)] (fun x hx => by rw [zni] at hx; subst hx; exact ⟨hB, trivial, fun _ h => h, fun q hq => by have hq : q = b := hq; rw [hq]; exact hB.lt⟩) (List.pairwise_singleton _ _) ?_)
 refine zlJ 0 900 0 O O ?_
 refine Vs 6 O ?_
 refine Vw [900] [] O ?_
 refine Vd [0, 1, 2, 3, 5, 6, 7, 8, 9] 0 (by kernel_rfl) O O O ?_
 refine zli 4 0 O (by kernel_rfl) O O (fun w hI => zmN O) ?_
 refine zli 10 0 O (by kernel_rfl) O O (fun w hI => zmO O O) ?_
 refine Vd [11] 0 (by kernel_rfl) O O O ?_
 refine VD.done (by kernel_rfl) ?_
 refine Vs 2 O ?_
 refine zjI Tryz.results123 O (fun w hI => ⟨_, rfl, rfl, hI.at 900 rfl, hI.k0.mono (fun q _ ⟨x, hx, hq⟩ => by rw [zni] at hx; subst hx; exact hq)⟩)
theorem zhk {H : Hp} {k1 k2 b : Nat} {v p p' v' : Value} {m : Nat} {bs : List Value} {w w' : World} (h0 : zo H k1 = some (.own b [p, v] 184)) (h1 : zo H k2 = some (.row 5 1 v m bs)) (hB : Blk w' b [p', v'] 184) (hk : Keep (fun q => q = b \/ v.ownBlock = some q) w w') : Hands H [k1, k2] [(k1, .own b [p', v'] 184)] w w' := by
 have i0 : ∀ q, q = b -> InS H [k1, k2] q := fun q hq => ⟨_, zm h0, by simp [zd0, Nat.beq_refl], hq⟩
 have i1 : ∀ q, v.ownBlock = some q -> InS H [k1, k2] q := fun q hq => ⟨_, zm h1, by simp only [zd0]; cases Nat.beq k1 k2 <;> simp [Nat.beq_refl], hq⟩
 refine ⟨hk.mono fun q _ hq => hq.elim (i0 q) (i1 q), fun x hx => ?_, List.pairwise_singleton _ _⟩
 rw [zni] at hx
 subst hx
 exact ⟨hB, trivial, fun _ h => h, fun q hq => ⟨.inl (i0 q hq), by have hq : q = b := hq; rw [hq]; exact hB.lt⟩⟩
theorem zfC {Bs : yc} {H : Hp} {k1 k2 b : Nat} {v p : Value} {l : List UInt8} {w : World} (hI : VI Bs H w) (h0 : zo H k1 = some (.own b [p, v] 184)) (h1 : zo H k2 = some (.row 5 1 v l.length (Lib.byteCells l))) (hne : Nat.beq k1 k2 = false) (hv : l = [] -> v = .slice none 0 0) :
  Calls Tryz.prog 123 #[.pointer (some ⟨b, 0, none⟩)] w (Ret fun r w' => ∃ _x : Unit, r = .string ⟨l.toArray⟩ /\ Hands H [k1, k2] [(k1, .own b [p, v] 184)] w w') := by
 have hB : Blk w b [p, v] 184 := hI.at k1 h0
 have hR : w.ownsRow 0 5 1 v l.length (Lib.byteCells l) := hI.at k2 h1
 have hap : v.ownBlock ≠ some b := fun h => zB hI.apart h0 h1 hne b rfl h
 by_cases hl : l = []
 ·
  obtain rfl := hv hl
  subst hl
  refine (zbO p b w hB).mono ?_
  rintro e w' ⟨_, rfl, rfl, h2, h3⟩
  exact ⟨_, rfl, (), rfl, zhk h0 h1 h2 (h3.mono fun q _ hq => .inl hq)⟩
 ·
  have hpos := List.length_pos_iff.2 hl
  obtain ⟨g, cap, rfl⟩ : ∃ g cap, v = .slice (some ⟨g, 0, none⟩) l.length cap := by
   rcases hR.2 with ⟨_, h⟩ | ⟨g, cap, cur, hv, _⟩
   . omega
   . exact ⟨g, cap, hv⟩
  refine (zcN p b g cap l hl w hB hR hap).mono ?_
  rintro e w' ⟨_, rfl, rfl, h2, h3⟩
  exact ⟨_, rfl, (), rfl, zhk h0 h1 h2 h3⟩
theorem zgK {Bs : yc} {H : Hp} {k1 k2 b m : Nat} {v p : Value} {bs : List Value} {s : ByteArray} {w : World} (hI : VI Bs H w) (h0 : zo H k1 = some (.own b [p, v] 184)) (h1 : zo H k2 = some (.row 5 1 v m bs)) (hne : Nat.beq k1 k2 = false) (hp : p = .pointer none \/ p = .pointer (some ⟨b, 0, none⟩)) (hs : 0 < s.size) (hlen : m + s.size <= 140737488355328) :
  Calls Tryz.prog 121 #[.pointer (some ⟨b, 0, none⟩), .string s] w (Ret fun r w' => ∃ v', r = .tuple #[.int .i64 s.size, .nilIface] /\ Hands H [k1, k2] (ziC k1 k2 b (.pointer (some ⟨b, 0, none⟩)) v' (m + s.size) (bs ++ Lib.strCells s)) w w') := by
 have hB : Blk w b [p, v] 184 := hI.at k1 h0
 have hR : w.ownsRow 0 5 1 v m bs := hI.at k2 h1
 have hm : bs.length = m := by have := hR.1; omega
 have hap : v.ownBlock ≠ some b := fun h => zB hI.apart h0 h1 hne b rfl h
 refine (zdq p v b bs s hp w hB (by rw [hm]; exact hR) hap hs (by omega)).mono ?_
 rintro e w' ⟨_, rfl, rfl, v', h2, h3, h4, h5, h6⟩
 rw [hm] at h3
 have i0 : ∀ q, q = b -> InS H [k1, k2] q := fun q hq => ⟨_, zm h0, by simp [zd0, Nat.beq_refl], hq⟩
 have i1 : ∀ q, v.ownBlock = some q -> InS H [k1, k2] q := fun q hq => ⟨_, zm h1, by simp only [zd0]; rw [hne]; simp [Nat.beq_refl], hq⟩
 obtain ⟨l1, l2⟩ := zfB (k1 := k1) (k2 := k2) h2 h3 h4
 refine ⟨_, rfl, v', rfl, h5.mono fun q _ hq => hq.elim (i0 q) (i1 q), fun x hx => ?_, l2⟩
 obtain ⟨g1, g2, g3, g4⟩ := l1 x hx
 refine ⟨g1, g2, g3, fun q hq => ⟨?_, g4 q hq⟩⟩
 simp only [zng, List.not_mem_nil, or_false] at hx
 rcases hx with rfl | rfl
 . exact .inl (i0 q hq)
 . exact (h6 q hq).imp (i1 q) id
structure ObB (o : List Int × Int) : Prop where
 len : o.1.length <= 100000
 outs : ∀ x ∈ o.1, -1048576 <= x /\ x <= 1048576
 t0 : 0 <= o.2
 t1 : o.2 <= 1000000000000
theorem zcO {c : UInt8} : ∀ {l : List Int}, (∀ x ∈ l, -1048576 <= x /\ x <= 1048576) -> (xt c l).length <= 22 * l.length
 | [], _ => znf _
 | x :: l, h => by
  have h1 := h x (zn4 ..)
  have h2 := Lib.itoa_length_le x (by omega) (by omega)
  have h3 := zcO (c := c) fun y hy => h y (zn3 _ hy)
  rw [qO, zn8, zns, zns]
  omega
theorem zhS (o : List Int × Int) (ho : ObB o) (ov : Value) (D : Nat -> Prop) (W : World) (hd : SlR 1 zz D W ov o.1) (ht : Tab W) :
  Calls Tryz.prog 88 #[.agg #[ov, .int .i64 o.2]] W (Ret fun r w' => r = .string ⟨(xU o).toArray⟩ /\ Ext W w') := by
 obtain ⟨os, t⟩ := o
 dsimp only at hd
 obtain ⟨ao, co, rfl⟩ := hd.form
 have hlen := ho.len
 have hout := ho.outs
 have ht0 := ho.t0
 have ht1 := ho.t1
 dsimp only at hlen hout ht0 ht1
 refine zlq Tryz.func88 O Tryz.ntmps88 O (zlC ?_)
 refine Vs 2 O ?_
 refine V.box 1 O O (fun b1 => ?_)
 refine Vs 5 O ?_
 refine V.alloc 3 Tryz.zeroValue184 O O (fun b3 => ?_)
 refine Vs 11 O ?_
 refine zlN 901 5 1 O ?_
 refine Vs 1 O ?_
 refine zm5 (σ := Nat × Value × Value) [1, 3, 7, 8] [1] [1, 3] O (fun e ⟨i, p, v⟩ => (9, .int .i64 i) :: e) (fun e ⟨i, p, v⟩ => (3, .own b3 [p, v] 184) :: (901, .row 5 1 v (xt 44 (os.take i)).length (Lib.byteCells (xt 44 (os.take i)))) :: e) (fun ⟨i, p, v⟩ => i <= os.length /\ (p = .pointer none \/ p = .pointer (some ⟨b3, 0, none⟩)) /\ (xt 44 (os.take i) = [] -> v = .slice none 0 0)) (fun ⟨i, p, v⟩ => os.length - i) ((0, .pointer none, .slice none 0 0)) (zkZ O) (zl0 O) (fun _ => rfl) (fun _ => rfl) (fun _ => rfl) (⟨znf _, .inl rfl, fun _ => rfl⟩) ?_
 rintro ⟨i, p, v⟩ ⟨hi, hp, hv⟩
 show V _ _ _ _ _ ((9, .int .i64 i) :: _) _ ((3, .own b3 [p, v] 184) :: (901, .row 5 1 v (xt 44 (os.take i)).length (Lib.byteCells (xt 44 (os.take i)))) :: _) _
 have hsl := zcO (c := 44) (l := os.take i) fun x hx => hout x (List.mem_of_mem_take hx)
 rw [znt] at hsl
 refine Vs 6 O ?_
 refine zjo O (fun hlt => ?_) (fun hlt => ?_)
 ·
  refine Vs 6 O ?_
  obtain ⟨x, he_x, hm_x⟩ := gE_ os (i) (by omega)
  obtain ⟨b_x, o_x, c_x, ha_x, _, hc_x, hR_x⟩ := hd.at he_x
  obtain rfl := hR_x
  refine zm1 1000 0 O O hc_x ?_
  refine zlK 1000 tR31 ts3 O ha_x (by omega) (_) (rfl) O ?_
  have hx := hout x hm_x
  have hil := Lib.itoa_length_le x (by omega) (by omega)
  have hst : xt 44 (os.take (i + 1)) = xt 44 (os.take i) ++ (Lib.itoa x ++ [44]) := by
   rw [zg he_x, zcM]; simp [xt]
  have hsz : ((⟨(Lib.itoa x).toArray⟩ : ByteArray) ++ ⟨#[44]⟩).size = (Lib.itoa x).length + 1 := by
   rw [show (⟨#[44]⟩ : ByteArray) = ⟨[44].toArray⟩ from rfl, zfz, zbN, zn8]; rfl
  refine Vs 6 O ?_
  refine zlT Tryz.call122 O (fun w hI => zfA x (by omega) (by omega) w (Tr1 hI.k0 ht)) ?_
  refine zlh O (fun w hI => zmF O O (by rw [zbN]; have : (⟨#[44]⟩ : ByteArray).size = 1 := rfl; omega)) ?_
  refine zmn [3, 901] (Hn := fun v' : Value => [(3, .own b3 [.pointer (some ⟨b3, 0, none⟩), v'] 184), (901, .row 5 1 v' ((xt 44 (os.take i)).length + ((⟨(Lib.itoa x).toArray⟩ : ByteArray) ++ ⟨#[44]⟩).size) (Lib.byteCells (xt 44 (os.take i)) ++ Lib.strCells ((⟨(Lib.itoa x).toArray⟩ : ByteArray) ++ ⟨#[44]⟩)))]) [(1, some (1, 0)), (3, some (3, 0)), (11, some (1000, 0))] Tryz.call121 O (fun _ _ => rfl) (fun _ => rfl) (fun w hI => zgK hI O O O hp (by omega) (by omega)) ?_
  rintro _ v' rfl
  refine zm4 901 O (e' := .row 5 1 v' (xt 44 (os.take (i + 1))).length (Lib.byteCells (xt 44 (os.take (i + 1))))) (by rw [hst, zn8, hsz, show (⟨#[44]⟩ : ByteArray) = ⟨[44].toArray⟩ from rfl, zfz, zbM, Lib.byteCells_append (xt 44 (os.take i)), zn8]; rfl) ?_
  refine Va 7 O (by omega) ?_
  refine zjz (⟨i + 1, _, v'⟩) (zkZ O) (zl0 O) (⟨by omega, .inr rfl, fun h => by rw [hst] at h; simp at h⟩) (by first | omega | (dsimp only; omega)) 0 O O
 ·
  obtain rfl : i = os.length := by omega
  rw [zn5] at *
  refine Vs 6 O ?_
  refine Vw [1, 3] [] O ?_
  refine Vd [1, 2] 0 (by kernel_rfl) O O O ?_
  refine zmo 0 0 [3, 901] (Hn := fun _x : Unit => [(3, .own b3 [p, v] 184)]) [(1, some (1, 0)), (3, some (3, 0)), (19, some (1, 1))] Tryz.call123 O (by kernel_rfl) O O (fun _ => rfl) (fun _ _ => rfl) (fun _ => rfl) (fun w hI => zfC hI O O O hv) ?_
  rintro _ ⟨⟩ rfl
  refine zlU 3 0 Tryz.call122 O (by kernel_rfl) O O (fun w hI => zfA t (by omega) (by omega) w (Tr1 hI.k0 ht)) ?_
  have hil := Lib.itoa_length_le t (by omega) (by omega)
  refine zli 4 0 O (by kernel_rfl) O O (fun w hI => zmF O O (by rw [zbN, zbN]; omega)) ?_
  refine Vd [5] 0 (by kernel_rfl) O O O ?_
  refine VD.done (by kernel_rfl) ?_
  refine Vs 2 O ?_
  refine zjI Tryz.results88 O (fun w hI => ⟨_, rfl, by rw [zfz]; rfl, hI.k0⟩)
abbrev zgd (σ : Sg) : Prop := ∀ x ∈ σ.outs, -1048576 <= x /\ x <= 1048576
theorem zfD {f : Fl} {hs : List Int} {s : St} {σ : Sg} (hg : ∀ v ∈ f.vars, yg (v.low, v.high)) (ho : StepOk f s) (hV : InV f.vars σ.vals) (h : zgd σ) : zgd (xR f hs s σ) := by
 unfold xR
 split
 . exact h
 split
 ·
  intro x hx
  rcases znj.1 hx with hx | hx
  . exact h x hx
  ·
   rw [zni] at hx
   subst hx
   obtain ⟨r, hr⟩ := Option.isSome_iff_exists.1 ho.ranged
   have h1 := zfe hg hV s.term ho.formed r hr
   have h2 := qM hg s.term ho.formed r hr
   unfold yg at h2
   omega
 split
 . exact h
 split
 . exact h
 . exact h
theorem zcP {f : Fl} {body : Sg -> Sg} {s : St} (ho : StepOk f s) {b : Nat} (hb : ∀ N σ, SgB f N σ -> SgB f (N + b) (body σ)) (hO : ∀ N σ, SgB f N σ -> zgd σ -> zgd (body σ)) : ∀ (k N : Nat) (σ : Sg), SgB f N σ -> zgd σ -> zgd (xi body s.cost s.term k σ)
 | 0, N, σ, _, h => h
 | k + 1, N, σ, hB, h => by
  unfold xi
  have h1 := hB.cost ho
  split
  . exact h
  . exact zcP ho hb hO k _ _ (hb _ _ h1) (hO _ _ h1 h)
theorem zhT {f : Fl} {hs : List Int} (hg : ∀ v ∈ f.vars, yg (v.low, v.high)) (l : List St) : PreOk f l -> ∀ N σ, SgB f N σ -> zgd σ -> zgd (exL f hs l σ) := by
 induction l using zkS with
 | h l ih =>
 intro hp
 have key : ∀ r : List St, (∀ x ∈ r, x ∈ l) -> ∀ N σ, SgB f N σ -> zgd σ -> zgd (exL f hs r σ) := by
  intro r
  induction r with
  | nil => intro _ N σ _ h; exact h
  | cons x r ihr =>
   intro hm N σ hB h
   have hpx := hp.kids (hm x (zn4 ..))
   obtain ⟨⟨ho, hse, hn4⟩, hp1, hp2⟩ := hpx
   obtain ⟨i1, i2⟩ := ih x (hm x (zn4 ..))
   rw [exL]
   have hx1 : PreOk f [x] := fun s hs => hp s (by
    obtain ⟨a, b, rfl⟩ := List.append_of_mem (hm x (zn4 ..))
    rw [qf, show x :: b = [x] ++ b from rfl, qf]
    simp [hs])
   have hB' := jj (hs := hs) hg [x] hx1 N σ hB
   have hxx : exL f hs [x] σ = exS f hs x σ := rfl
   rw [hxx] at hB'
   refine ihr (fun y hy => hm y (zn3 _ hy)) _ _ hB' ?_
   rw [xl]
   split
   ·
    split
    . exact i1 hp1 _ _ (hB.cost ho) h
    . exact i2 hp2 _ _ (hB.cost ho) h
   ·
    split
    . exact zcP ho (jj hg x.thn hp1) (i1 hp1) _ _ _ hB h
    . exact zfD hg ho hB.inv h
 exact key l (fun x h => h)
theorem ziD {f : Fl} (vd : Valid f) (pub : List Int) (s : Int) : ObB (obN f pub s) := by
 unfold obN
 split
 ·
  rename_i h
  have hst : zt f.vars (qR f pub s) = 0 := by
   unfold zy at h
   rwa [zna (znm vd.ok)] at h
  have h1 := jj (hs := qX f (qR f pub s)) vd.good f.body (kY vd) 0 _ (jK hst)
  have h2 := zhT (hs := qX f (qR f pub s)) vd.good f.body (kY vd) 0 _ (jK hst) (fun x hx => by cases hx)
  have hnb := vd.nb
  have a1 := h1.ol
  have a2 := h1.t0
  have a3 := h1.t1
  exact ⟨by show (xF f (qR f pub s)).outs.length <= _; unfold xF; omega, h2, by show 0 <= (xF f (qR f pub s)).time; unfold xF; omega, by show (xF f (qR f pub s)).time <= _; unfold xF; omega⟩
 . exact ⟨znf _, (fun x hx => by cases hx), Int.le_refl _, (show (0 : Int) <= 1000000000000 by decide)⟩
theorem zbd (f : Fl) (vd : Valid f) (v1 v2 v3 : Value) (D : Nat -> Prop) (W : World) (hf : RFl D W f v1 v2 v3) : Calls Tryz.prog 89 #[.agg #[v1, v2, v3]] W (Ret fun r w' => r = .int .i64 (spN f) /\ Ext W w') := by
 have hl := vd.lens
 have hsp : (zk 1 f.vars).getD 0 = (spN f : Int) := by
  unfold spN
  cases h : zk 1 f.vars with
  | none => rfl
  | some m =>
   have := ym 1 f.vars 1 m vd.good (by omega) (by omega) h
   simp only [Option.getD_some]
   omega
 refine zlq Tryz.func89 O Tryz.ntmps89 O (zlC ?_)
 refine Vs 2 O ?_
 refine V.box 1 O O (fun b1 => ?_)
 refine Vs 7 O ?_
 refine zlT Tryz.call124 O (fun w hI => zaw f.vars 1 v1 D w (by decide) vd.good (Tr1 hI.k0 hf.vars) (by omega)) ?_
 refine Vs 14 O ?_
 refine zjI Tryz.results89 O (fun w hI => ⟨_, rfl, by rw [hsp], hI.k0⟩)
theorem ze7 {f : Fl} (vd : Valid f) : spN f <= 4096 := by
 unfold spN
 cases h : zk 1 f.vars with
 | none => simp
 | some m =>
  have := ym 1 f.vars 1 m vd.good (by omega) (by omega) h
  simp only [Option.getD_some]
  omega
theorem zfE (f : Fl) (vd : Valid f) (v1 v2 v3 : Value) (D : Nat -> Prop) (W : World) (hf : RFl D W f v1 v2 v3) : Calls Tryz.prog 52 #[.agg #[v1, v2, v3]] W (Ret fun r w' => SlR 1 zz (fun b => W.heap.size <= b) w' r (ko f) /\ Ext W w') := by
 have hsp := ze7 vd
 have hla : (ko f).length = spN f := by simp [ko]
 refine zlq Tryz.func52 O Tryz.ntmps52 O (zlC ?_)
 refine Vs 2 O ?_
 refine V.box 1 O O (fun b1 => ?_)
 refine Vs 12 O ?_
 refine zlT Tryz.call89 O (fun w hI => zbd f vd v1 v2 v3 D w (Tr1 hI.k0 hf)) ?_
 refine zlN 900 3 1 O ?_
 refine Vs 4 O ?_
 refine zm5 (σ := Nat × Value) [6] [] [] O (fun e ⟨i, v⟩ => (7, .int .i64 i) :: (3, v) :: e) (fun e ⟨i, v⟩ => (900, .row 3 1 v i (((ko f).take i).map ze)) :: e) (fun ⟨i, v⟩ => i <= spN f) (fun ⟨i, v⟩ => spN f - i) ((0, .slice none 0 0)) (zkZ O) (zl0 O) (fun _ => rfl) (fun _ => rfl) (fun _ => rfl) (znf _) ?_
 rintro ⟨i, v⟩ hi
 show V _ _ _ _ _ ((7, .int .i64 i) :: (3, v) :: _) _ ((900, .row 3 1 v i (((ko f).take i).map ze)) :: _) _
 refine Vs 6 O ?_
 refine zjo O (fun hlt => ?_) (fun hlt => ?_)
 ·
  have zo : (ko f)[i]? = some (i : Int) := by simp [ko, List.getElem?_range (show i < spN f by omega)]
  refine Vs 13 O ?_
  refine zm8 12 [(0, _)] tR31 ts3 tz3 (by decide) O O (by kernel_rfl) (fun b12 => ?_)
  refine zlO 900 12 tu31 Tryz.el3 O (by decide) O O (by omega) (by omega) (fun u900 => ?_)
  refine Va 8 O (by omega) ?_
  refine zm4 900 O (e' := .row 3 1 u900 (i + 1) (((ko f).take (i + 1)).map ze)) (by rw [List.take_add_one, zo, List.map_append]; rfl) ?_
  refine zjz (⟨i + 1, u900⟩) (zkZ O) (zl0 O) (by omega) (by first | omega | (dsimp only; omega)) 0 O O
 ·
  obtain rfl : i = spN f := by omega
  refine zm4 900 O (e' := .row 3 1 v (ko f).length ((ko f).map ze)) (by rw [<- hla, zn5]) ?_
  refine Vs 12 O ?_
  refine zjI Tryz.results52 O (fun w hI => ⟨_, rfl, zkx ze (fun _ _ => rfl) (hI.at 900 O) (fun b hb => hI.own 900 0 O O b hb), hI.k0⟩)
end Go.Proofs.YtbkhagigkglgoaaGreatDoor
namespace Go.GL
open Go.Sort Go.Proofs
theorem zgL {w w' : World} (h : Ext w w') : ∃ q os, w' = grow (w.drewN q) os := by
 refine ⟨w'.drawn - w.drawn, w'.heap.extract w.heap.size w'.heap.size, ?_⟩
 have hd := h.drawn
 have hh : w'.heap = w.heap ++ w'.heap.extract w.heap.size w'.heap.size := by
  apply Array.ext_getElem?
  intro i
  by_cases hi : i < w.heap.size
  ·
   rw [Array.getElem?_append_left hi]
   exact h.block i hi (fun h => h)
  ·
   rw [Array.getElem?_append_right (by omega), Array.getElem?_extract]
   by_cases hi2 : i < w'.heap.size
   . rw [znb (by omega), show w.heap.size + (i - w.heap.size) = i from by omega]
   . rw [zna (by omega), Array.getElem?_eq_none (by omega)]
 have : ∀ (a b : World), a.heap = b.heap -> a.tape = b.tape -> a.drawn = b.drawn -> a.os = b.os -> a.output = b.output -> a = b := by
  intro a b h1 h2 h3 h4 h5
  cases a; cases b
  simp at h1 h2 h3 h4 h5
  subst h1 h2 h3 h4 h5
  rfl
 refine this _ _ hh h.tape ?_ h.os h.output
 show w'.drawn = w.drawn + (w'.drawn - w.drawn)
 omega
section
variable {α : Type} [Inhabited α] {enc : α -> List Value} {k : Nat}
theorem zbe (hk : ∀ x, (enc x).length = k) (d : Array α) : (flatK enc k d).toList = d.toList.flatMap enc := by
 apply List.ext_getElem?
 intro t
 have hl : (d.toList.flatMap enc).length = d.size * k := by rw [yQ hk, Array.length_toList]
 by_cases ht : t < d.size * k
 ·
  have hk0 : 0 < k := by
   rcases Nat.eq_zero_or_pos k with h | h
   . rw [h] at ht; omega
   . exact h
  have hd : t / k < d.size := Nat.div_lt_of_lt_mul (by rw [Nat.mul_comm]; exact ht)
  have hm : t % k < k := Nat.mod_lt _ hk0
  have h1 := get_flatK enc k d t ht
  have h2 : (flatK enc k d).toList[t]? = some ((flatK enc k d)[t]!) := by
   rw [Array.getElem?_toList, getElem!_pos _ t (by simpa using ht)]
   exact Array.getElem?_eq_getElem (by simpa using ht)
  rw [h2, h1]
  have h3 : d.toList[t / k]? = some d[t / k]! := by
   rw [Array.getElem?_toList, getElem!_pos _ (t / k) hd]
   exact Array.getElem?_eq_getElem hd
  have h4 : (enc d[t / k]!)[t % k]? = some ((enc d[t / k]!)[t % k]!) := by
   rw [getElem!_pos _ (t % k) (by rw [hk]; exact hm)]
   exact zn0 (by rw [hk]; exact hm)
  have h5 := zeO hk h3 [] (t % k) _ h4
  rw [List.append_nil, Nat.mul_comm, Nat.div_add_mod] at h5
  rw [h5]
 . rw [znn (by rw [Array.length_toList, size_flatK]; omega), znn (by rw [hl]; omega)]
theorem zbP (hk : ∀ x, (enc x).length = k) (l : List α) (d : Array α) (sp : List Value) (hs : d.size = l.length) : putCells id 0 (flatK enc k d) (l.flatMap enc ++ sp).toArray = (d.toList.flatMap enc ++ sp).toArray := by
 have hl := yQ hk l
 have hl' : (d.toList.flatMap enc).length = d.size * k := by rw [yQ hk, Array.length_toList]
 have hsz := size_flatK enc k d
 apply Array.ext_getElem?
 intro j
 rw [<- zbe hk d]
 simp only [putCells, Array.getElem?_mapIdx, List.getElem?_toArray]
 by_cases hj : j < d.size * k
 ·
  rw [znp (by rw [hl, <- hs]; exact hj), znp (by simpa using hj)]
  rw [zn0 (by rw [hl, <- hs]; exact hj)]
  simp only [Option.map_some, znf, Nat.zero_add, hsz, hj, and_self, if_true, Nat.sub_zero, id]
  rw [Array.getElem?_toList, getElem!_pos _ j (by rw [hsz]; exact hj)]
  exact (Array.getElem?_eq_getElem (by rw [hsz]; exact hj)).symm
 ·
  rw [znq (by rw [hl, <- hs]; omega), znq (by simp; omega)]
  simp only [hl, <- hs, Array.length_toList, hsz, Nat.zero_add, hj, and_false, if_false, Option.map_id']
theorem zex (hk : ∀ x, (enc x).length = k) {w : World} {b : Nat} {l : List α} {sp : List Value} {e : TypeId} (hb : Blk w b (l.flatMap enc ++ sp) e) : HoldsK enc k w b 0 l.toArray := by
 intro j hj
 rw [size_flatK] at hj
 refine ⟨?_, hb.frozen⟩
 have h1 : (flatK enc k l.toArray).toList[j]? = some ((flatK enc k l.toArray)[j]!) := by
  rw [Array.getElem?_toList, getElem!_pos _ j (by simpa using hj)]
  exact Array.getElem?_eq_getElem (by simpa using hj)
 rw [zbe hk] at h1
 refine hb.cells j _ ?_
 rw [znp (zne.1 h1).1]
 exact h1
theorem kO (hk : ∀ x, (enc x).length = k) {w : World} {b : Nat} {l : List α} {sp : List Value} {e : TypeId} (hb : Blk w b (l.flatMap enc ++ sp) e) (d : Array α) (hs : d.size = l.length) (m : Nat) (os : Array Obj) :
  Blk (sortWorldK enc k w b 0 m d os) b (d.toList.flatMap enc ++ sp) e /\ Keep (fun q => q = b) w (sortWorldK enc k w b 0 m d os) := by
 have hblk := hb.lt
 have hsz : (putRow id (Sort.ahead w m) b 0 (flatK enc k d)).heap.size = w.heap.size := by simp [Sort.ahead]
 have hat : ∀ i, i < w.heap.size -> (sortWorldK enc k w b 0 m d os).heap[i]? = (putRow id (Sort.ahead w m) b 0 (flatK enc k d)).heap[i]? := by
  intro i hi
  show ((putRow id (Sort.ahead w m) b 0 (flatK enc k d)).heap ++ os)[i]? = _
  rw [Array.getElem?_append_left (by rw [hsz]; exact hi)]
 refine ⟨?_, rfl, rfl, rfl, Nat.le_add_right _ _, ?_, ?_⟩
 ·
  unfold Blk at *
  rw [hat b hblk]
  show (w.heap.modify b _)[b]? = _
  rw [Array.getElem?_modify, znb rfl, hb]
  simp only [Option.map_some, onCells]
  rw [zbP hk l d sp hs]
 ·
  show w.heap.size <= ((putRow id (Sort.ahead w m) b 0 (flatK enc k d)).heap ++ os).size
  rw [Array.size_append, hsz]; omega
 ·
  intro i hi hne
  rw [hat i hi]
  show (w.heap.modify b _)[i]? = _
  rw [Array.getElem?_modify, zna (fun h => hne h.symm)]
theorem zdr {l : List α} {d : Array α} (h : PermIn 0 l.toArray.size l.toArray d) : d.toList.Perm l := by
 obtain ⟨h1, _, h3⟩ := h
 have e1 : l.toArray.extract 0 l.toArray.size = l.toArray := by simp
 have e2 : d.extract 0 l.toArray.size = d := by rw [<- h1]; simp
 rw [e1, e2] at h3
 exact h3
theorem zbQ {lt : α -> α -> Bool} {d : Array α} {n : Nat} (hn : d.size = n) (h : SortedIn lt 0 n d) : d.toList.Pairwise (fun a b => lt b a = false) := by
 subst hn
 rw [List.pairwise_iff_getElem]
 intro i j hi hj hij
 have := h i j (znf _) hij (by simpa using hj)
 rw [getElem!_pos _ i (by simpa using hi), getElem!_pos _ j (by simpa using hj)] at this
 simpa using this
end
end Go.GL
namespace Go.Proofs
open Go.Shelf
def Tryz.laysSlF06_f67_ren : Go.Shelf.Ren := ⟨fun | 6 => 67 | 15 => 100 | 14 => 99 | 28 => 138 | 29 => 139 | 20 => 130 | 21 => 131 | 22 => 132 | 23 => 133 | 24 => 134 | 25 => 135 | 26 => 136 | 27 => 137 | 46 => 163 | 47 => 164 | 48 => 165 | 49 => 166 | 50 => 167 | 57 => 189 | n => n, fun | 22 => 76 | 24 => 60 | 25 => 92 | 3 => 3 | 39 => 157 | 0 => 0 | 53 => 202 | 55 => 204 | 4 => 4 | 46 => 196 | 45 => 195 | 50 => 29 | 5 => 5 | 9 => 9 | 66 => 226 | 70 => 230 | 76 => 247 | 77 => 209 | n => n, fun | n => n⟩
theorem Tryz.laysSlF06_f67 : Go.Proofs.SlLaysF0.n6 Tryz.prog Tryz.laysSlF06_f67_ren := {
 mixed := by kernel_rfl
 f6 := ⟨Tryz.f67.name, by decide, Tryz.func67.trans (congrArg some (by kernel_rfl))⟩
 f14 := ⟨Tryz.f99.name, by decide, Tryz.func99.trans (congrArg some (by kernel_rfl))⟩
 f15 := Tryz.func100.trans (congrArg some (by kernel_rfl))
 f20 := ⟨Tryz.f130.name, by decide, Tryz.func130.trans (congrArg some (by kernel_rfl))⟩
 f21 := ⟨Tryz.f131.name, by decide, Tryz.func131.trans (congrArg some (by kernel_rfl))⟩
 f22 := ⟨Tryz.f132.name, by decide, Tryz.func132.trans (congrArg some (by kernel_rfl))⟩
 f23 := ⟨Tryz.f133.name, by decide, Tryz.func133.trans (congrArg some (by kernel_rfl))⟩
 f24 := ⟨Tryz.f134.name, by decide, Tryz.func134.trans (congrArg some (by kernel_rfl))⟩
 f25 := ⟨Tryz.f135.name, by decide, Tryz.func135.trans (congrArg some (by kernel_rfl))⟩
 f26 := ⟨Tryz.f136.name, by decide, Tryz.func136.trans (congrArg some (by kernel_rfl))⟩
 f27 := ⟨Tryz.f137.name, by decide, Tryz.func137.trans (congrArg some (by kernel_rfl))⟩
 f28 := Tryz.func138.trans (congrArg some (by kernel_rfl))
 f29 := Tryz.func139.trans (congrArg some (by kernel_rfl))
 f46 := ⟨Tryz.f163.name, by decide, Tryz.func163.trans (congrArg some (by kernel_rfl))⟩
 f47 := Tryz.func164.trans (congrArg some (by kernel_rfl))
 f48 := Tryz.func165.trans (congrArg some (by kernel_rfl))
 f49 := ⟨Tryz.f166.name, by decide, Tryz.func166.trans (congrArg some (by kernel_rfl))⟩
 f50 := ⟨Tryz.f167.name, by decide, Tryz.func167.trans (congrArg some (by kernel_rfl))⟩
 f57 := ⟨Tryz.f189.name, by decide, Tryz.func189.trans (congrArg some (by kernel_rfl))⟩
 t0 := Tryz.underlying0
 a0 := Tryz.isAgg0
 z0 := Tryz.sizeOf0
 v0 := Tryz.zeroValue0
 t3 := tu3
 a3 := tg3
 z3 := ts3
 v3 := tz3
 t4 := tu4
 a4 := tg4
 z4 := ts4
 v4 := tz4
 t5 := Tryz.underlying5
 a5 := Tryz.isAgg5
 z5 := ts5
 v5 := Tryz.zeroValue5
 t9 := tu9
 a9 := tg9
 z9 := ts9
 v9 := Tryz.zeroValue9
 t22 := Tryz.underlying76
 a22 := Tryz.isAgg76
 z22 := Tryz.sizeOf76
 v22 := Tryz.zeroValue76
 t25 := Tryz.underlying92
 a25 := Tryz.isAgg92
 z25 := Tryz.sizeOf92
 v25 := Tryz.zeroValue92
 t39 := Tryz.underlying157
 a39 := Tryz.isAgg157
 z39 := Tryz.sizeOf157
 v39 := Tryz.zeroValue157
 t45 := Tryz.underlying195
 a45 := Tryz.isAgg195
 z45 := Tryz.sizeOf195
 v45 := Tryz.zeroValue195
 t46 := Tryz.underlying196
 a46 := Tryz.isAgg196
 z46 := Tryz.sizeOf196
 v46 := Tryz.zeroValue196
 t50 := Tryz.underlying29
 a50 := Tryz.isAgg29
 z50 := Tryz.sizeOf29
 v50 := Tryz.zeroValue29
 t53 := Tryz.underlying202
 a53 := Tryz.isAgg202
 z53 := Tryz.sizeOf202
 v53 := Tryz.zeroValue202
 t55 := Tryz.underlying204
 a55 := Tryz.isAgg204
 z55 := Tryz.sizeOf204
 v55 := Tryz.zeroValue204
 t66 := Tryz.underlying226
 a66 := Tryz.isAgg226
 z66 := Tryz.sizeOf226
 v66 := Tryz.zeroValue226
 t70 := Tryz.underlying230
 a70 := Tryz.isAgg230
 z70 := Tryz.sizeOf230
 v70 := Tryz.zeroValue230
 t76 := Tryz.underlying247
 a76 := Tryz.isAgg247
 z76 := Tryz.sizeOf247
 v76 := Tryz.zeroValue247
 t77 := Tryz.underlying209
 a77 := Tryz.isAgg209
 z77 := Tryz.sizeOf209
 v77 := Tryz.zeroValue209 }
open Go.RowKit Go.Lib Go.Sort in
theorem Tryz.slices_SortFunc {α : Type} [Inhabited α] (k : Nat) (aE : ∀ w, (isAgg 60).run Tryz.prog w = .ok true w) (zE : ∀ w, (Go.sizeOf 60).run Tryz.prog w = .ok k w) (enc : α -> List Value) (hk : ∀ x, (enc x).length = k) (h1 : ∀ x, ∀ v ∈ enc x, v.oneCell' = true) (cf : α -> α -> Int) (hO : SWO (ltOf cf)) (g : Nat) (cb : Array Value) (blk off cap : Nat) (d : Array α) (w : World) (eg : ∀ args w, (callFunc g args).run Tryz.prog w = .ok (.enter g args) w) (hcmp : CmpLays Tryz.prog g cb enc k cf blk off d.size w) (hH : HoldsK enc k w blk off d) (hblk : blk < w.heap.size) (hsz : d.size < 4611686018427387904) :
  Calls Tryz.prog 67 #[.slice (some ⟨blk, off, none⟩) d.size cap, .func (.func g) #[] cb] w fun e w' =>
   e = .returned (.tuple #[]) /\ ∃ d' n os, PermIn 0 d.size d d' /\ SortedIn (ltOf cf) 0 d.size d' /\ w' = sortWorldK enc k w blk off n d' os := AnyQ.slices_SortFunc Tryz.laysSlF06_f67 k aE zE enc hk h1 cf hO g cb blk off cap d w eg hcmp hH hblk hsz
open Go.RowKit Go.Lib Go.Sort in
theorem Tryz.slices_SortFunc_none {α : Type} [Inhabited α] (p : Option Addr) (cap : Nat) (fv : Value) (w : World) :
  Calls Tryz.prog 67 #[.slice p 0 cap, fv] w fun e w' => e = .returned (.tuple #[]) /\ w' = w := AnyF.slices_SortFunc_none Tryz.laysSlF06_f67 p cap fv w
end Go.Proofs
namespace Go.Proofs.YtbkhagigkglgoaaGreatDoor
open Go.GL
abbrev ObC (F : Nat -> Prop) (w : World) := { x : Ob × Value // SlR 1 zz F w x.2 x.1.1 }
abbrev zfF {F : Nat -> Prop} {w : World} (x : ObC F w) : List Value := [x.1.2, .int .i64 x.1.1.2]
theorem ze8 {F : Nat -> Prop} {w : World} : ∀ (l : List Ob) (xs : List Value), xs.length = l.length * 2 -> (∀ (i : Nat) x, l[i]? = some x -> ROb F w x ((xs.drop (i * 2)).take 2)) -> ∃ es : List (ObC F w), es.map (fun e => e.1.1) = l /\ es.flatMap zfF = xs
 | [], [], _, _ => ⟨[], rfl, rfl⟩
 | [], _ :: _, h, _ => by simp at h
 | x :: l, [], h, _ => by simp at h
 | x :: l, [_], h, _ => by simp at h; omega
 | x :: l, a :: b :: xs, h, hR => by
  obtain ⟨v, h1, h2⟩ := hR 0 x rfl
  simp only [Nat.zero_mul, List.drop_zero, List.take_succ_cons, List.take_zero, List.cons.injEq, and_true] at h1
  obtain ⟨rfl, rfl⟩ := h1
  obtain ⟨es, h3, h4⟩ := ze8 l xs (by simp at h; omega) (fun i y hy => by
   have := hR (i + 1) y (by simpa using hy)
   rw [Nat.succ_mul] at this
   simpa using this)
  exact ⟨⟨(x, a), h2⟩ :: es, by simp [h3], by simp [h4]⟩
theorem zfG {F : Nat -> Prop} {w w' : World} (hk : ∀ (v : Value) (x : List Int), SlR 1 zz F w v x -> SlR 1 zz F w' v x) : ∀ (es : List (ObC F w)) (i : Nat) (x : Ob), (es.map (fun e => e.1.1))[i]? = some x -> ROb F w' x (((es.flatMap zfF).drop (i * 2)).take 2)
 | [], i, x, h => by simp at h
 | e :: es, 0, x, h => by
  simp only [List.map_cons, List.getElem?_cons_zero, Option.some.injEq] at h
  subst h
  exact ⟨e.1.2, by simp, hk _ _ e.2⟩
 | e :: es, i + 1, x, h => by
  simp only [List.map_cons, List.getElem?_cons_succ] at h
  have := zfG hk es i x h
  rw [Nat.succ_mul]
  simpa using this
theorem zgM (f : FuncId) (hf : ∀ args w, (callFunc f args).run Tryz.prog w = .ok (.enter f args) w)
  (hcf : ∀ (x y : Ob) (u v : Value) (D D' : Nat -> Prop) (W : World), SlR 1 zz D W u x.1 -> SlR 1 zz D' W v y.1 -> Calls Tryz.prog f #[.agg #[u, .int .i64 x.2], .agg #[v, .int .i64 y.2]] W (Ret fun r w' => r = .int .i64 (yD x y) /\ Ext W w'))
  (l : List Ob) (hlen : l.length <= 1048576) (v : Value) (F : Nat -> Prop) (w : World) (hown : OwH 60 2 ROb F w v l) :
  Calls Tryz.prog 67 #[v, .func (.func f) #[] #[]] w (Ret fun u w' => u = .tuple #[] /\ ∃ l' : List Ob, l'.Perm l /\ l'.Pairwise (fun a b => ¬ yD b a < 0) /\ OwH 60 2 ROb F w' v l' /\ Keep (fun q => v.ownBlock = some q) w w') := by
 by_cases h0 : l = []
 ·
  subst h0
  obtain ⟨ao, c, rfl, _⟩ := hown.form
  haveI : Inhabited Nat := ⟨0⟩
  refine (Tryz.slices_SortFunc_none (α := Nat) ao c (.func (.func f) #[] #[]) w).mono ?_
  rintro e w' ⟨rfl, rfl⟩
  exact ⟨_, rfl, rfl, [], List.Perm.refl _, List.Pairwise.nil, hown, Keep.refl _ _⟩
 obtain ⟨⟨xs, hx1, hx2⟩, hF⟩ := hown
 obtain ⟨es, he1, he2⟩ := ze8 l xs hx1.1 hx2
 subst he2
 have hel : es.length = l.length := by rw [<- he1, znk]
 have hes : es ≠ [] := fun h => h0 (by rw [<- he1, h]; rfl)
 obtain ⟨g, cap, sp, rfl, _, hnc, hcm, hB, hcl⟩ := zgg (enc := zfF) (c := 2) (fun _ => rfl) (by omega) hx1 hes
 haveI : Inhabited (ObC F w) := ⟨es.head hes⟩
 have hFg : ∀ q, F q -> q ≠ g := fun q hq e => (hF q hq).2 (by rw [e]; rfl)
 have hlt' : ∀ x y : ObC F w, Go.Proofs.ltOf (fun x y : ObC F w => yD x.1.1 y.1.1) x y = true ↔ yD x.1.1 y.1.1 < 0 := by
  intro x y
  unfold Go.Proofs.ltOf
  rw [decide_eq_true_eq]
 have hlf : ∀ x y : ObC F w, Go.Proofs.ltOf (fun x y : ObC F w => yD x.1.1 y.1.1) x y = false ↔ ¬ yD x.1.1 y.1.1 < 0 := by
  intro x y
  rw [<- hlt', Bool.not_eq_true]
 have hswo : Go.Sort.SWO (Go.Proofs.ltOf fun x y : ObC F w => yD x.1.1 y.1.1) := by
  refine ⟨?_, ?_, ?_⟩
  . intro x; rw [hlf, kn]; omega
  . intro x y z; rw [hlt', hlt', hlt']; exact jm
  ·
   intro x y z; rw [hlf, hlf, hlf]
   intro h1 h2 h3
   have a1 := xv x.1.1 y.1.1
   have a2 := xv y.1.1 z.1.1
   have a3 := xv x.1.1 z.1.1
   rcases Int.lt_or_le (yD y.1.1 x.1.1) 0 with b | b
   . have := jm b h3; omega
   ·
    have e : x.1.1 = y.1.1 := jM (by omega)
    rw [e] at h3; exact h2 h3
 have hst : ∀ (d : Array (ObC F w)) (m : Nat) (os : Array Obj), d.size = es.length -> ∀ (v : Value) (x : List Int), SlR 1 zz F w v x -> SlR 1 zz F (sortWorldK zfF 2 w g 0 m d os) v x := fun d m os hd v x hs =>
  hs.keep zb (kO (enc := zfF) (k := 2) (fun _ => rfl) hB d hd m os).2 (fun q hq _ => hFg q hq)
 have hcon := Tryz.slices_SortFunc (α := ObC F w) 2 tg60 ts60 zfF (fun _ => rfl) (fun x v hv => zhi F x.1.1 (zfF x) ⟨x.1.2, rfl, x.2⟩ v hv) (fun x y => yD x.1.1 y.1.1) hswo f #[] g 0 cap es.toArray w hf
  (fun m os dk hd x y => by
   have hd' : dk.size = es.length := by simpa using hd
   refine (hcf x.1.1 y.1.1 _ _ F F _ (hst dk m os hd' _ _ x.2) (hst dk m os hd' _ _ y.2)).mono ?_
   rintro e w' ⟨v, rfl, rfl, hk⟩
   exact ⟨rfl, zgL hk⟩)
  (zex (enc := zfF) (k := 2) (fun _ => rfl) hB) hB.lt (by simp only [List.size_toArray]; omega)
 rw [show es.toArray.size = l.length from by simpa using hel] at hcon
 refine hcon.mono ?_
 rintro e w' ⟨rfl, d', q, os, hp, hs, rfl⟩
 have hds : d'.size = es.length := by have := hp.1; simpa using this
 have hw := kO (enc := zfF) (k := 2) (fun _ => rfl) hB d' hds q os
 have hperm : d'.toList.Perm es := zdr (by rw [show es.toArray.size = l.length from by simpa using hel]; exact hp)
 have hdl : d'.toList.length = l.length := by rw [hperm.length_eq, hel]
 refine ⟨_, rfl, rfl, d'.toList.map (fun e => e.1.1), ?_, ?_, ⟨⟨d'.toList.flatMap zfF, ?_, ?_⟩, fun q hq => ⟨Nat.lt_of_lt_of_le (hF q hq).1 hw.2.size, (hF q hq).2⟩⟩, hw.2.mono (fun q _ h => by rw [h]; rfl)⟩
 ·
  have := hperm.map (fun e => e.1.1)
  rwa [he1] at this
 ·
  rw [List.pairwise_map]
  refine (zbQ (by rw [hds, hel]) hs).imp ?_
  intro a b h
  exact (hlf _ _).1 h
 ·
  have h4 := zgh (enc := zfF) (c := 2) (cap := cap) (fun _ => rfl) hw.1 (by rw [<- hcl, zn8, zn8, yQ (c := 2) (fun _ => rfl), yQ (c := 2) (fun _ => rfl), hperm.length_eq]) (k := l.length) (by omega) hnc hcm
  rw [List.take_of_length_le (by omega)] at h4
  rw [znk, hdl]
  exact h4
 . exact zfG (hst d' q os hds) d'.toList
def zeK {α : Type} (p : α -> Bool) (l : List α) : Int := if l.any p then (l.findIdx p : Nat) else -1
theorem zbR {α : Type} {p : α -> Bool} {l : List α} {i : Nat} {x : α} (h : (l.take i).any p = false) (hx : l[i]? = some x) (hp : p x = true) : zeK p l = i := by
 have hl := (zne.1 hx).1
 have hm := zn1 hx
 unfold zeK
 rw [znb (List.any_eq_true.2 ⟨x, hm, hp⟩)]
 have h1 : l.findIdx p = i := by
  rw [List.findIdx_eq hl]
  refine ⟨by rw [(zne.1 hx).2]; exact hp, fun j hj => ?_⟩
  have h2 := List.any_eq_false.1 h (l[j]'(by omega)) (zn1 (i := j) (by rw [znv, znb hj]; exact zn0 _))
  simpa using h2
 rw [h1]
theorem jQ {α : Type} {p : α -> Bool} {l : List α} (h : l.any p = false) : zeK p l = -1 := by unfold zeK; rw [h]; rfl
theorem zbS {α : Type} {p : α -> Bool} {l : List α} : 0 <= zeK p l ↔ l.any p = true := by
 unfold zeK
 split
 . rename_i h; exact ⟨fun _ => h, fun _ => by omega⟩
 . rename_i h; exact ⟨fun h => by omega, fun h' => absurd h' h⟩
theorem za1 {α : Type} {p : α -> Bool} {l : List α} {k : Nat} {x : α} (hx : l[k]? = some x) (h : (l.take k).any p = false) (hp : p x = false) : (l.take (k + 1)).any p = false := by rw [zg hx, List.any_append, h]; simp [hp]
theorem zgN (p : (List Int × Int) -> Bool) (l : List (List Int × Int)) (v : Value) (D : Nat -> Prop) (g : FuncId) (cp : Value) (W : World) (hf : ∀ args w, (callFunc g args).run Tryz.prog w = .ok (.enter g args) w) (hl : SlR 2 ROb D W v l)
  (hc : ∀ (x : (List Int × Int)) (u : Value) (w : World), Ext W w -> x ∈ l -> SlR 1 zz D w u x.1 -> Calls Tryz.prog g #[.agg #[u, .int .i64 x.2], cp] w (Ret fun r w' => r = .bool (p x) /\ Ext w w')) :
  Calls Tryz.prog 50 #[v, .func (.func g) #[] #[cp]] W (Ret fun r w' => r = .int .i64 (zeK p l) /\ Ext W w') := by
 obtain ⟨av, cv, rfl⟩ := hl.form
 have hmx := hl.max
 refine zlr Tryz.func50 O Tryz.ntmps50 O (zlC ?_)
 refine Vs 14 O ?_
 refine zm5 (σ := Nat) [0, 1, 7] [] [] O (fun e i => (8, .int .i64 i) :: e) (fun e i => e) (fun i => i <= l.length /\ (l.take i).any p = false) (fun i => l.length - i) (0) (zkZ O) (zl0 O) (fun _ => rfl) (fun _ => rfl) (fun _ => rfl) (⟨znf _, by simp⟩) ?_
 rintro i ⟨hi, hno⟩
 refine Vs 6 O ?_
 refine zjo O (fun hlt => ?_) (fun hlt => ?_)
 ·
  refine Vs 15 O ?_
  obtain ⟨x, he_x, hm_x⟩ := gE_ l (i) (by omega)
  obtain ⟨b_x, o_x, c_x, ha_x, _, hc_x, hR_x⟩ := hl.at he_x
  obtain ⟨v1_x, rfl, hs_x⟩ := hR_x
  obtain ⟨a1_x, n1_x, rfl⟩ := hs_x.form
  refine zm1 1000 0 O O hc_x ?_
  refine zlK 1000 tR76 ts60 O ha_x (by omega) (_) (rfl) O ?_
  refine Vs 1 O ?_
  refine zml hf O (fun w hI => hc x _ w hI.k0 hm_x (Tr1 hI.k0 hs_x)) ?_
  refine Vs 2 O ?_
  refine V.bool O (fun hp => ?_) (fun hp => ?_)
  ·
   refine Vs 12 O ?_
   refine zjI Tryz.results50 O (fun w hI => ⟨_, rfl, by rw [zbR hno he_x hp], hI.k0⟩)
  ·
   refine Va 7 O (by omega) ?_
   refine zjz (i + 1) (zkZ O) (zl0 O) (⟨by omega, za1 he_x hno hp⟩) (by first | omega | (dsimp only; omega)) 0 O O
 ·
  obtain rfl : i = l.length := by omega
  rw [zn5] at hno
  refine Vs 11 O ?_
  refine zjI Tryz.results50 O (fun w hI => ⟨_, rfl, by rw [jQ hno], hI.k0⟩)
theorem zgO (p : (Int × List Int) -> Bool) (l : List (Int × List Int)) (v : Value) (D : Nat -> Prop) (g : FuncId) (cp : Value) (W : World) (hf : ∀ args w, (callFunc g args).run Tryz.prog w = .ok (.enter g args) w) (hl : SlR 2 RQu D W v l)
  (hc : ∀ (x : (Int × List Int)) (u : Value) (w : World), Ext W w -> x ∈ l -> SlR 1 zz D w u x.2 -> Calls Tryz.prog g #[.agg #[.int .i64 x.1, u], cp] w (Ret fun r w' => r = .bool (p x) /\ Ext w w')) :
  Calls Tryz.prog 116 #[v, .func (.func g) #[] #[cp]] W (Ret fun r w' => r = .int .i64 (zeK p l) /\ Ext W w') := by
 obtain ⟨av, cv, rfl⟩ := hl.form
 have hmx := hl.max
 refine zlr Tryz.func116 O Tryz.ntmps116 O (zlC ?_)
 refine Vs 14 O ?_
 refine zm5 (σ := Nat) [0, 1, 7] [] [] O (fun e i => (8, .int .i64 i) :: e) (fun e i => e) (fun i => i <= l.length /\ (l.take i).any p = false) (fun i => l.length - i) (0) (zkZ O) (zl0 O) (fun _ => rfl) (fun _ => rfl) (fun _ => rfl) (⟨znf _, by simp⟩) ?_
 rintro i ⟨hi, hno⟩
 refine Vs 6 O ?_
 refine zjo O (fun hlt => ?_) (fun hlt => ?_)
 ·
  refine Vs 15 O ?_
  obtain ⟨x, he_x, hm_x⟩ := gE_ l (i) (by omega)
  obtain ⟨b_x, o_x, c_x, ha_x, _, hc_x, hR_x⟩ := hl.at he_x
  obtain ⟨v1_x, rfl, hs_x⟩ := hR_x
  obtain ⟨a1_x, n1_x, rfl⟩ := hs_x.form
  refine zm1 1000 0 O O hc_x ?_
  refine zlK 1000 tR24 ts33 O ha_x (by omega) (_) (rfl) O ?_
  refine Vs 1 O ?_
  refine zml hf O (fun w hI => hc x _ w hI.k0 hm_x (Tr1 hI.k0 hs_x)) ?_
  refine Vs 2 O ?_
  refine V.bool O (fun hp => ?_) (fun hp => ?_)
  ·
   refine Vs 12 O ?_
   refine zjI Tryz.results116 O (fun w hI => ⟨_, rfl, by rw [zbR hno he_x hp], hI.k0⟩)
  ·
   refine Va 7 O (by omega) ?_
   refine zjz (i + 1) (zkZ O) (zl0 O) (⟨by omega, za1 he_x hno hp⟩) (by first | omega | (dsimp only; omega)) 0 O O
 ·
  obtain rfl : i = l.length := by omega
  rw [zn5] at hno
  refine Vs 11 O ?_
  refine zjI Tryz.results116 O (fun w hI => ⟨_, rfl, by rw [jQ hno], hI.k0⟩)
theorem zgP (p : (Int × List Int) -> Bool) (l : List (Int × List Int)) (v : Value) (D : Nat -> Prop) (g : FuncId) (cp : Value) (W : World) (hf : ∀ args w, (callFunc g args).run Tryz.prog w = .ok (.enter g args) w) (hl : SlR 2 RQu D W v l)
  (hc : ∀ (x : (Int × List Int)) (u : Value) (w : World), Ext W w -> x ∈ l -> SlR 1 zz D w u x.2 -> Calls Tryz.prog g #[.agg #[.int .i64 x.1, u], cp] w (Ret fun r w' => r = .bool (p x) /\ Ext w w')) :
  Calls Tryz.prog 84 #[v, .func (.func g) #[] #[cp]] W (Ret fun r w' => r = .bool (l.any p) /\ Ext W w') := by
 refine zlr Tryz.func84 O Tryz.ntmps84 O (zlC ?_)
 refine Vs 9 O ?_
 refine zlT Tryz.call116 O (fun w hI => zgO p l v D g cp w hf (Tr1 hI.k0 hl) (fun x u w' hE hx hd => hc x u w' ((hI.k0).trans hE (fun _ _ h => h)) hx hd)) ?_
 refine Vs 5 O ?_
 refine zjI Tryz.results84 O (fun w hI => ⟨_, rfl, by congr 1; rw [Bool.eq_iff_iff, decide_eq_true_iff]; exact zbS, hI.k0⟩)
theorem zgQ (p : Int -> Bool) (l : List Int) (v : Value) (D : Nat -> Prop) (g : FuncId) (cp : Value) (W : World) (hf : ∀ args w, (callFunc g args).run Tryz.prog w = .ok (.enter g args) w) (hl : SlR 1 zz D W v l)
  (hc : ∀ (x : Int) (w : World), Ext W w -> x ∈ l -> True -> Calls Tryz.prog g #[.int .i64 x, cp] w (Ret fun r w' => r = .bool (p x) /\ Ext w w')) :
  Calls Tryz.prog 129 #[v, .func (.func g) #[] #[cp]] W (Ret fun r w' => r = .int .i64 (zeK p l) /\ Ext W w') := by
 obtain ⟨av, cv, rfl⟩ := hl.form
 have hmx := hl.max
 refine zlr Tryz.func129 O Tryz.ntmps129 O (zlC ?_)
 refine Vs 14 O ?_
 refine zm5 (σ := Nat) [0, 1, 7] [] [] O (fun e i => (8, .int .i64 i) :: e) (fun e i => e) (fun i => i <= l.length /\ (l.take i).any p = false) (fun i => l.length - i) (0) (zkZ O) (zl0 O) (fun _ => rfl) (fun _ => rfl) (fun _ => rfl) (⟨znf _, by simp⟩) ?_
 rintro i ⟨hi, hno⟩
 refine Vs 6 O ?_
 refine zjo O (fun hlt => ?_) (fun hlt => ?_)
 ·
  refine Vs 15 O ?_
  obtain ⟨x, he_x, hm_x⟩ := gE_ l (i) (by omega)
  obtain ⟨b_x, o_x, c_x, ha_x, _, hc_x, hR_x⟩ := hl.at he_x
  obtain rfl := hR_x
  refine zm1 1000 0 O O hc_x ?_
  refine zlK 1000 tR31 ts3 O ha_x (by omega) (_) (rfl) O ?_
  refine Vs 1 O ?_
  refine zml hf O (fun w hI => hc x w hI.k0 hm_x (trivial)) ?_
  refine Vs 2 O ?_
  refine V.bool O (fun hp => ?_) (fun hp => ?_)
  ·
   refine Vs 12 O ?_
   refine zjI Tryz.results129 O (fun w hI => ⟨_, rfl, by rw [zbR hno he_x hp], hI.k0⟩)
  ·
   refine Va 7 O (by omega) ?_
   refine zjz (i + 1) (zkZ O) (zl0 O) (⟨by omega, za1 he_x hno hp⟩) (by first | omega | (dsimp only; omega)) 0 O O
 ·
  obtain rfl : i = l.length := by omega
  rw [zn5] at hno
  refine Vs 11 O ?_
  refine zjI Tryz.results129 O (fun w hI => ⟨_, rfl, by rw [jQ hno], hI.k0⟩)
theorem zgR (p : Int -> Bool) (l : List Int) (v : Value) (D : Nat -> Prop) (g : FuncId) (cp : Value) (W : World) (hf : ∀ args w, (callFunc g args).run Tryz.prog w = .ok (.enter g args) w) (hl : SlR 1 zz D W v l)
  (hc : ∀ (x : Int) (w : World), Ext W w -> x ∈ l -> True -> Calls Tryz.prog g #[.int .i64 x, cp] w (Ret fun r w' => r = .bool (p x) /\ Ext w w')) :
  Calls Tryz.prog 97 #[v, .func (.func g) #[] #[cp]] W (Ret fun r w' => r = .bool (l.any p) /\ Ext W w') := by
 refine zlr Tryz.func97 O Tryz.ntmps97 O (zlC ?_)
 refine Vs 9 O ?_
 refine zlT Tryz.call129 O (fun w hI => zgQ p l v D g cp w hf (Tr1 hI.k0 hl) (fun x  w' hE hx hd => hc x  w' ((hI.k0).trans hE (fun _ _ h => h)) hx hd)) ?_
 refine Vs 5 O ?_
 refine zjI Tryz.results97 O (fun w hI => ⟨_, rfl, by congr 1; rw [Bool.eq_iff_iff, decide_eq_true_iff]; exact zbS, hI.k0⟩)
theorem zgS (l m : List (Int × List Int)) (v v2 : Value) (D D2 : Nat -> Prop) (g : FuncId) (W : World) (hf : ∀ args w, (callFunc g args).run Tryz.prog w = .ok (.enter g args) w) (hl : SlR 2 RQu D W v l) (hm : SlR 2 RQu D2 W v2 m)
  (hc : ∀ (x y : (Int × List Int)) (u u2 : Value) (w : World), SlR 1 zz D w u x.2 -> SlR 1 zz D2 w u2 y.2 -> Calls Tryz.prog g #[.agg #[.int .i64 x.1, u], .agg #[.int .i64 y.1, u2]] w (Ret fun r w' => r = .bool (decide (x = y)) /\ Ext w w')) :
  Calls Tryz.prog 57 #[v, v2, .func (.func g) #[] #[]] W (Ret fun r w' => r = .bool (decide (l = m)) /\ Ext W w') := by
 obtain ⟨av, cv, rfl⟩ := hl.form
 obtain ⟨am, cm, rfl⟩ := hm.form
 have hmx := hl.max
 have hmm := hm.max
 refine zls Tryz.func57 O Tryz.ntmps57 O (zlC ?_)
 refine Vs 15 O ?_
 refine zjo O (fun e0 => ?_) (fun e0 => ?_)
 ·
  refine Vs 7 O ?_
  refine zjI Tryz.results57 O (fun w hI => ⟨_, rfl, by rw [znd (fun e => by rw [e] at e0; exact e0 O)], hI.k0⟩)
 ·
  have hel : l.length = m.length := by omega
  refine Vs 11 O ?_
  refine zm5 (σ := Nat) [1, 2, 15, 16] [] [] O (fun e i => (17, .int .i64 i) :: e) (fun e i => e) (fun i => i <= l.length /\ l.take i = m.take i) (fun i => l.length - i) (0) (zkZ O) (zl0 O) (fun _ => rfl) (fun _ => rfl) (fun _ => rfl) (⟨znf _, rfl⟩) ?_
  rintro i ⟨hi, he⟩
  refine Vs 6 O ?_
  refine zjo O (fun hlt => ?_) (fun hlt => ?_)
  ·
   refine Vs 7 O ?_
   obtain ⟨x, he_x, hm_x⟩ := gE_ l (i) (by omega)
   obtain ⟨b_x, o_x, c_x, ha_x, _, hc_x, hR_x⟩ := hl.at he_x
   obtain ⟨v1_x, rfl, hs_x⟩ := hR_x
   obtain ⟨a1_x, n1_x, rfl⟩ := hs_x.form
   refine zm1 1000 0 O O hc_x ?_
   refine zlK 1000 tR24 ts33 O ha_x (by omega) (_) (rfl) O ?_
   refine Vs 1 O ?_
   refine V.alloc 8 tz33 O O (fun b8 => ?_)
   refine Vs 8 O ?_
   obtain ⟨y, he_y, hm_y⟩ := gE_ m (i) (by omega)
   obtain ⟨b_y, o_y, c_y, ha_y, _, hc_y, hR_y⟩ := hm.at he_y
   obtain ⟨v1_y, rfl, hs_y⟩ := hR_y
   obtain ⟨a1_y, n1_y, rfl⟩ := hs_y.form
   refine zm1 2000 0 O O hc_y ?_
   refine zlK 2000 tR24 ts33 O ha_y (by omega) (_) (rfl) O ?_
   refine Vs 1 O ?_
   refine V.alloc 9 tz33 O O (fun b9 => ?_)
   refine Vs 8 O ?_
   refine zml hf O (fun w hI => hc x y _ _ w (Tr1 hI.k0 hs_x) (Tr1 hI.k0 hs_y)) ?_
   refine zlh O (fun w hI => zkJ O (by first | exact za | rfl)) ?_
   refine Vs 2 O ?_
   refine zjo O (fun n0 => ?_) (fun n0 => ?_)
   ·
    refine Vs 11 O ?_
    refine zjI Tryz.results57 O (fun w hI => ⟨_, rfl, by rw [znd (fun e => n0 (by rw [e, he_y] at he_x; exact (Option.some.inj he_x).symm))], hI.k0⟩)
   ·
    refine Va 7 O (by omega) ?_
    refine zjz (i + 1) (zkZ O) (zl0 O) (⟨by omega, by rw [zg he_x, zg he_y, he, zn9.1 n0]⟩) (by first | omega | (dsimp only; omega)) 0 O O
  ·
   obtain rfl : i = l.length := by omega
   rw [zn5, hel, zn5] at he
   refine Vs 11 O ?_
   refine zjI Tryz.results57 O (fun w hI => ⟨_, rfl, by rw [znc he], hI.k0⟩)
end Go.Proofs.YtbkhagigkglgoaaGreatDoor
namespace Go.GL
open Go.RowKit Go.ChangeMaps
section
variable {κ : Type} [DecidableEq κ]
def lkg : List (κ × Value) -> κ -> Option (Nat × Value)
 | [], _ => none
 | (a, v) :: r, k => if k = a then some (0, v) else (lkg r k).map fun p => (p.1 + 1, p.2)
def ze9 : List (κ × Value) -> κ -> Option Value
 | [], _ => none
 | (a, v) :: r, k => if k = a then some v else ze9 r k
def zeL : List (κ × Value) -> κ -> Value -> List (κ × Value)
 | [], k, v => [(k, v)]
 | (a, u) :: r, k, v => if k = a then (k, v) :: r else (a, u) :: zeL r k v
theorem zfH (l : List (κ × Value)) (k k' : κ) (v : Value) : ze9 (zeL l k v) k' = if k' = k then some v else ze9 l k' := by
 induction l with
 | nil => simp [zeL, ze9]
 | cons x r ih =>
  obtain ⟨a, u⟩ := x
  simp only [zeL]
  by_cases h : k = a
  ·
   subst h
   rw [znb rfl]
   simp only [ze9]
   split <;> rfl
  ·
   rw [zna h]
   simp only [ze9, ih]
   by_cases h1 : k' = a
   ·
    subst h1
    rw [znb rfl, zna (fun e => h e.symm), znb rfl]
   . rw [zna h1, zna h1]
theorem zhU (l : List (κ × Value)) (k : κ) : ze9 l k = (lkg l k).map (·.2) := by
 induction l with
 | nil => rfl
 | cons x r ih =>
  obtain ⟨a, u⟩ := x
  simp only [ze9, lkg]
  split
  . rfl
  . rw [ih, Option.map_map]; rfl
theorem zgT {l : List (κ × Value)} {k : κ} {p : Nat × Value} (v : Value) (h : lkg l k = some p) : l[p.1]? = some (k, p.2) /\ l.set p.1 (k, v) = zeL l k v := by
 induction l generalizing p with
 | nil => simp [lkg] at h
 | cons x r ih =>
  obtain ⟨a, u⟩ := x
  simp only [lkg] at h
  simp only [zeL]
  split at h
  . rename_i h1; cases h; rw [znb h1, h1]; exact ⟨rfl, rfl⟩
  ·
   rename_i h1
   obtain ⟨q, h2, rfl⟩ := Option.map_eq_some_iff.1 h
   obtain ⟨h3, h4⟩ := ih h2
   rw [zna h1]
   exact ⟨by simpa using h3, by simpa using h4⟩
theorem zgU {l : List (κ × Value)} {k : κ} (v : Value) (h : lkg l k = none) : l ++ [(k, v)] = zeL l k v := by
 induction l with
 | nil => rfl
 | cons x r ih =>
  obtain ⟨a, u⟩ := x
  simp only [lkg] at h
  simp only [zeL]
  split at h
  . cases h
  ·
   rename_i h1
   rw [zna h1, List.cons_append, ih (by simpa using h)]
structure KeyOk (P : Program) (kt : TypeId) (ke : κ -> Value) : Prop where
 check : ∀ k b w, (Instr.checkKey b 10000 kt (ke k)).run P w = .ok () w
 find : ∀ k (es : List MapEntry) (l : List (κ × Value)) w, es.map (fun e => (e.key, e.val)) = l.map (fun p => (ke p.1, p.2)) -> (Instr.findKey kt (ke k) es).run P w = .ok (lkg l k) w
 stays : ∀ k, Instr.sameBits 10000 (ke k) (ke k) = true
def MapG (ke : κ -> Value) (w : World) (m : Nat) (l : List (κ × Value)) : Prop :=
 ∃ (es : Array MapEntry) (clock : Nat), w.heap[m]? = some (.map es clock) /\ es.toList.map (fun e => (e.key, e.val)) = l.map (fun p => (ke p.1, p.2))
variable {ke : κ -> Value}
omit [DecidableEq κ] in
theorem MapG.keep {w w' : World} {S : Nat -> Prop} {m : Nat} {l : List (κ × Value)} (h : MapG ke w m l) (hk : Keep S w w') (hS : ¬ S m) : MapG ke w' m l := by
 obtain ⟨es, c, h1, r⟩ := h
 exact ⟨es, c, by rw [hk.block m (Array.getElem?_eq_some_iff.1 h1).1 hS]; exact h1, r⟩
omit [DecidableEq κ] in
theorem MapG.ext {w w' : World} {m : Nat} {l : List (κ × Value)} (h : MapG ke w m l) (hk : Ext w w') : MapG ke w' m l := h.keep hk (fun h => h)
omit [DecidableEq κ] in
theorem MapG.lt {w : World} {m : Nat} {l : List (κ × Value)} (h : MapG ke w m l) : m < w.heap.size := by
 obtain ⟨es, c, h1, r⟩ := h
 exact (Array.getElem?_eq_some_iff.1 h1).1
theorem zea {d : TypeDesc} (hd : ∀ a b : κ, Instr.sameNow d (ke a) (ke b) = some (decide (a = b))) (k : κ) : ∀ (es : List MapEntry) (l : List (κ × Value)) (i : Nat), es.map (fun e => (e.key, e.val)) = l.map (fun p => (ke p.1, p.2)) -> Instr.findNow d (ke k) es i = some ((lkg l k).map fun p => (i + p.1, p.2))
 | [], [], i, _ => rfl
 | [], _ :: _, i, h => by simp at h
 | _ :: _, [], i, h => by simp at h
 | e :: es, (a, v) :: l, i, h => by
  simp only [List.map_cons, List.cons.injEq, Prod.mk.injEq] at h
  rw [Instr.findNow, h.1.1, lkg, hd]
  by_cases hk : k = a
  . simp [hk, h.1.2]
  ·
   simp only [hk, decide_false, if_false]
   rw [zea hd k es l (i + 1) h.2]
   cases lkg l k <;> simp <;> omega
theorem zmQ {P : Program} {kt : TypeId} {d : TypeDesc} (hk : P.underlying kt = some d) (hd : ∀ a b : κ, Instr.sameNow d (ke a) (ke b) = some (decide (a = b))) (h2 : ∀ k, MapKept.IsKey d (ke k)) (h3 : ∀ k, Instr.sameBits 10000 (ke k) (ke k) = true) : KeyOk P kt ke where
 check := fun k b w => MapKept.run_checkKey hk (h2 k) b 9999
 find := fun k es l w h => by
  have := zea hd k es l 0 h
  rw [MapKept.run_findKey (P := P) (w := w) hk this]
  cases lkg l k <;> simp
 stays := h3
theorem KeyOk.str {P : Program} {kt : TypeId} (hk : P.underlying kt = some .string) : KeyOk P kt (Value.string) :=
 zmQ hk (fun a b => by
  show some (a == b) = _
  congr 1
  rw [Bool.eq_iff_iff, MapKept.bytes_beq, decide_eq_true_iff]) (fun _ => trivial) (fun k => by
  show (k == k) = true
  rw [MapKept.bytes_beq])
theorem KeyOk.int {P : Program} {kt : TypeId} (hk : P.underlying kt = some (.int .i64)) : KeyOk P kt (Value.int .i64) :=
 zmQ hk (fun a b => by
  simp only [Instr.sameNow, if_true]
  rfl) (fun _ => rfl) (fun k => by simp [Instr.sameBits])
section
variable {P : Program} {w : World} {m : Nat} {l : List (κ × Value)} {t kt et : TypeId}
theorem zds (hK : KeyOk P kt ke) (h : MapG ke w m l) (ht : P.underlying t = some (.map kt et)) {z : Value} (hz : ∀ w, (zeroValue et).run P w = .ok z w) (k : κ) (ok : Bool) : (Instr.lookup t (.map (some m)) (ke k) ok).run P w = .ok (if ok then .tuple #[(ze9 l k).getD z, .bool (ze9 l k).isSome] else (ze9 l k).getD z) w := by
 obtain ⟨es, c, h1, h2⟩ := h
 have h5 := hK.find k _ _ w h2
 have h7 := zhU l k
 cases h6 : lkg l k with
 | none => rw [h6] at h5 h7; cases ok <;> simp [Instr.lookup, run_underlying ht, MapKept.run_getObj_map h1, hK.check, h5, hz, Result.andThen, h7]
 | some p => rw [h6] at h5 h7; cases ok <;> simp [Instr.lookup, run_underlying ht, MapKept.run_getObj_map h1, hK.check, h5, Result.andThen, h7]
theorem zdt (hK : KeyOk P kt ke) (h : MapG ke w m l) (ht : P.underlying t = some (.map kt et)) (k : κ) (v : Value) :
  ∃ w', (Instr.mapUpdate t (.map (some m)) (ke k) v).run P w = .ok () w' /\ MapG ke w' m (zeL l k v) /\ Keep (fun q => q = m) w w' /\ w'.heap.size = w.heap.size := by
 obtain ⟨es, c, h1, h2⟩ := h
 have h7 := hK.find k _ _ w h2
 cases h8 : lkg l k with
 | none =>
  rw [h8] at h7
  refine ⟨setBlock w m (.map (es.push ⟨ke k, v, c⟩) (c + 1)), by simp [Instr.mapUpdate, run_underlying ht, MapKept.run_getObj_map h1, hK.check, h7, MapKept.run_setObj_map _ h1, Result.andThen, setBlock], ?_, xo h1, by simp [setBlock]⟩
  refine ⟨_, _, (MapKept.heap_set h1).1, ?_⟩
  rw [<- zgU v h8]; simp [h2]
 | some p =>
  rw [h8] at h7
  obtain ⟨h9, h10⟩ := zgT v h8
  have hlen : es.toList.length = l.length := by have := congrArg List.length h2; simpa using this
  have hp := (zne.1 h9).1
  obtain ⟨e0, he0⟩ : ∃ e0, es.toList[p.1]? = some e0 := ⟨_, zn0 (by omega)⟩
  have hkey : e0.key = ke k /\ e0.val = p.2 := by
   have := congrArg (fun L => L[p.1]?) h2
   simp only [znh, he0, h9, Option.map_some, Option.some.injEq, Prod.mk.injEq] at this
   exact this
  have he0' : es[p.1]? = some e0 := by simpa using he0
  refine ⟨setBlock w m (.map (es.modify p.1 fun e => { e with key := ke k, val := v }) c), by simp [Instr.mapUpdate, run_underlying ht, MapKept.run_getObj_map h1, hK.check, h7, he0', hkey.1, Instr.keyThatStays, hK.stays, MapKept.run_setObj_map _ h1, Result.andThen, setBlock], ?_, xo h1, by simp [setBlock]⟩
  refine ⟨_, _, (MapKept.heap_set h1).1, ?_⟩
  rw [<- h10, Array.toList_modify, zep _ _ (ke k, v) _ _ (fun _ _ => rfl), h2]; simp only [List.map_set]
end
section
variable {P : Program} {env : Env} {w : World} {dst : Option Tmp} {ty : TypeId} {pos : String} {aft : Array Edge} {g : Option (Nat × Bool)} {t kt et : TypeId} {m : Nat} {l : List (κ × Value)}
omit [DecidableEq κ] in
theorem zmR : yz P ⟨dst, .makeMap t none, ty, pos, aft, g⟩ env w (fun u w' => ∃ b, u = .map (some b) /\ MapG ke w' b [] /\ Ext w w' /\ ∀ q, q = b -> w.heap.size <= q /\ q < w'.heap.size) := by
 refine ⟨.map (some w.heap.size), w.alloc (.map #[] 0), ?_, _, rfl, ⟨#[], 0, (MapKept.heap_alloc w _).1, rfl⟩, Keep.alloc w _, fun q hq => by subst hq; simp⟩
 intro n a ha
 have h : (Instr.makeMap t none).run P w = .ok (.map (some w.heap.size)) (w.alloc (.map #[] 0)) := by simp [Instr.makeMap, Result.andThen]
 simp [execOp, h]
theorem zmS {x y : Operand} {k : κ} {z : Value} (hK : KeyOk P kt ke) (h : MapG ke w m l) (ht : P.underlying t = some (.map kt et)) (hz : ∀ w, (zeroValue et).run P w = .ok z w) (hx : ev env x = some (.map (some m))) (hy : ev env y = some (ke k)) :
  yo P ⟨dst, .lookup t x y false, ty, pos, aft, g⟩ env w ((ze9 l k).getD z) w := by
 intro n a ha
 simp [execOp, ha.eval hx, ha.eval hy, zds hK h ht hz]
theorem zmT {x y u : Operand} {k : κ} {v : Value} (hK : KeyOk P kt ke) (h : MapG ke w m l) (ht : P.underlying t = some (.map kt et)) (hx : ev env x = some (.map (some m))) (hy : ev env y = some (ke k)) (hu : ev env u = some v) :
  qT P ⟨dst, .mapUpdate t x y u, ty, pos, aft, g⟩ env w (fun w' => MapG ke w' m (zeL l k v) /\ Keep (fun q => q = m) w w' /\ ∀ q, q = m -> (q = m \/ w.heap.size <= q) /\ q < w'.heap.size) := by
 have hlt := h.lt
 obtain ⟨w', h1, h2, h3, h4⟩ := zdt hK h ht k v
 refine ⟨w', ?_, h2, h3, fun q hq => ⟨.inl hq, by omega⟩⟩
 intro n a ha
 simp [execOp, ha.eval hx, ha.eval hy, ha.eval hu, h1]
end
abbrev MapP (ke : κ -> Value) (m : Nat) (l : List (κ × Value)) : HE := .res (fun q => q = m) (fun w => MapG ke w m l)
omit [DecidableEq κ] in
theorem MapP.loc {m : Nat} {l : List (κ × Value)} : (MapP ke m l).loc := fun _ _ _ h hk hT => h.keep hk (hT m h.lt rfl)
end
end Go.GL
namespace Go.Proofs.YtbkhagigkglgoaaGreatDoor
open Go.GL
abbrev obE (o : Ob) (y : Option Addr × Nat × (Nat -> Prop)) : HE := DaP ROb y.2.2 o [.slice y.1 o.1.length y.2.1, .int .i64 o.2]
theorem zhV {H : Hp} {f : FuncId} {args : Array Value} {o : Ob} {w : World} (k : Nat) (hc : Calls Tryz.prog f args w (Ret fun r w' => (∃ ov, r = .agg #[ov, .int .i64 o.2] /\ SlR 1 zz (fun b => w.heap.size <= b) w' ov o.1) /\ Ext w w')) :
  Calls Tryz.prog f args w (Ret fun r w' => ∃ y : Option Addr × Nat × (Nat -> Prop), r = .agg #[.slice y.1 o.1.length y.2.1, .int .i64 o.2] /\ Hands H [] [(k, obE o y)] w w') := by
 refine hc.mono ?_
 rintro _ w' ⟨_, rfl, ⟨ov, rfl, hd⟩, hk⟩
 obtain ⟨ao, co, rfl⟩ := hd.form
 refine ⟨_, rfl, (ao, co, fun b => w.heap.size <= b /\ b < w'.heap.size), rfl, hk.mono fun q _ h => h.elim, fun x hx => ?_, List.pairwise_singleton _ _⟩
 rw [zni] at hx
 subst hx
 exact ⟨⟨_, rfl, hd.narrow (by omega) yi⟩, DaP.loc, fun _ h => h, fun q hq => ⟨.inr hq.1, hq.2⟩⟩
theorem zfI {F : Nat -> Prop} {w : World} {o : Ob} {ao : Option Addr} {co : Nat} (h : ROb F w o [.slice ao o.1.length co, .int .i64 o.2]) : SlR 1 zz F w (.slice ao o.1.length co) o.1 := by
 obtain ⟨v, h1, h2⟩ := h
 simp only [List.cons.injEq, and_true] at h1
 rw [h1]; exact h2
theorem zhW {H : Hp} {Bs : yc} {f : FuncId} {l : List Ob} {v : Value} {F : Nat -> Prop} {w : World} {k : Nat} (hI : VI Bs H w) (h0 : zo H k = some (OwP 60 2 ROb F v l)) (hlen : l.length <= 1048576) (hf : ∀ args w, (callFunc f args).run Tryz.prog w = .ok (.enter f args) w)
  (hcf : ∀ (x y : Ob) (u v : Value) (D D' : Nat -> Prop) (W : World), SlR 1 zz D W u x.1 -> SlR 1 zz D' W v y.1 -> Calls Tryz.prog f #[.agg #[u, .int .i64 x.2], .agg #[v, .int .i64 y.2]] W (Ret fun r w' => r = .int .i64 (yD x y) /\ Ext W w')) :
  Calls Tryz.prog 67 #[v, .func (.func f) #[] #[]] w (Ret fun r w' => ∃ l' : List Ob, (r = .tuple #[] /\ l'.Perm l /\ l'.Pairwise (fun a b => ¬ yD b a < 0)) /\ HE.holds w' (OwP 60 2 ROb F v l') /\ Keep (HE.S (OwP 60 2 ROb F v l)) w w' /\ ∀ q, HE.S (OwP 60 2 ROb F v l') q -> (HE.S (OwP 60 2 ROb F v l) q \/ w.heap.size <= q) /\ q < w'.heap.size) := by
 refine (zgM f hf hcf l hlen v F w (hI.at k h0)).mono ?_
 rintro _ w' ⟨_, rfl, rfl, l', h1, h2, h3, h4⟩
 refine ⟨_, rfl, l', ⟨rfl, h1, h2⟩, h3, h4.mono fun q _ hq => .inl hq, fun q hq => ⟨.inl hq, ?_⟩⟩
 exact Nat.lt_of_lt_of_le (hI.low _ (zm h0) q hq) h4.size
theorem zbT {α : Type} {l : List α} {x y : α} : y ∈ l ++ [x] ↔ y ∈ l \/ y = x := by simp
theorem zhX (o p : Ob) (l : List Ob) : (if (⟨(xU o).toArray⟩ : ByteArray) = ⟨(xU p).toArray⟩ then some (Value.bool true) else if o ∈ l then some (.bool true) else none) = if o ∈ l ++ [p] then some (.bool true) else none := by
 have hm : (o ∈ l ++ [p]) ↔ (o ∈ l \/ o = p) := zbT
 have h : ((⟨(xU o).toArray⟩ : ByteArray) = ⟨(xU p).toArray⟩) ↔ o = p := by
  constructor
  ·
   intro e
   injection e with e
   exact zbc (List.toArray_inj e)
  . rintro rfl; rfl
 by_cases h1 : o = p
 . rw [znb (h.2 h1), znb (hm.2 (.inr h1))]
 ·
  rw [zna (fun e => h1 (h.1 e))]
  by_cases h2 : o ∈ l
  . rw [znb h2, znb (hm.2 (.inl h2))]
  . rw [zna h2, zna (fun e => (hm.1 e).elim h2 h1)]
theorem qj (f : Fl) (vd : Valid f) (pub rs : List Int) (v1 v2 v3 pv rv : Value) (D D' D2 : Nat -> Prop) (W : World) (hlen : rs.length <= 5000) (hf : RFl D W f v1 v2 v3) (hp : SlR 1 zz D' W pv pub) (hr : SlR 1 zz D2 W rv rs) (ht : Tab W) :
  Calls Tryz.prog 51 #[.agg #[v1, v2, v3], pv, rv] W (Ret fun r w' => SlR 2 ROb (fun b => W.heap.size <= b) w' r (ze2 f pub rs) /\ Ext W w') := by
 obtain ⟨ap, cp, rfl⟩ := hp.form
 obtain ⟨ar, cr, rfl⟩ := hr.form
 refine zls Tryz.func51 O Tryz.ntmps51 O (zlC ?_)
 refine Vs 2 O ?_
 refine V.box 3 O O (fun b3 => ?_)
 refine Vs 5 O ?_
 refine zmt 900 (E := fun b => MapP Value.string b []) (u := fun b => .map (some b)) O (fun _ => ⟨MapP.loc, fun _ h => h⟩) (fun w hI => zmR) (fun m900 => ?_)
 refine Vs 16 O ?_
 refine zlN 901 60 2 O ?_
 refine zmh 901 (e' := OwP 60 2 ROb (fun _ => False) (.slice none 0 0) []) O (fun w hI => OwH.nil) OwP.loc (fun _ h => h) (fun q hq => hq.elim id False.elim) ?_
 refine Vs 1 O ?_
 refine zm5 (σ := Nat × Value × (Nat -> Prop) × List (ByteArray × Value) × List Ob) [1, 3, 7, 14, 15] [3] [3] O (fun e ⟨i, v, F, L, l⟩ => (16, .int .i64 i) :: (8, v) :: e) (fun e ⟨i, v, F, L, l⟩ => (900, MapP Value.string m900 L) :: (901, OwP 60 2 ROb F v l) :: e) (fun ⟨i, v, F, L, l⟩ => i <= rs.length /\ l.Nodup /\ l.length <= i /\ (∀ o, o ∈ l ↔ o ∈ (rs.take i).map (obN f pub)) /\ ∀ o : Ob, ze9 L ⟨(xU o).toArray⟩ = if o ∈ l then some (.bool true) else none) (fun ⟨i, v, F, L, l⟩ => rs.length - i) ((0, .slice none 0 0, fun _ => False, [], [])) (zkZ O) (zl0 O) (fun _ => rfl) (fun _ => rfl) (fun _ => rfl) (⟨znf _, List.Pairwise.nil, znf _, fun o => by simp, fun o => by simp [ze9]⟩) ?_
 rintro ⟨i, v, F, L, l⟩ ⟨hi, hn, hli, hmem, hL⟩
 show V _ _ _ _ _ ((16, .int .i64 i) :: (8, v) :: _) _ ((900, MapP Value.string m900 L) :: (901, OwP 60 2 ROb F v l) :: _) _
 refine Vs 6 O ?_
 refine zjo O (fun hlt => ?_) (fun hlt => ?_)
 ·
  refine Vs 6 O ?_
  obtain ⟨x, he_x, hm_x⟩ := gE_ rs (i) (by omega)
  obtain ⟨b_x, o_x, c_x, ha_x, _, hc_x, hR_x⟩ := hr.at he_x
  obtain rfl := hR_x
  refine zm1 1000 0 O O hc_x ?_
  refine zlK 1000 tR31 ts3 O ha_x (by omega) (_) (rfl) O ?_
  have htk : ∀ o, o ∈ (rs.take (i + 1)).map (obN f pub) ↔ o ∈ (rs.take i).map (obN f pub) \/ o = obN f pub x := fun o => by rw [zg he_x, List.map_append]; exact zbT
  refine Vs 9 O ?_
  refine zmn [] (Hn := fun y : Option Addr × Nat × (Nat -> Prop) => [(905, obE (obN f pub x) y)]) [(3, some (3, 0)), (18, some (1000, 0))] Tryz.call49 O (fun _ _ => rfl) (fun _ => rfl) (fun w hI => zhV 905 (qi f vd pub x v1 v2 v3 _ D D' w (Tr1 hI.k0 hf) (Tr1 hI.k0 hp))) ?_
  rintro _ ⟨ao, co, G⟩ rfl
  refine V.alloc 11 tz60 O O (fun b11 => ?_)
  refine Vs 6 O ?_
  refine zlT Tryz.call88 O (fun w hI => zhS (obN f pub x) (ziD vd pub x) _ _ w (zfI (hI.at 905 O)) (Tr1 hI.k0 ht)) ?_
  refine Vs 7 O ?_
  refine zlh O (fun w hI => zmS (KeyOk.str tu9) (hI.at 900 O) Tryz.underlying147 tz4 O O) ?_
  refine V.eq 28 (v := .bool (decide (obN f pub x ∈ l))) O (by rw [hL]; by_cases h : obN f pub x ∈ l <;> simp [h]) ?_
  refine zlh O (fun w hI => zkJ O (by first | exact za | rfl)) ?_
  refine Vs 2 O ?_
  refine zjo O (fun c => ?_) (fun c => ?_)
  ·
   refine Vs 4 O ?_
   refine V.upd 900 (e' := MapP Value.string m900 (zeL L ⟨(xU (obN f pub x)).toArray⟩ (.bool true))) O (MapP.loc) (fun _ h => h) (fun w hI => zmT (KeyOk.str tu9) (hI.at 900 O) Tryz.underlying147 O O O) ?_
   refine Vs 5 O ?_
   refine zm8 34 [(0, _)] tR76 ts60 tz60 (by decide) O O (by kernel_rfl) (fun b34 => ?_)
   refine zmv [901, 905] (Hn := fun u => [(901, OwP 60 2 ROb (fun q => F q \/ G q) u (l ++ [obN f pub x]))]) (u := fun u => u) [(3, some (3, 0)), (11, some (11, 0)), (18, some (1000, 0))] O (fun _ => rfl) (fun _ => rfl) (fun w hI => zmx 901 905 34 hI O O O O Tryz.underlying76 Tryz.el60 O (by decide) O O O (fun D x cs h => zhi D x cs h) (by omega) (by omega)) (fun u901 => ?_)
   refine Va 8 O (by omega) ?_
   refine zjz (⟨i + 1, u901, fun q => F q \/ G q, zeL L ⟨(xU (obN f pub x)).toArray⟩ (.bool true), l ++ [obN f pub x]⟩) (zkZ O) (zl0 O) (⟨by omega, List.nodup_append.2 ⟨hn, by simp, fun a ha b hb e => c (by rw [zni] at hb; rw [<- hb, <- e]; exact ha)⟩, by rw [zn8, List.length_singleton]; omega, fun o => by rw [zbT, hmem, htk], fun o => by rw [zfH, hL]; exact zhX o _ _⟩) (by first | omega | (dsimp only; omega)) 0 O O
  ·
   refine Va 7 O (by omega) ?_
   refine zjz (⟨i + 1, v, F, L, l⟩) (zkZ O) (zl0 O) (⟨by omega, hn, by omega, fun o => by rw [htk, <- hmem]; exact ⟨.inl, fun h => h.elim id (fun h => by rw [h]; exact zn9.1 c)⟩, hL⟩) (by first | omega | (dsimp only; omega)) 0 O O
 ·
  obtain rfl : i = rs.length := by omega
  rw [zn5] at hmem
  refine Vs 8 O ?_
  refine zlX 901 (E := fun l' => OwP 60 2 ROb F v l') Tryz.call67 O (fun _ => ⟨OwP.loc, fun _ h => h⟩) (fun w hI => zhW (k := 901) hI O (by omega) Tryz.call54 (fun x y u v D D' W hx hy => xN x y u v D D' W hx hy)) ?_
  rintro _ l' ⟨rfl, hperm, hpw⟩
  have hres := zcD hperm hn hpw hmem
  refine Vs 9 O ?_
  refine zjI Tryz.results51 O (fun w hI => ⟨_, rfl, by show SlR 2 ROb _ _ _ (zdn _); rw [<- hres]; exact (show OwH _ _ _ _ _ _ _ from hI.at 901 O).sl (by omega) (fun q hq => hI.own 901 0 O O q hq), hI.k0⟩)
theorem zhY (l : List Ob) (o : Ob) : zeK (fun x => decide (x = o)) l = zhQ l o := by
 unfold zeK zhQ
 by_cases h : o ∈ l
 . rw [znb h, znb (List.any_eq_true.2 ⟨o, h, by simp⟩)]
 ·
  rw [zna h, zna (fun e => by
   obtain ⟨x, hx, hd⟩ := List.any_eq_true.1 e
   rw [of_decide_eq_true hd] at hx
   exact h hx)]
theorem zfJ {α : Type} {l : List α} {k : Nat} {x y : α} (hx : l[k]? = some x) : y ∈ l.take (k + 1) ↔ y ∈ l.take k \/ y = x := by
 rw [List.take_add_one, hx]
 simp
theorem zfK (l : List Int) (x : Int) (v : Value) (D : Nat -> Prop) (W : World) (hv : SlR 1 zz D W v l) : Calls Tryz.prog 56 #[v, .int .i64 x] W (Ret fun r w' => (∃ i : Int, r = .int .i64 i /\ (0 <= i ↔ x ∈ l)) /\ Ext W w') := by
 obtain ⟨av, cv, rfl⟩ := hv.form
 have hmx := hv.max
 refine zlr Tryz.func56 O Tryz.ntmps56 O (zlC ?_)
 refine Vs 14 O ?_
 refine zm5 (σ := Nat) [0, 1, 7] [] [] O (fun e k => (8, .int .i64 k) :: e) (fun e k => e) (fun k => k <= l.length /\ x ∉ l.take k) (fun k => l.length - k) (0) (zkZ O) (zl0 O) (fun _ => rfl) (fun _ => rfl) (fun _ => rfl) (⟨znf _, by simp⟩) ?_
 rintro k ⟨hk, hn⟩
 refine Vs 6 O ?_
 refine zjo O (fun hlt => ?_) (fun hlt => ?_)
 ·
  refine Vs 15 O ?_
  obtain ⟨y, he_y, hm_y⟩ := gE_ l (k) (by omega)
  obtain ⟨b_y, o_y, c_y, ha_y, _, hc_y, hR_y⟩ := hv.at he_y
  obtain rfl := hR_y
  refine zm1 1000 0 O O hc_y ?_
  refine zlK 1000 tR31 ts3 O ha_y (by omega) (_) (rfl) O ?_
  refine Vs 4 O ?_
  refine zjo O (fun he => ?_) (fun he => ?_)
  ·
   refine Vs 12 O ?_
   refine zjI Tryz.results56 O (fun w hI => ⟨_, rfl, ⟨_, rfl, by rw [he]; exact ⟨fun _ => hm_y, fun _ => by omega⟩⟩, hI.k0⟩)
  ·
   refine Va 7 O (by omega) ?_
   refine zjz (k + 1) (zkZ O) (zl0 O) (⟨by omega, fun h => ((zfJ he_y).1 h).elim hn he⟩) (by first | omega | (dsimp only; omega)) 0 O O
 ·
  have : k = l.length := by omega
  subst this
  rw [zn5] at hn
  refine Vs 11 O ?_
  refine zjI Tryz.results56 O (fun w hI => ⟨_, rfl, ⟨_, rfl, ⟨fun h => by omega, fun h => absurd h hn⟩⟩, hI.k0⟩)
theorem zcQ (l : List Int) (x : Int) (v : Value) (D : Nat -> Prop) (W : World) (hv : SlR 1 zz D W v l) : Calls Tryz.prog 25 #[v, .int .i64 x] W (Ret fun r w' => r = .bool (decide (x ∈ l)) /\ Ext W w') := by
 refine zlr Tryz.func25 O Tryz.ntmps25 O (zlC ?_)
 refine Vs 9 O ?_
 refine zlV Tryz.call56 O (fun w hI => zfK l x v D w (Tr1 hI.k0 hv)) ?_
 rintro r w1 w2 hI1 hk12 ⟨i, rfl, hi⟩ hlow
 refine Vs 5 O ?_
 refine zjI Tryz.results25 O (fun w hI => ⟨_, rfl, by simp [hi], hI.k1⟩)
theorem qP (xs ys : List Int) (u v : Value) (D D' : Nat -> Prop) (w : World) (hx : SlR 1 zz D w u xs) (hy : SlR 1 zz D' w v ys) : Calls Tryz.prog 18 #[u, v] w (Ret fun r w' => r = .bool (decide (xs = ys)) /\ Ext w w') := by
 obtain ⟨ao, cx, rfl, hxc, hxm, hxe⟩ := hx
 obtain ⟨bo, cy, rfl, hyc, hym, hye⟩ := hy
 refine zlr Tryz.func18 O Tryz.ntmps18 O (Gs 15 O (zlf O (fun hne => ?_) (fun heq => ?_)))
 ·
  refine Gs 7 O ?_
  have : ¬ xs = ys := fun h => hne (by rw [h])
  refine zjH Tryz.results18 O ⟨_, rfl, by rw [znd this], Keep.refl _ _⟩
 ·
  have hl : xs.length = ys.length := by omega
  refine Gs 11 O (G.loop (σ := Nat) (fun k => [(0, .slice ao xs.length cx), (1, .slice bo ys.length cy), (11, .slice ao xs.length cx), (12, .int .i64 xs.length), (13, .int .i64 k)]) (fun k => fun w' => k <= xs.length /\ xs.take k = ys.take k /\ Ext w w') (fun k => xs.length - k) (0) (zkZ O) (⟨znf _, rfl, Keep.refl _ _⟩) ?_)
  rintro k w1 ⟨hkl, htk, hk1⟩
  refine Gs 6 O (zlf O (fun hlt => ?_) (fun hge => ?_))
  ·
   obtain ⟨x, hx⟩ : ∃ x, xs[k]? = some x := ⟨_, zn0 (by omega)⟩
   obtain ⟨y, hy⟩ : ∃ y, ys[k]? = some y := ⟨_, zn0 (by omega)⟩
   obtain ⟨b1, o1, c1, hao, _, hcl1, hcs1, rfl⟩ := hxe k x hx
   obtain ⟨b2, o2, c2, hbo, _, hcl2, hcs2, rfl⟩ := hye k y hy
   have hcs1' := hk1.cells hcs1 (fun h => h)
   have hcs2' := hk1.cells hcs2 (fun h => h)
   refine Gs 11 O (Qt (by kernel_rfl) (Gs 2 O (zlj O O (fun w1 hw1 => zk6 tR31 ts3 O O hao (by omega)) (zll O tg3 (fun w1 hw1 => (hw1.cell (hcs1' 0 _ O) (fun h => h))) (Gs 2 O (zlj O O (fun w1 hw1 => zk6 tR31 ts3 O O hbo (by omega)) (zll O tg3 (fun w1 hw1 => (hw1.cell (hcs2' 0 _ O) (fun h => h))) (Gs 1 O (zln (fun w2 hk2 => ?_))))))))))
   refine Gs 1 O (zlf O (fun hd => ?_) (fun he => ?_))
   ·
    have : ¬ xs = ys := by
     rintro rfl
     rw [hx] at hy
     exact hd (Option.some.inj hy)
    refine Gs 11 O (zjH Tryz.results18 O ⟨_, rfl, by rw [znd this], hk1.ext hk2⟩)
   ·
    have hxy : x = y := zn9.1 he
    refine Ga 7 O (by omega) (zjy (k + 1) (zkZ O) (⟨by omega, ?_, hk1.ext hk2⟩) (by first | omega | (dsimp only; omega)))
    obtain ⟨h1, h2⟩ := zne.1 hx
    obtain ⟨h3, h4⟩ := zne.1 hy
    rw [List.take_succ_eq_append_getElem h1, List.take_succ_eq_append_getElem h3, htk, h2, h4, hxy]
  ·
   have hkk : k = xs.length := by omega
   have : xs = ys := by
    rw [hkk, zn5] at htk
    rw [hl, zn5] at htk
    exact htk
   refine Gs 11 O (zjH Tryz.results18 O ⟨_, rfl, by rw [znc this], hk1⟩)
theorem ziE (f : Fl) (a b c : Int) (v1 v2 v3 : Value) (D : Nat -> Prop) (w : World) (hf : RFl D w f v1 v2 v3) :
  Calls Tryz.prog 63 #[.agg #[v1, v2, v3], .int .i64 a, .int .i64 b, .int .i64 c] w (Ret fun r w' => (∃ q : Bool, r = .bool q /\ (q = true -> ((f.vars.length : Int) <= 10 /\ (f.hatches.length : Int) <= 10 /\ ((zw f.body + zG f.hatches : Nat) : Int) <= 80) /\ zS f = 0)) /\ Ext w w') := by
 obtain ⟨a1, n1, rfl⟩ := hf.vars.form
 obtain ⟨a2, n2, rfl⟩ := hf.hatches.form
 obtain ⟨a3, n3, rfl⟩ := hf.body.form
 have hE := Keep.refl (fun _ => False) w
 refine zlt Tryz.func63 O Tryz.ntmps63 O (Gs 2 O (zkf O O (M.box O O) ?_))
 rintro _ w_bx ⟨bx, rfl, hg_bx, hs_bx, hB_bx, hk_bx⟩
 have hge_bx : _ <= bx := zn6 hE.size (Nat.le_of_eq hg_bx.symm)
 obtain ⟨hE, hf⟩ := Tr2 hk_bx hE hf
 refine Gs 6 O (zlm O tg56 ts56 hB_bx.cells O (G.call O Tryz.call62 (zdK f 10 80 _ _ _ D _ hf (by decide) (by decide)) ?_))
 rintro _ wz1 ⟨rfl, hz1⟩
 obtain ⟨hE, hf, hB_bx⟩ := Tr3 hz1 hE hf hB_bx
 refine zlg O O (zkJ O (by first | exact za | rfl)) (Gs 1 O ?_)
 by_cases hfew : (f.vars.length : Int) <= 10 /\ (f.hatches.length : Int) <= 10 /\ ((zw f.body + zG f.hatches : Nat) : Int) <= 80
 ·
  have h1 := kA f.body
  have hsz : zn f.body + zG f.hatches <= 1024 := by omega
  have hbk : zw f.body <= 1000000 := by omega
  refine zlb 21 O (fun q1 => ?_) (fun q1 => ?_)
  . exact absurd hfew q1
  ·
   refine zlm O tg56 ts56 hB_bx.cells O (G.call O Tryz.call42 (jd f _ _ _ D _ hf hsz hbk) ?_)
   rintro _ wz2 ⟨rfl, hz2⟩
   obtain ⟨hE, hf, hB_bx⟩ := Tr3 hz2 hE hf hB_bx
   refine Gs 4 O (zjn O (fun c0 => ?_) (fun c0 => ?_))
   . refine Gs 7 O (zjH tr63 O ⟨_, rfl, ⟨_, rfl, fun h => by cases h⟩, hE⟩)
   ·
    have c0' : zS f = 0 := by omega
    have hst := (yr c0').2.2.2.1
    refine Gs 5 O (zlk O tg52 (hB_bx.cells 0 _ O) (G.call O Tryz.call66 (qh f.vars 1 _ D _ hf.vars (by omega)) ?_))
    rintro _ wz3 ⟨⟨sa, sb, rfl⟩, hz3⟩
    obtain ⟨hE, hf, hB_bx⟩ := Tr3 hz3 hE hf hB_bx
    refine Gs 10 O (zlk O tg52 (hB_bx.cells 0 _ O) (G.call O Tryz.call66 (qh f.vars 2 _ D _ hf.vars (by omega)) ?_))
    rintro _ wz4 ⟨⟨ta, tb, rfl⟩, hz4⟩
    obtain ⟨hE, hf, hB_bx⟩ := Tr3 hz4 hE hf hB_bx
    refine Gs 10 O (zlk O tg52 (hB_bx.cells 0 _ O) (G.call O Tryz.call66 (qh f.vars 3 _ D _ hf.vars (by omega)) ?_))
    rintro _ wz5 ⟨⟨ua, ub, rfl⟩, hz5⟩
    obtain ⟨hE, hf, hB_bx⟩ := Tr3 hz5 hE hf hB_bx
    refine Gs 10 O (zlk O tg54 (hB_bx.cells 2 _ O) (G.call O Tryz.call82 (kI f.vars f.hatches.length f.body _ D _ true hst hf.body hbk) ?_))
    rintro _ wz6 ⟨rfl, hz6⟩
    obtain ⟨hE, hf, hB_bx⟩ := Tr3 hz6 hE hf hB_bx
    refine Gs 15 O (zlb 54 O (fun g1 => ?_) (fun g1 => ?_))
    ·
     refine Gs 5 O (zlb 59 O (fun g2 => ?_) (fun g2 => ?_))
     ·
      refine Gs 5 O (zlb 64 O (fun g3 => ?_) (fun g3 => ?_))
      . refine Gs 7 O (zjH tr63 O ⟨_, rfl, ⟨_, rfl, fun _ => ⟨hfew, c0'⟩⟩, hE⟩)
      . refine Gs 7 O (zjH tr63 O ⟨_, rfl, ⟨_, rfl, fun _ => ⟨hfew, c0'⟩⟩, hE⟩)
     . refine Gs 12 O (zjH tr63 O ⟨_, rfl, ⟨_, rfl, fun _ => ⟨hfew, c0'⟩⟩, hE⟩)
    . refine Gs 17 O (zjH tr63 O ⟨_, rfl, ⟨_, rfl, fun _ => ⟨hfew, c0'⟩⟩, hE⟩)
 ·
  refine zlb 21 O (fun q1 => ?_) (fun q1 => ?_)
  . refine Gs 14 O (zjH tr63 O ⟨_, rfl, ⟨_, rfl, fun h => by cases h⟩, hE⟩)
  . exact absurd (zn9.1 q1) hfew
structure SzOk (f : Fl) : Prop where
 size : zn f.body + zG f.hatches <= 1024
 bulk : zw f.body <= 1000000
theorem zgV (f : Fl) (v1 v2 v3 : Value) (D : Nat -> Prop) (W : World) (hf : RFl D W f v1 v2 v3) : Calls Tryz.prog 30 #[.agg #[v1, v2, v3]] W (Ret fun r w' => (∃ q : Bool, r = .bool q /\ (q = true -> SzOk f)) /\ Ext W w') := by
 obtain ⟨a1, n1, h1⟩ := hf.vars.form
 obtain ⟨a2, n2, h2⟩ := hf.hatches.form
 obtain ⟨a3, n3, h3⟩ := hf.body.form
 subst h1 h2 h3
 refine zlq Tryz.func30 O Tryz.ntmps30 O (zlC ?_)
 refine Vs 2 O ?_
 refine V.box 1 O O (fun b1 => ?_)
 refine Vs 7 O ?_
 refine zlT Tryz.call62 O (fun w hI => zdK f 10 80 _ _ _ D w (Tr1 hI.k0 hf) (by decide) (by decide)) ?_
 refine zlh O (fun w hI => zkJ O (by first | exact za | rfl)) ?_
 refine Vs 2 O ?_
 refine zjo O (fun q1 => ?_) (fun q1 => ?_)
 ·
  refine Vs 7 O ?_
  refine zjI Tryz.results30 O (fun w hI => ⟨_, rfl, ⟨_, rfl, fun h => by cases h⟩, hI.k0⟩)
 ·
  have h1 := kA f.body
  have hz : SzOk f := ⟨by omega, by omega⟩
  refine Vs 5 O ?_
  refine zlT Tryz.call42 O (fun w hI => jd f _ _ _ D w (Tr1 hI.k0 hf) hz.size hz.bulk) ?_
  refine Vs 2 O ?_
  refine zld 9 O (fun c0 => ?_) (fun c0 => ?_)
  ·
   refine Vs 7 O ?_
   refine zjI Tryz.results30 O (fun w hI => ⟨_, rfl, ⟨_, rfl, fun _ => hz⟩, hI.k0⟩)
  ·
   refine Vs 1 O ?_
   refine zlV Tryz.call63 O (fun w hI => ziE f 20 4096 256 _ _ _ D w (Tr1 hI.k0 hf)) ?_
   rintro r w1 w2 hI1 hk12 ⟨q, rfl, _⟩ hlow
   refine Vs 5 O ?_
   refine zjI Tryz.results30 O (fun w hI => ⟨_, rfl, ⟨_, rfl, fun _ => hz⟩, hI.k1⟩)
theorem zgW (a : Ac) (ps : List Fl) (m b s : Int) (u1 u2 pv : Value) (D D' : Nat -> Prop) (W : World) (ha : RAc D W a u1 u2) (hps : SlR 3 RPg D' W pv ps) : Calls Tryz.prog 19 #[.agg #[.int .i64 m, .int .i64 b, .int .i64 s, u1, u2], pv] W (Ret fun r w' => (∃ q : Bool, r = .bool q /\ (q = true -> ps.length <= 4 /\ a.left.length <= 20 /\ a.asked.length <= 8 /\ ∀ f ∈ ps, SzOk f)) /\ Ext W w') := by
 obtain ⟨a1, n1, rfl⟩ := ha.left.form
 obtain ⟨a2, n2, rfl⟩ := ha.asked.form
 obtain ⟨a3, n3, rfl⟩ := hps.form
 have hm1 := hps.max
 refine zlr Tryz.func19 O Tryz.ntmps19 O (zlC ?_)
 refine Vs 2 O ?_
 refine V.box 2 O O (fun b2 => ?_)
 refine Vs 5 O ?_
 refine zm6 (σ := Unit) [1] [] [] O (fun e u => (21, .bool (decide (4 < ps.length \/ 20 < a.left.length \/ 8 < a.asked.length))) :: e) (fun e u => e) (fun u => True) (fun _ => rfl) (fun _ => rfl) ?_ ?_
 ·
  refine Vs 5 O ?_
  refine zld 10 O (fun k1_ => ?_) (fun k1_ => ?_)
  ·
   refine Vs 12 O ?_
   refine zjE (()) (Sub.cons (by first | exact yI (by omega) | exact yJ (by omega) | exact yK (by omega)) (zkZ O)) (zl0 O) (trivial) 0 O O
  ·
   refine Vs 6 O ?_
   refine zld 16 O (fun k2_ => ?_) (fun k2_ => ?_)
   ·
    refine Vs 6 O ?_
    refine zjE (()) (Sub.cons (by first | exact yI (by omega) | exact yJ (by omega) | exact yK (by omega)) (zkZ O)) (zl0 O) (trivial) 0 O O
   ·
    refine Vs 6 O ?_
    refine zjE (()) (Sub.cons (by first | exact yI (by omega) | exact yJ (by omega) | exact yK (by omega)) (zkZ O)) (zl0 O) (trivial) 0 O O
 rintro u _
 refine Vs 1 O ?_
 refine zjo O (fun h0 => ?_) (fun h0 => ?_)
 ·
  refine Vs 7 O ?_
  refine zjI Tryz.results19 O (fun w hI => ⟨_, rfl, ⟨_, rfl, fun h => by cases h⟩, hI.k0⟩)
 ·
  refine Vs 11 O ?_
  refine zm5 (σ := Nat) [22, 23] [] [] O (fun e i => (24, .int .i64 i) :: e) (fun e i => e) (fun i => i <= ps.length /\ ∀ f ∈ ps.take i, SzOk f) (fun i => ps.length - i) (0) (zkZ O) (zl0 O) (fun _ => rfl) (fun _ => rfl) (fun _ => rfl) (⟨znf _, fun f h => by simp at h⟩) ?_
  rintro i ⟨hi, hall⟩
  refine Vs 6 O ?_
  refine zjo O (fun hlt => ?_) (fun hlt => ?_)
  ·
   refine Vs 6 O ?_
   obtain ⟨f, he_f, hm_f⟩ := gE_ ps (i) (by omega)
   obtain ⟨b_f, o_f, c_f, ha_f, _, hc_f, hR_f⟩ := hps.at he_f
   obtain ⟨v1_f, v2_f, v3_f, rfl, hf_f⟩ := hR_f
   obtain ⟨a1_f, n1_f, rfl⟩ := hf_f.vars.form
   obtain ⟨a2_f, n2_f, rfl⟩ := hf_f.hatches.form
   obtain ⟨a3_f, n3_f, rfl⟩ := hf_f.body.form
   refine zm1 1000 0 O O hc_f ?_
   refine zlK 1000 tR23 ts56 O ha_f (by omega) (_) (rfl) O ?_
   refine Vs 1 O ?_
   refine V.alloc 6 tz56 O O (fun b6 => ?_)
   refine Vs 6 O ?_
   refine zlV Tryz.call30 O (fun w hI => zgV f _ _ _ D' w (Tr1 hI.k0 hf_f)) ?_
   rintro r w1 w2 hI1 hk12 ⟨q, rfl, hq⟩ hlow
   refine zlh O (fun w hI => zkJ O (by first | exact za | rfl)) ?_
   refine Vs 2 O ?_
   refine V.bool O (fun c => ?_) (fun c => ?_)
   ·
    refine Vs 11 O ?_
    refine zjI Tryz.results19 O (fun w hI => ⟨_, rfl, ⟨_, rfl, fun h => by cases h⟩, hI.k1⟩)
   ·
    refine Va 7 O (by omega) ?_
    refine zjz (i + 1) (zkZ O) (zl0 O) (⟨by omega, fun g hg => by rw [zg he_f] at hg; rcases znj.1 hg with hg | hg; (· exact hall g hg); (· rw [zni] at hg; rw [hg]; exact hq (by simpa using c))⟩) (by first | omega | (dsimp only; omega)) 1 O O
  ·
   obtain rfl : i = ps.length := by omega
   rw [zn5] at hall
   refine Vs 11 O ?_
   refine zjI Tryz.results19 O (fun w hI => ⟨_, rfl, ⟨_, rfl, fun _ => ⟨by omega, by omega, by omega, hall⟩⟩, hI.k0⟩)
theorem zj1 {f : Fl} (hz : SzOk f) (h : zS f = 0) : Valid f := ⟨h, hz.size, hz.bulk⟩
theorem zdu (x : Vr) (w : World) : Calls Tryz.prog 128 #[.agg #[.string x.name, .int .i64 x.kind, .int .i64 x.low, .int .i64 x.high, .int .i64 x.init]] w (Ret fun r w' => r = .bool (decide (x.kind = 3)) /\ Ext w w') := by
 refine zlq Tryz.func128 O Tryz.ntmps128 O (zlC ?_)
 refine Vs 2 O ?_
 refine V.box 1 O O (fun b1 => ?_)
 refine Vs 12 O ?_
 refine zjI Tryz.results128 O (fun w hI => ⟨_, rfl, rfl, hI.k0⟩)
theorem zcR (l : List Vr) (v : Value) (D : Nat -> Prop) (W : World) (hl : SlR 5 RVr D W v l) : Calls Tryz.prog 162 #[v, .func (.func 128) #[] #[]] W (Ret fun r w' => r = .int .i64 (zeK (fun x : Vr => decide (x.kind = 3)) l) /\ Ext W w') := by
 obtain ⟨av, cv, rfl⟩ := hl.form
 have hmx := hl.max
 refine zlr Tryz.func162 O Tryz.ntmps162 O (zlC ?_)
 refine Vs 14 O ?_
 refine zm5 (σ := Nat) [0, 1, 7] [] [] O (fun e i => (8, .int .i64 i) :: e) (fun e i => e) (fun i => i <= l.length /\ (l.take i).any (fun x : Vr => decide (x.kind = 3)) = false) (fun i => l.length - i) (0) (zkZ O) (zl0 O) (fun _ => rfl) (fun _ => rfl) (fun _ => rfl) (⟨znf _, by simp⟩) ?_
 rintro i ⟨hi, hno⟩
 refine Vs 6 O ?_
 refine zjo O (fun hlt => ?_) (fun hlt => ?_)
 ·
  refine Vs 15 O ?_
  obtain ⟨x, he_x, hm_x⟩ := gE_ l (i) (by omega)
  obtain ⟨b_x, o_x, c_x, ha_x, _, hc_x, hR_x⟩ := hl.at he_x
  obtain rfl := hR_x
  refine zm1 1000 0 O O hc_x ?_
  refine zlK 1000 tR52 ts120 O ha_x (by omega) (_) (rfl) O ?_
  refine Vs 1 O ?_
  refine zml Tryz.call128 O (fun w hI => zdu x w) ?_
  refine Vs 2 O ?_
  refine zjo O (fun hp => ?_) (fun hp => ?_)
  ·
   refine Vs 12 O ?_
   refine zjI tr162 O (fun w hI => ⟨_, rfl, by rw [zbR hno he_x (znc hp)], hI.k0⟩)
  ·
   refine Va 7 O (by omega) ?_
   refine zjz (i + 1) (zkZ O) (zl0 O) (⟨by omega, za1 he_x hno (znd hp)⟩) (by first | omega | (dsimp only; omega)) 0 O O
 ·
  obtain rfl : i = l.length := by omega
  rw [zn5] at hno
  refine Vs 11 O ?_
  refine zjI tr162 O (fun w hI => ⟨_, rfl, by rw [jQ hno], hI.k0⟩)
theorem zcS (l : List Vr) (v : Value) (D : Nat -> Prop) (W : World) (hl : SlR 5 RVr D W v l) : Calls Tryz.prog 127 #[v, .func (.func 128) #[] #[]] W (Ret fun r w' => r = .bool (decide (zd 3 l ≠ [])) /\ Ext W w') := by
 refine zlr Tryz.func127 O Tryz.ntmps127 O (zlC ?_)
 refine Vs 9 O ?_
 refine zlT Tryz.call162 O (fun w hI => zcR l v D w (Tr1 hI.k0 hl)) ?_
 refine Vs 5 O ?_
 refine zjI Tryz.results127 O (fun w hI => ⟨_, rfl, by rw [znr.2]; rw [zbS]; unfold zd; rw [ne_eq, List.filter_eq_nil_iff, List.any_eq_true]; simp, hI.k0⟩)
theorem jR (f : Fl) (hz : SzOk f) (v1 v2 v3 : Value) (D : Nat -> Prop) (W : World) (hf : RFl D W f v1 v2 v3) : Calls Tryz.prog 95 #[.agg #[v1, v2, v3]] W (Ret fun r w' => r = .int .i64 (za0 f) /\ Ext W w') := by
 refine zlq Tryz.func95 O Tryz.ntmps95 O (zlC ?_)
 refine Vs 2 O ?_
 refine V.box 1 O O (fun b1 => ?_)
 refine Vs 7 O ?_
 refine zlT Tryz.call126 O (fun w hI => kJ f v1 v2 v3 D w (Tr1 hI.k0 hf) hz.size hz.bulk) ?_
 refine Vs 9 O ?_
 refine zjo O (fun c0 => ?_) (fun c0 => ?_)
 ·
  have ha : za0 f = zS f := znb c0
  refine Vs 8 O ?_
  refine zjI Tryz.results95 O (fun w hI => ⟨_, rfl, by rw [ha], hI.k0⟩)
 ·
  have c0 := zn9.1 c0
  refine Vs 7 O ?_
  refine zlT Tryz.call127 O (fun w hI => zcS f.vars v1 D w (Tr1 hI.k0 hf.vars)) ?_
  refine Vs 2 O ?_
  refine zjo O (fun c1 => ?_) (fun c1 => ?_)
  ·
   refine Vs 7 O ?_
   refine zjI Tryz.results95 O (fun w hI => ⟨_, rfl, by unfold za0; rw [zna (znm c0), znb c1], hI.k0⟩)
  ·
   refine Vs 8 O ?_
   refine zjI Tryz.results95 O (fun w hI => ⟨_, rfl, by unfold za0; rw [zna (znm c0), zna c1], hI.k0⟩)
theorem zaM {f : Fl} (hz : SzOk f) (h : za0 f = 0) : Valid f /\ zd 3 f.vars = [] := by
 unfold za0 at h
 split at h
 . rename_i h1; exact absurd h h1
 ·
  rename_i h1
  split at h
  . cases h
  . rename_i h2; exact ⟨zj1 hz (zn9.1 h1), zn9.1 h2⟩
theorem zcT (f : Fl) (hz : SzOk f) (pub : List Int) (v1 v2 v3 pv : Value) (D D' : Nat -> Prop) (W : World) (hf : RFl D W f v1 v2 v3) (hp : SlR 1 zz D' W pv pub) : Calls Tryz.prog 64 #[.agg #[v1, v2, v3], pv] W (Ret fun r w' => r = .int .i64 (zcG f pub) /\ Ext W w') := by
 refine zlr Tryz.func64 O Tryz.ntmps64 O (zlC ?_)
 refine Vs 2 O ?_
 refine V.box 2 O O (fun b2 => ?_)
 refine Vs 7 O ?_
 refine zlT Tryz.call95 O (fun w hI => jR f hz v1 v2 v3 D w (Tr1 hI.k0 hf)) ?_
 refine Vs 9 O ?_
 refine zjo O (fun c0 => ?_) (fun c0 => ?_)
 ·
  refine Vs 8 O ?_
  refine zjI Tryz.results64 O (fun w hI => ⟨_, rfl, by unfold zcG; rw [znb c0], hI.k0⟩)
 ·
  have vd := (zaM hz (zn9.1 c0)).1
  have hl := vd.lens
  refine Vs 7 O ?_
  refine zlT Tryz.call96 O (fun w hI => zev f.vars 2 pub v1 pv D D' w (by decide) vd.good (by omega) (Tr1 hI.k0 hf.vars) (Tr1 hI.k0 hp)) ?_
  refine Vs 14 O ?_
  refine zjI Tryz.results64 O (fun w hI => ⟨_, rfl, by unfold zcG; rw [zna c0], hI.k0⟩)
theorem zhZ (x : Int) (n : Nat) (b : Nat) (W : World) (hB : Cells W b 0 [.int .i64 n]) : Calls Tryz.prog 98 #[.int .i64 x, .pointer (some ⟨b, 0, none⟩)] W (Ret fun r w' => r = .bool (decide (x < 0 \/ (n : Int) <= x)) /\ Ext W w') := by
 refine zlr Tryz.func98 O Tryz.ntmps98 O (zlC ?_)
 refine zm2 900 0 O O (fun h => h) hB ?_
 refine zlJ 1 900 0 O O ?_
 refine Vs 10 O ?_
 refine zld 6 O (fun c => ?_) (fun c => ?_)
 ·
  refine Vs 8 O ?_
  refine zjI Tryz.results98 O (fun w hI => ⟨_, rfl, by rw [znc (.inl c)], hI.k0⟩)
 ·
  refine Vs 8 O ?_
  refine zjI Tryz.results98 O (fun w hI => ⟨_, rfl, by rw [znr.2]; omega, hI.k0⟩)
theorem zey (f : Fl) (l : List Int) : (!l.any fun x => decide (x < 0 \/ (spN f : Int) <= x)) = decide (xe f l) := by
 rw [Bool.eq_iff_iff, decide_eq_true_iff, Bool.not_eq_true', List.any_eq_false]
 unfold xe
 constructor
 ·
  intro h x hx
  have := h x hx
  rw [decide_eq_true_iff] at this
  omega
 ·
  intro h x hx
  have := h x hx
  rw [decide_eq_true_iff]
  omega
theorem zaN (f : Fl) (vd : Valid f) (l : List Int) (v1 v2 v3 lv : Value) (D D' : Nat -> Prop) (W : World) (hf : RFl D W f v1 v2 v3) (hl : SlR 1 zz D' W lv l) : Calls Tryz.prog 65 #[.agg #[v1, v2, v3], lv] W (Ret fun r w' => r = .bool (decide (xe f l)) /\ Ext W w') := by
 refine zlr Tryz.func65 O Tryz.ntmps65 O (zlC ?_)
 refine Vs 2 O ?_
 refine V.box 2 O O (fun b2 => ?_)
 refine Vs 6 O ?_
 refine zlT Tryz.call89 O (fun w hI => zbd f vd v1 v2 v3 D w (Tr1 hI.k0 hf)) ?_
 refine V.alloc 5 tz3 O O (fun b5 => ?_)
 refine Vs 7 O ?_
 refine zlT Tryz.call97 O (fun w hI => zgR (fun x => decide (x < 0 \/ (spN f : Int) <= x)) l lv D' _ _ w Tryz.call98 (Tr1 hI.k0 hl) (fun x w' hE _ _ => zhZ x (spN f) b5 w' (hE.cells (Blk.cells (hI.at 5 O)) (fun h => h)))) ?_
 refine zlh O (fun w hI => zkJ O (by first | exact za | rfl)) ?_
 refine Vs 4 O ?_
 refine zjI Tryz.results65 O (fun w hI => ⟨_, rfl, by rw [zey], hI.k0⟩)
theorem zfL {f : Fl} {pub : List Int} (h : zcG f pub = 0) : za0 f = 0 /\ (zk 2 f.vars).isSome = true /\ (qk 2 f.vars pub).2 = 0 := by
 unfold zcG at h
 split at h
 . rename_i h1; exact absurd h h1
 ·
  rename_i h1
  refine ⟨zn9.1 h1, ?_, h⟩
  unfold qk at h
  split at h
  . assumption
  . cases h
theorem zgX {α : Type} {k : Nat} {R : Rel α} {D : Nat -> Prop} {w : World} {n c : Nat} {l : List α} (h : SlR k R D w (.slice none n c) l) : l = [] := by
 cases l with
 | nil => rfl
 | cons x r =>
  obtain ⟨ao, cap, h1, _, _, h4⟩ := h
  obtain ⟨b, o, cs, h5, _⟩ := h4 0 x rfl
  cases h1
  cases h5
theorem zaO (l : List Int) (hlen : l.length <= 17592186044416) (v : Value) (D : Nat -> Prop) (W : World) (hl : SlR 1 zz D W v l) : Calls Tryz.prog 68 #[v] W (Ret fun r w' => SlR 1 zz (fun b => W.heap.size <= b) w' r l /\ Ext W w') := by
 obtain ⟨ao, co, rfl⟩ := hl.form
 refine zlq Tryz.func68 O Tryz.ntmps68 O (zlC ?_)
 refine Vs 9 O ?_
 refine zlh O (fun w hI => zkD tu31 O) ?_
 cases ao
 ·
  obtain rfl := zgX hl
  refine Vs 2 O ?_
  refine V.bool O (fun h => ?_) (fun h => ?_)
  ·
   refine Vs 7 O ?_
   refine zjI Tryz.results68 O (fun w hI => ⟨_, rfl, SlR.nil, hI.k0⟩)
  . cases h
 ·
  refine Vs 2 O ?_
  refine V.bool O (fun h => ?_) (fun h => ?_)
  . cases h
  ·
   refine Vs 4 O ?_
   refine zmc 5 tR31 ts3 O (fun b5 => ?_)
   refine Vs 1 O ?_
   refine zma 5 (fun x => [ze x]) (fun _ => rfl) (by simp [Value.oneCell']) zbF tu31 Tryz.el3 O (by decide) O (fun w hI => ⟨_, Tr1 hI.k0 hl⟩) (by omega) (by omega) (fun u5 => ?_)
   refine zm4 5 O (e' := .row 3 1 u5 l.length (l.map ze)) (by rw [Nat.zero_add, List.nil_append, <- List.map_eq_flatMap]) ?_
   refine Vs 4 O ?_
   refine zjI Tryz.results68 O (fun w hI => ⟨_, rfl, zkx ze (fun _ _ => rfl) (hI.at 5 O) (fun b hb => hI.own 5 0 O O b hb), hI.k0⟩)
abbrev Cl2 := { c : List Value // c.length = 2 /\ ∀ u ∈ c, u.oneCell' = true }
def RCl : Rel Cl2 := fun _ _ x cs => cs = x.1
theorem zfM : zX RCl := fun _ _ _ _ _ _ _ _ h => h
instance : StC RCl := ⟨zfM⟩
theorem zeb : ∀ {l : List Int} {s : Int}, l.Pairwise (· < ·) -> (∀ p, l.getLast? = some p -> p < s) -> (l ++ [s]).Pairwise (· < ·)
 | [], s, _, _ => List.pairwise_singleton _ _
 | [x], s, _, h => by
  have := h x rfl
  simp [this]
 | x :: y :: l, s, hp, h => by
  have ih := zeb (l := y :: l) (s := s) (List.pairwise_cons.1 hp).2 (fun p hp' => h p (by simpa using hp'))
  refine List.pairwise_cons.2 ⟨fun z hz => ?_, ih⟩
  rcases znj.1 hz with hz | hz
  . exact (List.pairwise_cons.1 hp).1 z hz
  ·
   rw [zni] at hz
   subst hz
   have h1 := (List.pairwise_cons.1 hp).1 y (zn4 ..)
   have h2 := (List.pairwise_cons.1 ih).1 z (List.mem_append_right _ (zni.2 rfl))
   omega
theorem zfN {l : List Int} {i : Nat} {p : Int} (hi : i <= l.length) (h : (l.take i).getLast? = some p) : 0 < i /\ l[i - 1]? = some p := by
 cases i with
 | zero => simp at h
 | succ i =>
  refine ⟨Nat.succ_pos _, ?_⟩
  rw [List.getLast?_eq_getElem?, znt, znv] at h
  rw [Nat.min_eq_left hi] at h
  simpa using h
structure AscT (l : List Int) (i : Nat) : Prop where
 le : i <= l.length
 rng : ∀ x ∈ l.take i, 0 <= x /\ x < 4096
 asc : (l.take i).Pairwise (· < ·)
theorem AscT.next {l : List Int} {i : Nat} {x : Int} (h : AscT l i) (hx : l[i]? = some x) (h0 : 0 <= x /\ x < 4096) (h1 : ∀ p, 0 < i -> l[i - 1]? = some p -> p < x) : AscT l (i + 1) := by
 have hl := (zne.1 hx).1
 refine ⟨by omega, fun y hy => ?_, ?_⟩
 ·
  rw [zg hx] at hy
  rcases znj.1 hy with hy | hy
  . exact h.rng y hy
  . rw [zni] at hy; rw [hy]; exact h0
 ·
  rw [zg hx]
  exact zeb h.asc fun p hp => by
   obtain ⟨h2, h3⟩ := zfN h.le hp
   exact h1 p h2 h3
abbrev zi0 (a : Ac) : Prop := ¬ (a.mode = 0 \/ a.mode = 1) \/ a.budget < 1 \/ 1048576 < a.budget \/ a.spent < 1 \/ a.budget < a.spent
theorem zi1 {a : Ac} (h : zi0 a) : decide (ValidA a) = false := znd fun v => by have h1 := v.mode; have h2 := v.b1; have h3 := v.b2; have h4 := v.s1; have h5 := v.s2; omega
theorem ziF {a : Ac} (h : a.left.length < 1 \/ 4096 < a.left.length) : decide (ValidA a) = false := znd fun v => by have h1 := v.l1; have h2 := v.l2; omega
theorem zhl {a : Ac} {i : Nat} {x : Int} (hx : a.left[i]? = some x) (h : x < 0 \/ 4096 <= x) : decide (ValidA a) = false := znd fun v => by have := v.rng x (zn1 hx); omega
theorem ziG {a : Ac} {i : Nat} {x p : Int} (h0 : 0 < i) (hx : a.left[i]? = some x) (hp : a.left[i - 1]? = some p) (h : x <= p) : decide (ValidA a) = false := znd fun v => by
 obtain ⟨l1, e1⟩ := zne.1 hx
 obtain ⟨l2, e2⟩ := zne.1 hp
 have := List.pairwise_iff_getElem.1 v.asc (i - 1) i l2 l1 (by omega)
 omega
theorem zfO {a : Ac} (h1 : ¬ zi0 a) (h2 : ¬ (a.left.length < 1 \/ 4096 < a.left.length)) (h : AscT a.left a.left.length) : decide (ValidA a) = true := by
 have h3 := h.rng
 have h4 := h.asc
 rw [zn5] at h3 h4
 exact znc ⟨by omega, by omega, by omega, by omega, by omega, by omega, by omega, h3, h4⟩
theorem zaP (a : Ac) (u1 u2 : Value) (D : Nat -> Prop) (W : World) (ha : RAc D W a u1 u2) : Calls Tryz.prog 26 #[.agg #[.int .i64 a.mode, .int .i64 a.budget, .int .i64 a.spent, u1, u2]] W (Ret fun r w' => r = .bool (decide (ValidA a)) /\ Ext W w') := by
 have hl := ha.left
 obtain ⟨al, cl, rfl⟩ := hl.form
 obtain ⟨aq, cq, hq⟩ := ha.asked.form
 subst hq
 have hmx := hl.max
 refine zlq Tryz.func26 O Tryz.ntmps26 O (zlC ?_)
 refine Vs 2 O ?_
 refine V.box 1 O O (fun b1 => ?_)
 refine Vs 5 O ?_
 refine zm6 (σ := Unit) [1] [1] [1] O (fun e u => (34, .bool (decide (zi0 a))) :: e) (fun e u => e) (fun u => True) (fun _ => rfl) (fun _ => rfl) ?_ ?_
 ·
  refine Vs 5 O ?_
  refine zld 8 O (fun k1_ => ?_) (fun k1_ => ?_)
  ·
   refine Vs 5 O ?_
   refine zld 13 O (fun k2_ => ?_) (fun k2_ => ?_)
   ·
    refine Vs 22 O ?_
    refine zjE (()) (Sub.cons (by first | exact yI (by omega) | exact yJ (by omega) | exact yK (by omega)) (zkZ O)) (zl0 O) (trivial) 0 O O
   ·
    refine Vs 5 O ?_
    refine zld 18 O (fun k3_ => ?_) (fun k3_ => ?_)
    ·
     refine Vs 17 O ?_
     refine zjE (()) (Sub.cons (by first | exact yI (by omega) | exact yJ (by omega) | exact yK (by omega)) (zkZ O)) (zl0 O) (trivial) 0 O O
    ·
     refine Vs 5 O ?_
     refine zld 23 O (fun k4_ => ?_) (fun k4_ => ?_)
     ·
      refine Vs 12 O ?_
      refine zjE (()) (Sub.cons (by first | exact yI (by omega) | exact yJ (by omega) | exact yK (by omega)) (zkZ O)) (zl0 O) (trivial) 0 O O
     ·
      refine Vs 5 O ?_
      refine zld 28 O (fun k5_ => ?_) (fun k5_ => ?_)
      ·
       refine Vs 7 O ?_
       refine zjE (()) (Sub.cons (by first | exact yI (by omega) | exact yJ (by omega) | exact yK (by omega)) (zkZ O)) (zl0 O) (trivial) 0 O O
      ·
       refine Vs 7 O ?_
       refine zjE (()) (Sub.cons (by first | exact yI (by omega) | exact yJ (by omega) | exact yK (by omega)) (zkZ O)) (zl0 O) (trivial) 0 O O
  ·
   refine Vs 10 O ?_
   refine zld 18 O (fun k2_ => ?_) (fun k2_ => ?_)
   ·
    refine Vs 17 O ?_
    refine zjE (()) (Sub.cons (by first | exact yI (by omega) | exact yJ (by omega) | exact yK (by omega)) (zkZ O)) (zl0 O) (trivial) 0 O O
   ·
    refine Vs 5 O ?_
    refine zld 23 O (fun k3_ => ?_) (fun k3_ => ?_)
    ·
     refine Vs 12 O ?_
     refine zjE (()) (Sub.cons (by first | exact yI (by omega) | exact yJ (by omega) | exact yK (by omega)) (zkZ O)) (zl0 O) (trivial) 0 O O
    ·
     refine Vs 5 O ?_
     refine zld 28 O (fun k4_ => ?_) (fun k4_ => ?_)
     ·
      refine Vs 7 O ?_
      refine zjE (()) (Sub.cons (by first | exact yI (by omega) | exact yJ (by omega) | exact yK (by omega)) (zkZ O)) (zl0 O) (trivial) 0 O O
     ·
      refine Vs 7 O ?_
      refine zjE (()) (Sub.cons (by first | exact yI (by omega) | exact yJ (by omega) | exact yK (by omega)) (zkZ O)) (zl0 O) (trivial) 0 O O
 rintro u _
 refine Vs 1 O ?_
 refine zjo O (fun c1 => ?_) (fun c1 => ?_)
 ·
  refine Vs 7 O ?_
  refine zjI tr26 O (fun w hI => ⟨_, rfl, by rw [zi1 c1], hI.k0⟩)
 ·
  refine Vs 4 O ?_
  refine zm6 (σ := Unit) [1] [1] [1] O (fun e u => (44, .bool (decide (a.left.length < 1 \/ 4096 < a.left.length))) :: e) (fun e u => e) (fun u => True) (fun _ => rfl) (fun _ => rfl) ?_ ?_
  ·
   refine Vs 6 O ?_
   refine zld 39 O (fun k1_ => ?_) (fun k1_ => ?_)
   ·
    refine Vs 6 O ?_
    refine zjE (()) (Sub.cons (by first | exact yI (by omega) | exact yJ (by omega) | exact yK (by omega)) (zkZ O)) (zl0 O) (trivial) 0 O O
   ·
    refine Vs 6 O ?_
    refine zjE (()) (Sub.cons (by first | exact yI (by omega) | exact yJ (by omega) | exact yK (by omega)) (zkZ O)) (zl0 O) (trivial) 0 O O
  rintro u _
  refine Vs 1 O ?_
  refine zjo O (fun c2 => ?_) (fun c2 => ?_)
  ·
   refine Vs 7 O ?_
   refine zjI tr26 O (fun w hI => ⟨_, rfl, by rw [ziF c2], hI.k0⟩)
  ·
   refine Vs 12 O ?_
   refine zm5 (σ := Nat) [1, 46, 47] [1] [1] O (fun e i => (48, .int .i64 i) :: e) (fun e i => e) (fun i => AscT a.left i) (fun i => a.left.length - i) (0) (zkZ O) (zl0 O) (fun _ => rfl) (fun _ => rfl) (fun _ => rfl) (⟨znf _, by simp, by simp⟩) ?_
   rintro i hA
   have hle := hA.le
   refine Vs 6 O ?_
   refine zjo O (fun hlt => ?_) (fun hlt => ?_)
   ·
    refine Vs 7 O ?_
    obtain ⟨x, he_x, hm_x⟩ := gE_ a.left (i) (by omega)
    obtain ⟨b_x, o_x, c_x, ha_x, _, hc_x, hR_x⟩ := hl.at he_x
    obtain rfl := hR_x
    refine zm1 1000 0 O O hc_x ?_
    refine zlK 1000 tR31 ts3 O ha_x (by omega) (_) (rfl) O ?_
    refine Vs 10 O ?_
    refine zld 55 O (fun b1 => ?_) (fun b1 => ?_)
    ·
     refine Vs 31 O ?_
     refine zjI tr26 O (fun w hI => ⟨_, rfl, by rw [zhl he_x (.inl b1)], hI.k0⟩)
    ·
     refine Vs 4 O ?_
     refine zld 59 O (fun b2 => ?_) (fun b2 => ?_)
     ·
      refine Vs 27 O ?_
      refine zjI tr26 O (fun w hI => ⟨_, rfl, by rw [zhl he_x (.inr b2)], hI.k0⟩)
     ·
      refine Vs 3 O ?_
      refine zld 62 O (fun b3 => ?_) (fun b3 => ?_)
      ·
       obtain ⟨y, he_y, hm_y⟩ := gE_ a.left (i-1) (by omega)
       obtain ⟨b_y, o_y, c_y, ha_y, _, hc_y, hR_y⟩ := hl.at he_y
       obtain rfl := hR_y
       refine zm1 2000 0 O O hc_y ?_
       refine Va 5 O (by omega) ?_
       refine zlK 2000 tR31 ts3 O ha_y (by omega) (i - 1) (by omega) O ?_
       refine Vs 6 O ?_
       refine zjo O (fun b4 => ?_) (fun b4 => ?_)
       ·
        refine Vs 11 O ?_
        refine zjI tr26 O (fun w hI => ⟨_, rfl, by rw [ziG (by omega) he_x he_y b4], hI.k0⟩)
       ·
        refine Va 7 O (by omega) ?_
        refine zjz (i + 1) (zkZ O) (zl0 O) (hA.next he_x (by omega) fun p _ hp => by rw [he_y] at hp; cases hp; omega) (by first | omega | (dsimp only; omega)) 0 O O
      ·
       refine Va 20 O (by omega) ?_
       refine zjz (i + 1) (zkZ O) (zl0 O) (hA.next he_x (by omega) fun p h0 _ => absurd h0 (by omega)) (by first | omega | (dsimp only; omega)) 0 O O
   ·
    obtain rfl : i = a.left.length := by omega
    refine Vs 11 O ?_
    refine zjI tr26 O (fun w hI => ⟨_, rfl, by rw [zfO c1 c2 hA], hI.k0⟩)
theorem zez (p q : Int × List Int) (u v : Value) (D D' : Nat -> Prop) (W : World) (hp : SlR 1 zz D W u p.2) (hq : SlR 1 zz D' W v q.2) : Calls Tryz.prog 115 #[.agg #[.int .i64 p.1, u], .agg #[.int .i64 q.1, v]] W (Ret fun r w' => r = .bool (decide (p = q)) /\ Ext W w') := by
 obtain ⟨a1, c1, rfl⟩ := hp.form
 obtain ⟨a2, c2, rfl⟩ := hq.form
 refine zlr Tryz.func115 O Tryz.ntmps115 O (zlC ?_)
 refine Vs 2 O ?_
 refine V.box 2 O O (fun b2 => ?_)
 refine V.box 3 O O (fun b3 => ?_)
 refine Vs 11 O ?_
 refine zld 10 O (fun e => ?_) (fun e => ?_)
 ·
  refine Vs 4 O ?_
  refine zlT tc18 O (fun w hI => qP p.2 q.2 _ _ D D' w (Tr1 hI.k0 hp) (Tr1 hI.k0 hq)) ?_
  refine Vs 5 O ?_
  refine zjI Tryz.results115 O (fun w hI => ⟨_, rfl, by rw [znr.2]; rw [Prod.ext_iff]; simp [e], hI.k0⟩)
 ·
  refine Vs 10 O ?_
  refine zjI Tryz.results115 O (fun w hI => ⟨_, rfl, by rw [znd (fun h => e (by rw [h]))], hI.k0⟩)
theorem zgY (p q : Int × List Int) (u v : Value) (D D' : Nat -> Prop) (W : World) (hp : SlR 1 zz D W u p.2) (hq : SlR 1 zz D' W v q.2) : Calls Tryz.prog 58 #[.agg #[.int .i64 p.1, u], .agg #[.int .i64 q.1, v]] W (Ret fun r w' => r = .bool (decide (p = q)) /\ Ext W w') := by
 obtain ⟨a1, c1, rfl⟩ := hp.form
 obtain ⟨a2, c2, rfl⟩ := hq.form
 refine zlr Tryz.func58 O Tryz.ntmps58 O (zlC ?_)
 refine Vs 2 O ?_
 refine V.box 2 O O (fun b2 => ?_)
 refine V.box 3 O O (fun b3 => ?_)
 refine Vs 11 O ?_
 refine zld 10 O (fun e => ?_) (fun e => ?_)
 ·
  refine Vs 4 O ?_
  refine zlT tc18 O (fun w hI => qP p.2 q.2 _ _ D D' w (Tr1 hI.k0 hp) (Tr1 hI.k0 hq)) ?_
  refine Vs 5 O ?_
  refine zjI Tryz.results58 O (fun w hI => ⟨_, rfl, by rw [znr.2]; rw [Prod.ext_iff]; simp [e], hI.k0⟩)
 ·
  refine Vs 10 O ?_
  refine zjI Tryz.results58 O (fun w hI => ⟨_, rfl, by rw [znd (fun h => e (by rw [h]))], hI.k0⟩)
theorem zeA (p q : Int × List Int) (u v : Value) (b : Nat) (D D' : Nat -> Prop) (W : World) (hp : SlR 1 zz D W u p.2) (hq : SlR 1 zz D' W v q.2) (hB : Cells W b 0 [.int .i64 q.1, v]) : Calls Tryz.prog 114 #[.agg #[.int .i64 p.1, u], .pointer (some ⟨b, 0, none⟩)] W (Ret fun r w' => r = .bool (decide (p = q)) /\ Ext W w') := by
 obtain ⟨a1, c1, rfl⟩ := hp.form
 obtain ⟨a2, c2, rfl⟩ := hq.form
 refine zlr Tryz.func114 O Tryz.ntmps114 O (zlC ?_)
 refine zm2 900 0 O O (fun h => h) hB ?_
 refine zlJ 1 900 0 O O ?_
 refine Vs 2 O ?_
 refine V.box 2 O O (fun b2 => ?_)
 refine Vs 7 O ?_
 refine zlT Tryz.call115 O (fun w hI => zez p q _ _ D D' w (Tr1 hI.k0 hp) (Tr1 hI.k0 hq)) ?_
 refine Vs 4 O ?_
 refine zjI Tryz.results114 O (fun w hI => ⟨_, rfl, rfl, hI.k0⟩)
theorem zi2 (l : List (Int × List Int)) (q : Int × List Int) : (l.any fun p => decide (p = q)) = decide (q ∈ l) := by
 rw [Bool.eq_iff_iff, decide_eq_true_iff, List.any_eq_true]
 constructor
 ·
  rintro ⟨x, hx, h⟩
  rw [<- of_decide_eq_true h]; exact hx
 . exact fun h => ⟨q, h, by simp⟩
theorem zcU (a : Ac) (q : Int × List Int) (u1 u2 v : Value) (m b s : Int) (D D' : Nat -> Prop) (W : World) (ha : RAc D W a u1 u2) (hq : SlR 1 zz D' W v q.2) : Calls Tryz.prog 83 #[.agg #[.int .i64 m, .int .i64 b, .int .i64 s, u1, u2], .agg #[.int .i64 q.1, v]] W (Ret fun r w' => r = .bool (decide (q ∈ a.asked)) /\ Ext W w') := by
 obtain ⟨a1, c1, rfl⟩ := hq.form
 obtain ⟨a2, c2, h2⟩ := ha.left.form
 obtain ⟨a3, c3, h3⟩ := ha.asked.form
 subst h2 h3
 refine zlr Tryz.func83 O Tryz.ntmps83 O (zlC ?_)
 refine Vs 2 O ?_
 refine V.box 2 O O (fun b2 => ?_)
 refine V.box 3 O O (fun b3 => ?_)
 refine Vs 8 O ?_
 refine zlT Tryz.call84 O (fun w hI => zgP (fun p => decide (p = q)) a.asked _ D _ _ w Tryz.call114 (Tr1 hI.k0 ha.asked) (fun x u w' hE _ hd => zeA x q u _ b3 D D' w' hd (Tr1 ((hI.k0).trans hE (fun _ _ h => h)) hq) (hE.cells (Blk.cells (hI.at 3 O)) (fun h => h)))) ?_
 refine Vs 4 O ?_
 refine zjI Tryz.results83 O (fun w hI => ⟨_, rfl, by rw [zi2], hI.k0⟩)
theorem zgZ (a b : Ac) (u1 u2 v1 v2 : Value) (D D' : Nat -> Prop) (W : World) (ha : RAc D W a u1 u2) (hb : RAc D' W b v1 v2) : Calls Tryz.prog 27 #[.agg #[.int .i64 a.mode, .int .i64 a.budget, .int .i64 a.spent, u1, u2], .agg #[.int .i64 b.mode, .int .i64 b.budget, .int .i64 b.spent, v1, v2]] W (Ret fun r w' => r = .bool (decide (a = b)) /\ Ext W w') := by
 obtain ⟨a2, c2, h2⟩ := ha.left.form
 obtain ⟨a3, c3, h3⟩ := ha.asked.form
 obtain ⟨a4, c4, h4⟩ := hb.left.form
 obtain ⟨a5, c5, h5⟩ := hb.asked.form
 subst h2 h3 h4 h5
 have hne : ∀ {p : Prop}, (a = b -> p) -> ¬ p -> decide (a = b) = false := fun h h' => znd (fun e => h' (h e))
 refine zlr Tryz.func27 O Tryz.ntmps27 O (zlC ?_)
 refine Vs 2 O ?_
 refine V.box 2 O O (fun b2 => ?_)
 refine V.box 3 O O (fun b3 => ?_)
 refine Vs 11 O ?_
 refine zld 10 O (fun e1 => ?_) (fun e1 => ?_)
 ·
  refine Vs 7 O ?_
  refine zld 17 O (fun e2 => ?_) (fun e2 => ?_)
  ·
   refine Vs 7 O ?_
   refine zld 24 O (fun e3 => ?_) (fun e3 => ?_)
   ·
    refine Vs 4 O ?_
    refine zlT tc18 O (fun w hI => qP a.left b.left _ _ D D' w (Tr1 hI.k0 ha.left) (Tr1 hI.k0 hb.left)) ?_
    refine Vs 2 O ?_
    refine zld 31 O (fun e4 => ?_) (fun e4 => ?_)
    ·
     refine Vs 4 O ?_
     refine zlT Tryz.call57 O (fun w hI => zgS a.asked b.asked _ _ D D' _ w Tryz.call58 (Tr1 hI.k0 ha.asked) (Tr1 hI.k0 hb.asked) (fun x y u u2 w' h1 h2 => zgY x y u u2 D D' w' h1 h2)) ?_
     refine Vs 5 O ?_
     refine zjI tr27 O (fun w hI => ⟨_, rfl, by rw [znr.2]; rw [Ac.ext_iff]; simp [e1, e2, e3, e4], hI.k0⟩)
    ·
     refine Vs 10 O ?_
     refine zjI tr27 O (fun w hI => ⟨_, rfl, by rw [hne (congrArg Ac.left) e4], hI.k0⟩)
   ·
    refine Vs 17 O ?_
    refine zjI tr27 O (fun w hI => ⟨_, rfl, by rw [hne (congrArg Ac.spent) e3], hI.k0⟩)
  ·
   refine Vs 24 O ?_
   refine zjI tr27 O (fun w hI => ⟨_, rfl, by rw [hne (congrArg Ac.budget) e2], hI.k0⟩)
 ·
  refine Vs 31 O ?_
  refine zjI tr27 O (fun w hI => ⟨_, rfl, by rw [hne (congrArg Ac.mode) e1], hI.k0⟩)
theorem zaQ (q : Int × List Int) (hlen : q.2.length <= 17592186044416) (v : Value) (D : Nat -> Prop) (W : World) (hq : SlR 1 zz D W v q.2) : Calls Tryz.prog 69 #[.agg #[.int .i64 q.1, v]] W (Ret fun r w' => (∃ u, r = .agg #[.int .i64 q.1, u] /\ SlR 1 zz (fun b => W.heap.size <= b) w' u q.2) /\ Ext W w') := by
 obtain ⟨a1, c1, rfl⟩ := hq.form
 refine zlq Tryz.func69 O Tryz.ntmps69 O (zlC ?_)
 refine Vs 2 O ?_
 refine V.box 1 O O (fun b1 => ?_)
 refine V.alloc 2 tz33 O O (fun b2 => ?_)
 refine Vs 3 O ?_
 refine Vw [1, 2] [6] O ?_
 refine Vd [0, 1, 2, 3] 0 (by kernel_rfl) O O O ?_
 refine zlW 4 0 Tryz.call68 O (by kernel_rfl) O O (fun w hI => zaO q.2 hlen _ D w (Tr1 hI.k0 hq)) ?_
 rintro u w1 w2 hI1 hk12 hu hlow
 obtain ⟨au, cu, rfl⟩ := hu.form
 have e1 : W.heap.size <= w1.heap.size := hI1.k0.size
 refine zmf 5 [Value.int IntKind.i64 0, Value.slice none 0 0] [(0, 1), (1, 1)] [(0, _), (1, _)] O (by kernel_rfl) O O (fun _ => by kernel_rfl) ?_
 refine Vl 6 O (by kernel_rfl) O ?_
 refine VDx.done (by kernel_rfl) ?_
 refine Vs 2 O ?_
 refine V.dat 900 0 O O O (hu) (fun b hb _ hs => by have := hlow b hs; omega) ?_
 refine zjQ Tryz.results69 Tryz.isAgg33 ts33 O O O (fun w hI => ⟨_, rfl, ⟨_, rfl, (hI.at 900 O).1.wide zb (fun b hb => by omega)⟩, hI.k1⟩)
theorem zfP {ps : List Fl} {k : Nat} {f : Fl} (h : ps[k]? = some f) : zcH ps (k : Int) = some f := by
 unfold zcH
 rw [zna (by omega), znl]; exact h
theorem zec {ps : List Fl} {i : Int} (h : i < 0 \/ (ps.length : Int) <= i) : zcH ps i = none := by
 unfold zcH
 split
 . rfl
 . exact znn (by omega)
theorem zeB {a : Ac} {ps : List Fl} {q : Qu} (h : ¬ ValidA a) : xC a ps q = 1 := znb h
theorem zeC {a : Ac} {ps : List Fl} {q : Qu} (h : ValidA a) (hq : q.1 < 0 \/ (ps.length : Int) <= q.1) : xC a ps q = 3 := by
 unfold xC
 rw [zna (znm h), zec hq]
theorem zfQ {a : Ac} {ps : List Fl} {k : Nat} {f : Fl} {pub : List Int} (h : ValidA a) (hk : ps[k]? = some f) : xC a ps ((k : Int), pub) = qPC f a pub := by
 unfold xC
 rw [zna (znm h)]
 simp only [zfP hk]
theorem zdv (a : Ac) (ps : List Fl) (hz : ∀ f ∈ ps, SzOk f) (q : Qu) (u1 u2 pv qv : Value) (D D1 D2 : Nat -> Prop) (W : World) (ha : RAc D W a u1 u2) (hps : SlR 3 RPg D1 W pv ps) (hq : SlR 1 zz D2 W qv q.2) :
  Calls Tryz.prog 45 #[.agg #[.int .i64 a.mode, .int .i64 a.budget, .int .i64 a.spent, u1, u2], pv, .agg #[.int .i64 q.1, qv]] W (Ret fun r w' => r = .int .i64 (xC a ps q) /\ Ext W w') := by
 obtain ⟨qp, pub⟩ := q
 dsimp only at hq
 obtain ⟨a1, c1, h1⟩ := ha.left.form
 obtain ⟨a2, c2, h2⟩ := ha.asked.form
 subst h1 h2
 obtain ⟨ap, cp, rfl⟩ := hps.form
 obtain ⟨aq, cq, rfl⟩ := hq.form
 have hmp := hps.max
 refine zls Tryz.func45 O Tryz.ntmps45 O (zlC ?_)
 refine Vs 2 O ?_
 refine V.box 3 O O (fun b3 => ?_)
 refine V.box 5 O O (fun b5 => ?_)
 refine Vs 7 O ?_
 refine zlT Tryz.call26 O (fun w hI => zaP a _ _ D w (Tr1 hI.k0 ha)) ?_
 refine zlh O (fun w hI => zkJ O (by first | exact za | rfl)) ?_
 refine Vs 2 O ?_
 refine zjo O (fun v0 => ?_) (fun v0 => ?_)
 ·
  refine Vs 7 O ?_
  refine zjI tr45 O (fun w hI => ⟨_, rfl, by rw [zeB v0], hI.k0⟩)
 ·
  have v0 := zn9.1 v0
  refine Vs 4 O ?_
  refine zm6 (σ := Unit) [1, 3, 5] [3, 5] [3, 5] O (fun e u => (21, .bool (decide (qp < 0 \/ (ps.length : Int) <= qp))) :: e) (fun e u => e) (fun u => True) (fun _ => rfl) (fun _ => rfl) ?_ ?_
  ·
   refine Vs 5 O ?_
   refine zld 15 O (fun k1_ => ?_) (fun k1_ => ?_)
   ·
    refine Vs 7 O ?_
    refine zjE (()) (Sub.cons (by first | exact yI (by omega) | exact yJ (by omega) | exact yK (by omega)) (zkZ O)) (zl0 O) (trivial) 0 O O
   ·
    refine Vs 7 O ?_
    refine zjE (()) (Sub.cons (by first | exact yI (by omega) | exact yJ (by omega) | exact yK (by omega)) (zkZ O)) (zl0 O) (trivial) 0 O O
  rintro u _
  refine Vs 1 O ?_
  refine zjo O (fun q0 => ?_) (fun q0 => ?_)
  ·
   refine Vs 7 O ?_
   refine zjI tr45 O (fun w hI => ⟨_, rfl, by rw [zeC v0 q0], hI.k0⟩)
  ·
   obtain ⟨k, rfl⟩ : ∃ k : Nat, qp = (k : Int) := ⟨qp.toNat, by omega⟩
   refine Vs 7 O ?_
   obtain ⟨f, he_f, hm_f⟩ := gE_ ps (k) (by omega)
   obtain ⟨b_f, o_f, c_f, ha_f, _, hc_f, hR_f⟩ := hps.at he_f
   obtain ⟨v1_f, v2_f, v3_f, rfl, hf_f⟩ := hR_f
   obtain ⟨a1_f, n1_f, rfl⟩ := hf_f.vars.form
   obtain ⟨a2_f, n2_f, rfl⟩ := hf_f.hatches.form
   obtain ⟨a3_f, n3_f, rfl⟩ := hf_f.body.form
   refine zm1 1000 0 O O hc_f ?_
   refine zlK 1000 tR23 ts56 O ha_f (by omega) (_) (rfl) O ?_
   have hzf := hz f hm_f
   rw [zfQ v0 he_f]
   refine Vs 1 O ?_
   refine V.alloc 7 tz56 O O (fun b7 => ?_)
   refine Vs 9 O ?_
   refine zlT Tryz.call64 O (fun w hI => zcT f hzf pub _ _ _ _ D1 D2 w (Tr1 hI.k0 hf_f) (Tr1 hI.k0 hq)) ?_
   refine Vs 9 O ?_
   refine zjo O (fun p0 => ?_) (fun p0 => ?_)
   ·
    refine Vs 8 O ?_
    refine zjI tr45 O (fun w hI => ⟨_, rfl, by unfold qPC; rw [znb p0], hI.k0⟩)
   ·
    have p0 := zn9.1 p0
    have vd := (zaM hzf (zfL p0).1).1
    refine Vs 8 O ?_
    refine zlT Tryz.call65 O (fun w hI => zaN f vd a.left _ _ _ _ D1 D w (Tr1 hI.k0 hf_f) (Tr1 hI.k0 ha.left)) ?_
    refine zlh O (fun w hI => zkJ O (by first | exact za | rfl)) ?_
    refine Vs 2 O ?_
    refine zjo O (fun i0 => ?_) (fun i0 => ?_)
    ·
     refine Vs 7 O ?_
     refine zjI tr45 O (fun w hI => ⟨_, rfl, by unfold qPC; rw [zna (znm p0), zna i0], hI.k0⟩)
    ·
     refine Vs 8 O ?_
     refine zjI tr45 O (fun w hI => ⟨_, rfl, by unfold qPC; rw [zna (znm p0), znb (zn9.1 i0)], hI.k0⟩)
theorem zbU (f : Fl) : (ko f).length = spN f := by simp [ko]
theorem zaR (a : Ac) (hla : a.left.length <= 5000) (f : Fl) (vd : Valid f) (q : Qu) (u1 u2 v1 v2 v3 qv : Value) (D D1 D2 : Nat -> Prop) (W : World) (ha : RAc D W a u1 u2) (hf : RFl D1 W f v1 v2 v3) (hq : SlR 1 zz D2 W qv q.2) (ht : Tab W) :
  Calls Tryz.prog 46 #[.agg #[.int .i64 a.mode, .int .i64 a.budget, .int .i64 a.spent, u1, u2], .agg #[v1, v2, v3], .agg #[.int .i64 q.1, qv]] W (Ret fun r w' => r = .int .i64 (zK a f q) /\ Ext W w') := by
 obtain ⟨a1, c1, h1⟩ := ha.left.form
 obtain ⟨a2, c2, h2⟩ := ha.asked.form
 subst h1 h2
 obtain ⟨aq, cq, rfl⟩ := hq.form
 have hsp := ze7 vd
 have hal := zbU f
 refine zls Tryz.func46 O Tryz.ntmps46 O (zlC ?_)
 refine Vs 2 O ?_
 refine V.box 3 O O (fun b3 => ?_)
 refine V.box 4 O O (fun b4 => ?_)
 refine V.box 5 O O (fun b5 => ?_)
 refine Vs 11 O ?_
 refine zjo O (fun m0 => ?_) (fun m0 => ?_)
 ·
  refine Vs 7 O ?_
  refine zlV Tryz.call51 O (fun w hI => qj f vd q.2 a.left v1 v2 v3 _ _ D1 D2 D w hla (Tr1 hI.k0 hf) (Tr1 hI.k0 hq) (Tr1 hI.k0 ha.left) (Tr1 hI.k0 ht)) ?_
  rintro r2 w3 w4 hI3 hk34 hobs hlow2
  obtain ⟨ao, co, rfl⟩ := hobs.form
  refine Vs 6 O ?_
  refine zjI Tryz.results46 O (fun w hI => ⟨_, rfl, by unfold zK; rw [znb m0], hI.k1⟩)
 ·
  refine Vs 7 O ?_
  refine zlT Tryz.call83 O (fun w hI => zcU a q _ _ _ _ _ _ D D2 w (Tr1 hI.k0 ha) (Tr1 hI.k0 hq)) ?_
  refine Vs 2 O ?_
  refine zjo O (fun b0 => ?_) (fun b0 => ?_)
  ·
   refine Vs 7 O ?_
   refine zjI Tryz.results46 O (fun w hI => ⟨_, rfl, by unfold zK; rw [zna m0, znb b0], hI.k0⟩)
  ·
   refine Vs 3 O ?_
   refine Vw [3, 4, 5] [] O ?_
   refine Vd [0, 1, 2, 3] 0 (by kernel_rfl) O O O ?_
   refine zlW 4 0 Tryz.call52 O (by kernel_rfl) O O (fun w hI => zfE f vd v1 v2 v3 D1 w (Tr1 hI.k0 hf)) ?_
   rintro r1 w1 w2 hI1 hk12 hall hlow
   obtain ⟨al, cl, rfl⟩ := hall.form
   refine zlW 5 1 Tryz.call51 O (by kernel_rfl) O O (fun w hI => qj f vd q.2 (ko f) v1 v2 v3 _ _ D1 D2 _ w (by omega) (Tr1 hI.k1 hf) (Tr1 hI.k1 hq) (hall.keep zb hI.k0 (fun b hb _ hs => by have := hlow b hs; omega)) (Tr1 hI.k1 ht)) ?_
   rintro r2 w3 w4 hI3 hk34 hobs hlow2
   obtain ⟨ao, co, rfl⟩ := hobs.form
   refine Vd [6, 7] 2 (by kernel_rfl) O O O ?_
   refine VD.done (by kernel_rfl) ?_
   refine Vs 2 O ?_
   refine zjI Tryz.results46 O (fun w hI => ⟨_, rfl, by unfold zK; rw [zna m0, zna b0], hI.k2⟩)
structure Rc where
 x0 : Int
 x1 : Int
 x2 : Int
 x3 : Int
 x4 : Int
 prog : Int
 pub : Int
 ans : Int
 charge : Int
def RRc : Rel Rc := fun _ _ r cs => cs = [.int .i64 r.x0, .int .i64 r.x1, .int .i64 r.x2, .int .i64 r.x3, .int .i64 r.x4, .int .i64 r.prog, .int .i64 r.pub, .int .i64 r.ans, .int .i64 r.charge]
theorem zcV : zX RRc := fun _ _ _ _ _ _ _ _ h => h
theorem zfR : xG RRc := fun _ _ _ _ h => h
instance : StC RRc := ⟨zcV⟩
instance : Dt RRc := ⟨zcV, zfR⟩
def kq (f : Fl) (r : Rc) : Qu := (r.prog, (zD (zd 2 f.vars) r.pub).1)
def zii (l : List Ob) (i : Int) : Option Ob := if i < 0 then none else l[i.toNat]?
def qS (a : Ac) (f : Fl) (r : Rc) : Ac × Int :=
 if za0 f ≠ 0 then (ac0, za0 f)
 else if zl 2 f.vars r.pub ≠ 0 then (ac0, 3)
 else if ¬ xe f a.left then (ac0, 2)
 else if r.charge ≠ zK a f (kq f r) \/ a.budget.tdiv a.spent < zK a f (kq f r) then (ac0, 13)
 else match zii (ze2 f (kq f r).2 (ko f)) r.ans with
  | none => (ac0, 2)
  | some o => if yF f (kq f r).2 o a.left = [] then (ac0, 2) else (zaZ a f (kq f r) r.charge o, 0)
def kr (a : Ac) (ps : List Fl) (r : Rc) : Ac × Int := match zcH ps r.prog with
 | none => (ac0, 3)
 | some f => qS a f r
def yG (ps : List Fl) : Ac -> List Rc -> Ac × Int
 | a, [] => (a, 0)
 | a, r :: rs => if r.charge = 0 then yG ps a rs else if (kr a ps r).2 ≠ 0 then (ac0, (kr a ps r).2) else yG ps (kr a ps r).1 rs
def jo (a : Ac) (ps : List Fl) (rs : List Rc) : Ac × Int := if ¬ ValidA a then (ac0, 1) else yG ps a rs
theorem zcW {f : Fl} (h : zS f = 0) : (zk 2 f.vars).isSome = true := by
 have h1 := (yr h).2.1
 unfold zv at h1
 split at h1
 . rename_i h2; exact absurd h1 h2
 ·
  split at h1
  . cases h1
  ·
   rename_i h2
   unfold yM at h2
   cases h3 : zk 2 f.vars with
   | none => exact absurd (by rw [h3]; simp) h2
   | some _ => rfl
theorem zi3 {f : Fl} (hv : zS f = 0) {n : Int} (h : zl 2 f.vars n ≠ 0) : zl 2 f.vars n = 3 := by
 have hs : (zk 2 f.vars).isSome = true := zcW hv
 unfold zl at h ⊢
 rw [znb hs] at h ⊢
 split at h
 . rename_i h1; rw [znb h1]
 . exact absurd O h
theorem zfS {ps : List Fl} {k : Nat} {f : Fl} (h : ps[k]? = some f) {a : Ac} {r : Rc} (hr : r.prog = (k : Int)) : kr a ps r = qS a f r := by
 unfold kr
 rw [hr, zfP h]
theorem zh0 {ps : List Fl} {a : Ac} {r : Rc} (h : r.prog < 0 \/ (ps.length : Int) <= r.prog) : kr a ps r = (ac0, 3) := by
 unfold kr
 rw [zec h]
theorem zfT {l : List Ob} {k : Nat} {o : Ob} (h : l[k]? = some o) : zii l (k : Int) = some o := by
 unfold zii
 rw [zna (by omega), znl, h]
theorem zh1 {l : List Ob} {i : Int} (h : i < 0 \/ (l.length : Int) <= i) : zii l i = none := by
 unfold zii
 split
 . rfl
 . rw [List.getElem?_eq_none_iff]; omega
theorem zfU {a : Ac} {f : Fl} {r : Rc} (h : za0 f ≠ 0) : qS a f r = (ac0, za0 f) := znb h
theorem zi4 {a : Ac} {f : Fl} {r : Rc} (h : za0 f = 0) (h1 : zl 2 f.vars r.pub ≠ 0) : qS a f r = (ac0, 3) := by unfold qS; rw [zna (znm h), znb h1]
theorem zi5 {a : Ac} {f : Fl} {r : Rc} (h : za0 f = 0) (h1 : zl 2 f.vars r.pub = 0) (h2 : ¬ xe f a.left) : qS a f r = (ac0, 2) := by unfold qS; rw [zna (znm h), zna (znm h1), znb h2]
theorem zi6 {a : Ac} {f : Fl} {r : Rc} (h : za0 f = 0) (h1 : zl 2 f.vars r.pub = 0) (h2 : xe f a.left) (h3 : r.charge ≠ zK a f (kq f r) \/ a.budget.tdiv a.spent < zK a f (kq f r)) : qS a f r = (ac0, 13) := by unfold qS; rw [zna (znm h), zna (znm h1), zna (znm h2), znb h3]
theorem zh2 {a : Ac} {f : Fl} {r : Rc} (h : za0 f = 0) (h1 : zl 2 f.vars r.pub = 0) (h2 : xe f a.left) (h3 : ¬ (r.charge ≠ zK a f (kq f r) \/ a.budget.tdiv a.spent < zK a f (kq f r))) (h4 : r.ans < 0 \/ ((ze2 f (kq f r).2 (ko f)).length : Int) <= r.ans) : qS a f r = (ac0, 2) := by
 unfold qS
 rw [zna (znm h), zna (znm h1), zna (znm h2), zna h3, zh1 h4]
theorem zi7 {a : Ac} {f : Fl} {r : Rc} {o : Ob} {k : Nat} (h : za0 f = 0) (h1 : zl 2 f.vars r.pub = 0) (h2 : xe f a.left) (h3 : ¬ (r.charge ≠ zK a f (kq f r) \/ a.budget.tdiv a.spent < zK a f (kq f r))) (hk : r.ans = (k : Int)) (ho : (ze2 f (kq f r).2 (ko f))[k]? = some o) (h4 : yF f (kq f r).2 o a.left = []) : qS a f r = (ac0, 2) := by
 unfold qS
 rw [zna (znm h), zna (znm h1), zna (znm h2), zna h3, hk, zfT ho]
 simp only
 rw [znb h4]
theorem zh3 {a : Ac} {f : Fl} {r : Rc} {o : Ob} {k : Nat} (h : za0 f = 0) (h1 : zl 2 f.vars r.pub = 0) (h2 : xe f a.left) (h3 : ¬ (r.charge ≠ zK a f (kq f r) \/ a.budget.tdiv a.spent < zK a f (kq f r))) (hk : r.ans = (k : Int)) (ho : (ze2 f (kq f r).2 (ko f))[k]? = some o) (h4 : yF f (kq f r).2 o a.left ≠ []) : qS a f r = (zaZ a f (kq f r) r.charge o, 0) := by
 unfold qS
 rw [zna (znm h), zna (znm h1), zna (znm h2), zna h3, hk, zfT ho]
 simp only
 rw [zna h4]
theorem zfV {a : Ac} {f : Fl} {q : Qu} {o : Ob} (hv : ValidA a) (hi : xe f a.left) (hp : zK a f q <= a.budget.tdiv a.spent) (hl : yF f q.2 o a.left ≠ []) : ValidA (zaZ a f q (zK a f q) o) := by
 obtain ⟨s, hs⟩ := List.exists_mem_of_ne_nil _ hl
 have h1 := List.mem_filter.1 hs
 have h2 := of_decide_eq_true h1.2
 exact h2 ▸ hv.ans h1.1 hi hp
theorem ziH {a : Ac} {ps : List Fl} {r : Rc} (hz : ∀ f ∈ ps, SzOk f) (hv : ValidA a) (h : (kr a ps r).2 = 0) : ValidA (kr a ps r).1 /\ (kr a ps r).1.asked.length <= a.asked.length + 1 /\ ∀ p ∈ (kr a ps r).1.asked, p ∈ a.asked \/ p.2.length <= 1000000 := by
 unfold kr at h ⊢
 cases hg : zcH ps r.prog with
 | none => rw [hg] at h; cases h
 | some f =>
  rw [hg] at h
  simp only at h ⊢
  have hf : f ∈ ps := by
   unfold zcH at hg
   split at hg
   . cases hg
   . exact zn1 hg
  unfold qS at h ⊢
  by_cases h1 : za0 f = 0
  ·
   obtain ⟨vd, _⟩ := zaM (hz f hf) h1
   rw [zna (znm h1)] at h ⊢
   split at h
   . cases h
   ·
    rename_i h2
    rw [zna h2]
    split at h
    . cases h
    ·
     rename_i h3
     rw [zna h3]
     split at h
     . cases h
     ·
      rename_i h4
      rw [zna h4]
      cases ho : zii (ze2 f (kq f r).2 (ko f)) r.ans with
      | none => rw [ho] at h; cases h
      | some o =>
       rw [ho] at h
       simp only at h ⊢
       split at h
       . cases h
       ·
        rename_i h5
        rw [zna h5]
        have hc : r.charge = zK a f (kq f r) := by omega
        refine ⟨?_, ?_, fun p hp => ?_⟩
        . rw [hc]; exact zfV hv (zn9.1 h3) (by omega) h5
        ·
         show (if kq f r ∈ a.asked then a.asked else a.asked ++ [kq f r]).length <= _
         split
         . omega
         . simp
        ·
         have hp : p ∈ (if kq f r ∈ a.asked then a.asked else a.asked ++ [kq f r]) := hp
         split at hp
         . exact .inl hp
         ·
          rcases znj.1 hp with hp | hp
          . exact .inl hp
          ·
           rw [zni.1 hp]
           refine .inr ?_
           have := xB (zd 2 f.vars) r.pub
           have := yA 2 f.vars
           have := vd.lens
           show (zD (zd 2 f.vars) r.pub).1.length <= _
           omega
  . rw [znb h1] at h; exact absurd h h1
theorem zdw {ps : List Fl} {a : Ac} {rs : List Rc} {i : Nat} {r : Rc} (hr : rs[i]? = some r) (h : r.charge = 0) : yG ps a (rs.drop i) = yG ps a (rs.drop (i + 1)) := by
 rw [qg hr, yG, znb h]
theorem zeD {ps : List Fl} {a : Ac} {rs : List Rc} {i : Nat} {r : Rc} (hr : rs[i]? = some r) (h : r.charge ≠ 0) (h1 : (kr a ps r).2 ≠ 0) : yG ps a (rs.drop i) = (ac0, (kr a ps r).2) := by
 rw [qg hr, yG, zna h, znb h1]
theorem zdx {ps : List Fl} {a : Ac} {rs : List Rc} {i : Nat} {r : Rc} (hr : rs[i]? = some r) (h : r.charge ≠ 0) (h1 : (kr a ps r).2 = 0) : yG ps a (rs.drop i) = yG ps (kr a ps r).1 (rs.drop (i + 1)) := by
 rw [qg hr, yG, zna h, zna (znm h1)]
structure RpIn (ps : List Fl) (a : Ac) (rs : List Rc) (i : Nat) (b : Ac) : Prop where
 le : i <= rs.length
 ok : ValidA b
 al : b.asked.length <= a.asked.length + i
 ql : ∀ p ∈ b.asked, p.2.length <= 17592186044416
 eq : yG ps b (rs.drop i) = yG ps a rs
theorem zkB {ps : List Fl} {a : Ac} {rs : List Rc} (hv : ValidA a) (hq : ∀ p ∈ a.asked, p.2.length <= 17592186044416) : RpIn ps a rs 0 a := ⟨znf _, hv, by omega, hq, rfl⟩
theorem RpIn.skip {ps : List Fl} {a b : Ac} {rs : List Rc} {i : Nat} {r : Rc} (h : RpIn ps a rs i b) (hr : rs[i]? = some r) (h1 : r.charge = 0) : RpIn ps a rs (i + 1) b := ⟨(zne.1 hr).1, h.ok, by have := h.al; omega, h.ql, by rw [<- zdw hr h1]; exact h.eq⟩
theorem RpIn.next {ps : List Fl} {a b : Ac} {rs : List Rc} {i : Nat} {r : Rc} (hz : ∀ f ∈ ps, SzOk f) (h : RpIn ps a rs i b) (hr : rs[i]? = some r) (h1 : r.charge ≠ 0) (h2 : (kr b ps r).2 = 0) : RpIn ps a rs (i + 1) (kr b ps r).1 := by
 obtain ⟨g1, g2, g3⟩ := ziH hz h.ok h2
 exact ⟨(zne.1 hr).1, g1, by have := h.al; omega, fun p hp => (g3 p hp).elim (h.ql p) (fun h => by omega), by rw [<- zdx hr h1 h2]; exact h.eq⟩
theorem RpIn.bad {ps : List Fl} {a b : Ac} {rs : List Rc} {i : Nat} {r : Rc} (h : RpIn ps a rs i b) (hr : rs[i]? = some r) (h1 : r.charge ≠ 0) (h2 : (kr b ps r).2 ≠ 0) : yG ps a rs = (ac0, (kr b ps r).2) := by
 rw [<- h.eq]; exact zeD hr h1 h2
theorem RpIn.done {ps : List Fl} {a b : Ac} {rs : List Rc} (h : RpIn ps a rs rs.length b) : yG ps a rs = (b, 0) := by
 rw [<- h.eq, List.drop_length]; rfl
theorem zdy {ps : List Fl} {a : Ac} {rs : List Rc} (h : ¬ ValidA a) : jo a ps rs = (ac0, 1) := znb h
theorem zeE {ps : List Fl} {a : Ac} {rs : List Rc} (h : ValidA a) : jo a ps rs = yG ps a rs := zna (znm h)
end Go.Proofs.YtbkhagigkglgoaaGreatDoor
