/-
  Contracts and the mathematics that the proof needs. Nothing here is a claim.
-/
import Derived.Test.YtaenledoagbddaaGreatDoorKU3
namespace Go.Proofs.YtaenledoagbddaaGreatDoor
open Go.GL
def LeftOk (D : Nat -> Prop) (W : World) (r : Ins) (s : StS) (q : Int -> Value) : Prop := ∀ k, 1 <= k -> k <= 3 -> SlR 1 zt D W (q k) ((xT r k).drop (kS s k))
theorem kX {w : World} {b : Nat} {z : Value} {q : Int -> Value} {e : TypeId} {k : Int} (h : Blk w b [z, q 1, q 2, q 3] e) (hk : 1 <= k /\ k <= 3) : w.cell? ⟨b, 0 + k.toNat * 1, none⟩ = some (q k) := by
 have h1 := Blk.cells h 1 _ rfl
 have h2 := Blk.cells h 2 _ rfl
 have h3 := Blk.cells h 3 _ rfl
 rcases (show k = 1 \/ k = 2 \/ k = 3 by omega) with rfl | rfl | rfl
 . exact h1
 . exact h2
 . exact h3
theorem zgc {z u : Value} {q : Int -> Value} {k : Int} (hk : 1 <= k /\ k <= 3) : [z, q 1, q 2, q 3].set k.toNat u = [z, (if 1 = k then u else q 1), (if 2 = k then u else q 2), (if 3 = k then u else q 3)] := by
 rcases (show k = 1 \/ k = 2 \/ k = 3 by omega) with rfl | rfl | rfl <;> rfl
theorem zbV {prev : List Vr} {v : Vr} (h : zS prev v = 0) (hk : v.kind = 0) : v.low <= v.init /\ v.init <= v.high := by
 unfold zS at h
 split at h
 . cases h
 split at h
 . cases h
 split at h
 . cases h
 split at h
 . cases h
 split at h
 . cases h
 ·
  rename_i h5
  omega
theorem zeK {r : Ins} {s : StS} {x : Vr} (h : x.kind = 0) : zm r (some s) x = some ⟨s.vals ++ [x.init], s.a, s.b, s.c⟩ := by simp [zm, h]
theorem zgd {r : Ins} {s : StS} {k : Int} (_ : 1 <= k /\ k <= 3) {l : List Int} (hl : (xT r k).drop (kS s k) = l) : (xT r k)[kS s k]? = l[0]? := by
 rw [<- hl, List.getElem?_drop, Nat.add_zero]
theorem zdI {f : Fl} {r : Ins} {i : Nat} {x : Vr} {s s1 : StS} (he : f.vars[i]? = some x) (hs : (f.vars.take i).foldl (zm r) (some ⟨[], 0, 0, 0⟩) = some s) (h1 : zm r (some s) x = some s1) : (f.vars.take (i + 1)).foldl (zm r) (some ⟨[], 0, 0, 0⟩) = some s1 := by
 rw [zh he, List.foldl_append, hs]; exact h1
theorem Valid.varAt0 {f : Fl} (V : Valid f) {i : Nat} {x : Vr} (he : f.vars[i]? = some x) : zS (f.vars.take i) x = 0 := by
 have h := V.ok
 unfold yi at h
 split at h
 . cases h
 split at h
 . rename_i h2; exact absurd h h2
 ·
  rename_i h2
  have h := znm.1 h2
  unfold zx at h
  split at h
  . rename_i h2; exact absurd h h2
  ·
   rename_i h2
   rw [<- zaR he]
   exact yH f.vars.length 0 (by simpa using h2) i (zns _) (by have := (znr.1 he).1; omega)
theorem LeftOk.next {D : Nat -> Prop} {W : World} {r : Ins} {s : StS} {q : Int -> Value} {k y : Int} {aq : Option Addr} {cq : Nat} {rest : List Int} (hL : LeftOk D W r s q) (hk : 1 <= k /\ k <= 3) (hr : rest = (xT r k).drop (kS s k)) (hq : SlR 1 zt D W (.slice aq rest.length cq) rest) (h1 : 1 <= rest.length) : LeftOk D W r (jT s k y) (fun j => if j = k then .slice (if cq = 1 then aq else aq.map (·.add (1 * 1))) (rest.length - 1) (cq - 1) else q j) := by
 intro j hj1 hj3
 have hc := zbQ s hk ⟨hj1, hj3⟩ y
 dsimp only
 by_cases e : j = k
 ·
  subst e
  rw [zno rfl] at hc
  rw [zno rfl, hc]
  have := hq.drop 1 h1
  rw [hr, List.drop_drop] at this
  rwa [<- hr] at this
 ·
  rw [znn e] at hc
  rw [znn e, hc]
  exact hL j hj1 hj3
theorem zb1 {r : Ins} {s : StS} {x : Vr} {y : Int} (h : 1 <= x.kind /\ x.kind <= 3) (hy : (xT r x.kind)[kS s x.kind]? = some y) : zm r (some s) x = some (jT s x.kind y) := by
 simp only [zm, Option.bind_some]
 rw [znn (by omega), hy]; rfl
theorem zeL {r : Ins} {s : StS} {x : Vr} (h : 1 <= x.kind /\ x.kind <= 3) (hy : (xT r x.kind)[kS s x.kind]? = none) : zm r (some s) x = none := by
 simp only [zm, Option.bind_some]
 rw [znn (by omega), hy]; rfl
theorem zim {x : Vr} {y : Int} (h : ¬ y < x.low) : decide (x.high < y) = (false || !inB (x, y)) := by
 have h1 : decide (x.low <= y) = true := znp (by omega)
 simp only [inB, h1, Bool.true_and, Bool.false_or]
 by_cases h2 : y <= x.high
 . rw [znq (by omega), znp h2]; rfl
 . rw [znp (by omega), znq h2]; rfl
theorem zhw {D : Nat -> Prop} {W : World} {r : Ins} {s : StS} {q : Int -> Value} (hL : LeftOk D W r s q) {j : Nat} (hj : j < 4) : ∃ (a : Option Addr) (ln c : Nat), [Value.slice none 0 0, q 1, q 2, q 3][j]? = some (.slice a ln c) /\ (j = 0 -> ln = 0) /\ (1 <= j -> ln = ((xT r (j : Int)).drop (kS s (j : Int))).length) := by
 have key : ∀ k : Int, 1 <= k -> k <= 3 -> ∃ (a : Option Addr) (c : Nat), q k = .slice a ((xT r k).drop (kS s k)).length c := fun k h1 h3 => (hL k h1 h3).form
 obtain ⟨a1, c1, h1⟩ := key 1 (by omega) (by omega)
 obtain ⟨a2, c2, h2⟩ := key 2 (by omega) (by omega)
 obtain ⟨a3, c3, h3⟩ := key 3 (by omega) (by omega)
 rcases (show j = 0 \/ j = 1 \/ j = 2 \/ j = 3 by omega) with rfl | rfl | rfl | rfl
 . exact ⟨_, _, _, rfl, fun _ => rfl, fun h => by omega⟩
 . exact ⟨a1, _, c1, congrArg some h1, fun h => by omega, fun _ => rfl⟩
 . exact ⟨a2, _, c2, congrArg some h2, fun h => by omega, fun _ => rfl⟩
 . exact ⟨a3, _, c3, congrArg some h3, fun h => by omega, fun _ => rfl⟩
theorem zdJ {f : Fl} {r : Ins} {s : StS} (hS : jM f.vars r = some s) {k : Int} (hk : 1 <= k /\ k <= 3) (h : 0 < ((xT r k).drop (kS s k)).length) : zC f.vars r = 1 := by
 unfold zC
 rw [hS]
 dsimp only
 unfold jZ
 rw [List.length_drop] at h
 rw [zno]
 rcases (show k = 1 \/ k = 2 \/ k = 3 by omega) with rfl | rfl | rfl
 ·
  have h : 0 < r.secret.length - s.a := h
  omega
 ·
  have h : 0 < r.pub.length - s.b := h
  omega
 ·
  have h : 0 < r.random.length - s.c := h
  omega
theorem zeM {f : Fl} {r : Ins} {s : StS} (hS : jM f.vars r = some s) (hkd : ∀ v ∈ f.vars, 0 <= v.kind /\ v.kind <= 3) (hz : ∀ k : Int, 1 <= k -> k <= 3 -> ((xT r k).drop (kS s k)).length = 0) : zC f.vars r = if (f.vars.zip s.vals).all inB then 0 else 3 := by
 have hle := zeA hkd f.vars.length s (znC _) (by rw [zni]; exact hS)
 have key : ∀ k : Int, 1 <= k -> k <= 3 -> kS s k = (xT r k).length := fun k h1 h3 => by
  have h4 := hz k h1 h3
  rw [List.length_drop] at h4
  have := hle k h1 h3
  omega
 have h1 : s.a = r.secret.length := key 1 (by omega) (by omega)
 have h2 : s.b = r.pub.length := key 2 (by omega) (by omega)
 have h3 : s.c = r.random.length := key 3 (by omega) (by omega)
 unfold zC
 rw [hS]
 dsimp only
 unfold jZ
 rw [znn (by omega)]
theorem zge {H : Hp} {w w0 : World} {bm : Nat} {v1 v2 v3 vv hv : Value} {vals hats : List Int} {m : Nat} (hI : VI [(w0, fun _ => False)] H w) (h0 : zi H 24 = some (.own bm [v1, v2, v3, vv, hv, .slice none 0 0, .int .i64 0] 158)) (h1 : zi H 900 = some (.row 3 1 vv vals.length (vals.map zd))) (h2 : zi H 901 = some (.row 3 1 hv m (hats.map zd))) : MachOk w bm v1 v2 v3 vv hv (.slice none 0 0) ⟨vals, [], 0⟩ /\ SlR 1 zt (fun b => hv.ownBlock = some b) w hv hats /\ (∀ q, qs bm vv (.slice none 0 0) q \/ hv.ownBlock = some q -> w0.heap.size <= q /\ q < w.heap.size) /\ ∀ q, qs bm vv (.slice none 0 0) q -> hv.ownBlock ≠ some q := by
 have o0 : ∀ q, q = bm -> w0.heap.size <= q /\ q < w.heap.size := fun q hq => ⟨hI.own 24 0 h0 rfl q hq, hI.low _ (zf h0) q hq⟩
 have o1 : ∀ q, vv.ownBlock = some q -> w0.heap.size <= q /\ q < w.heap.size := fun q hq => ⟨hI.own 900 0 h1 rfl q hq, hI.low _ (zf h1) q hq⟩
 have o2 : ∀ q, hv.ownBlock = some q -> w0.heap.size <= q /\ q < w.heap.size := fun q hq => ⟨hI.own 901 0 h2 rfl q hq, hI.low _ (zf h2) q hq⟩
 refine ⟨⟨hI.at 24 h0, hI.at 900 h1, World.ownsRow_nil w 0 _ 1, fun h => zk hI.apart h0 h1 O bm O h, fun h => (by cases h), fun q _ h => (by cases h)⟩, zkx zd (fun _ _ => rfl) (hI.at 901 h2) (fun _ h => h), ?_, ?_⟩
 ·
  rintro q ((hq | hq | hq) | hq)
  . exact o0 q hq
  . exact o1 q hq
  . cases hq
  . exact o2 q hq
 ·
  rintro q (hq | hq | hq) hs
  . exact zk hI.apart h0 h2 O q hq hs
  . exact zk hI.apart h1 h2 O q hq hs
  . cases hq
theorem jO (f : Fl) (r : Ins) (v1 v2 v3 s1 s2 s3 : Value) (D : Nat -> Prop) (W : World) (hf : RFl D W f v1 v2 v3) (hi1 : SlR 1 zt D W s1 r.secret) (hi2 : SlR 1 zt D W s2 r.pub) (hi3 : SlR 1 zt D W s3 r.random) (hsz : zq f.body + yb f.hatches <= 1024) (hbk : xu f.body <= 1000000) :
  Calls Tryz.prog 122 #[.agg #[v1, v2, v3], .agg #[s1, s2, s3]] W (Ret fun rr w' => (∃ rv, rr = .tuple #[rv, .int .i64 (zD f r)] /\ (zD f r = 0 -> ∃ bm vv hv, rv = .pointer (some ⟨bm, 0, none⟩) /\ MachOk w' bm v1 v2 v3 vv hv (.slice none 0 0) (qD f r) /\ SlR 1 zt (fun b => hv.ownBlock = some b) w' hv (qx f r) /\ (∀ q, qs bm vv (.slice none 0 0) q \/ hv.ownBlock = some q -> W.heap.size <= q /\ q < w'.heap.size) /\ ∀ q, qs bm vv (.slice none 0 0) q -> hv.ownBlock ≠ some q)) /\ Ext W w') := by
 have hvs := hf.vars
 have hht := hf.hatches
 obtain ⟨av, cv, rfl⟩ := hvs.form
 obtain ⟨ah, ch, rfl⟩ := hht.form
 have hmx := hvs.max
 obtain ⟨a1, n1, rfl⟩ := hi1.form
 obtain ⟨a2, n2, rfl⟩ := hi2.form
 obtain ⟨a3, n3, rfl⟩ := hi3.form
 refine zlu Tryz.func122 O Tryz.ntmps122 O (zlE ?_)
 refine Vs 2 O ?_
 refine V.box 2 O O (fun b2 => ?_)
 refine V.box 3 O O (fun b3 => ?_)
 refine Vs 8 O ?_
 refine zlT Tryz.call60 O (fun w hI => jL f _ _ v3 D w (Tr1 hI.k0 hf) hsz hbk) ?_
 refine Vs 9 O ?_
 refine zjn O (fun c0 => ?_) (fun c0 => ?_)
 ·
  have hp : zD f r = yi f := zno c0
  refine Vs 9 O ?_
  refine zjK tr122 O O (fun w hI => ⟨_, rfl, ⟨_, by rw [hp], fun h => absurd (hp ▸ h) c0⟩, hI.k0⟩)
 ·
  have hc0 : yi f = 0 := znm.1 c0
  have vd : Valid f := ⟨hc0, hsz, hbk⟩
  have hp : zD f r = zC f.vars r := znn c0
  have hkd := vd.kinds
  have hl := vd.lens
  refine Vs 5 O ?_
  refine zm9 [Value.slice none 0 0, Value.slice none 0 0, Value.slice none 0 0, Value.slice none 0 0, Value.slice none 0 0, Value.slice none 0 0, Value.int IntKind.i64 0] [(0, 3), (3, 1), (4, 1), (5, 1), (6, 1)] [(0, _)] O O (fun _ => by kernel_rfl) ?_
  refine V.box 24 O O (fun b24 => ?_)
  refine Vs 11 O ?_
  refine zm9 [Value.slice none 0 0, Value.slice none 0 0, Value.slice none 0 0, Value.slice none 0 0] [(0, 1), (1, 1), (2, 1), (3, 1)] [(1, _), (2, _), (3, _)] O O (fun _ => by kernel_rfl) ?_
  refine V.alloc 8 Tryz.zeroValue191 O O (fun b8 => ?_)
  refine Vs 18 O ?_
  refine zlM 900 3 1 O ?_
  refine zm3 (σ := Nat × StS × (Int -> Value) × Bool × Value) [2, 7, 8, 33, 34] [2] [2, 7, 8] O (fun e ⟨i, s, q, o, vv⟩ => (35, .int .i64 i) :: (9, .bool o) :: e) (fun e ⟨i, s, q, o, vv⟩ => (24, .own b24 [.slice av f.vars.length cv, .slice ah f.hatches.length ch, v3, vv, .slice none 0 0, .slice none 0 0, .int .i64 0] 158) :: (900, .row 3 1 vv s.vals.length (s.vals.map zd)) :: (8, .own b8 [.slice none 0 0, q 1, q 2, q 3] 191) :: e) (fun ⟨i, s, q, o, vv⟩ => i <= f.vars.length /\ (f.vars.take i).foldl (zm r) (some ⟨[], 0, 0, 0⟩) = some s /\ LeftOk D W r s q /\ o = !((f.vars.take i).zip s.vals).all inB) (fun ⟨i, s, q, o, vv⟩ => f.vars.length - i) ((0, ⟨[], 0, 0, 0⟩, fun k => if k = 1 then .slice a1 r.secret.length n1 else if k = 2 then .slice a2 r.pub.length n2 else .slice a3 r.random.length n3, false, .slice none 0 0)) (zl4 O) (zl5 O) (fun _ => rfl) (fun _ => rfl) (fun _ => rfl) (⟨zns _, rfl, fun k h1 h3 => by rcases (show k = 1 \/ k = 2 \/ k = 3 by omega) with rfl | rfl | rfl <;> assumption, rfl⟩) ?_
  rintro ⟨i, s, q, o, vv⟩ ⟨hi, hS, hL, ho⟩
  show V _ _ _ _ _ ((35, .int .i64 i) :: (9, .bool o) :: _) _ ((24, .own b24 [.slice av f.vars.length cv, .slice ah f.hatches.length ch, v3, vv, .slice none 0 0, .slice none 0 0, .int .i64 0] 158) :: (900, .row 3 1 vv s.vals.length (s.vals.map zd)) :: (8, .own b8 [.slice none 0 0, q 1, q 2, q 3] 191) :: _) _
  refine Vs 6 O ?_
  refine zjn O (fun hlt => ?_) (fun hlt => ?_)
  ·
   refine Vs 6 O ?_
   obtain ⟨x, he_x, hm_x⟩ := gE_ f.vars (i) (by omega)
   obtain ⟨b_x, o_x, c_x, ha_x, _, hc_x, hR_x⟩ := hvs.at he_x
   obtain rfl := hR_x
   refine zm0 1000 0 O O hc_x ?_
   refine V.ix 1000 tR22 ts89 O ha_x (by omega) (_) (rfl) O ?_
   obtain ⟨hlv, _⟩ := zau i s hi hS
   have hkx := hkd x hm_x
   have hvc := vd.varAt0 he_x
   refine Vs 1 O ?_
   refine V.alloc 11 tz89 O O (fun b11 => ?_)
   refine Vs 11 O ?_
   refine zm4 (σ := Int × (Int -> Value) × Bool × StS) [2, 7, 8, 33, 34, 35] [2, 24, 900] [2, 7, 8] O (fun e ⟨n, q', o', s1⟩ => (12, .int .i64 n) :: (9, .bool o') :: e) (fun e ⟨n, q', o', s1⟩ => (8, .own b8 [.slice none 0 0, q' 1, q' 2, q' 3] 191) :: e) (fun ⟨n, q', o', s1⟩ => zm r (some s) x = some s1 /\ s1.vals = s.vals ++ [n] /\ LeftOk D W r s1 q' /\ o' = (o || !inB (x, n))) (fun _ => rfl) (fun _ => rfl) ?_ ?_
   ·
    refine Vs 7 O ?_
    refine zjn O (fun hk => ?_) (fun hk => ?_)
    ·
     have hk3 : 1 <= x.kind /\ x.kind <= 3 := by omega
     obtain ⟨rest, hrest⟩ : ∃ rest, rest = (xT r x.kind).drop (kS s x.kind) := ⟨_, rfl⟩
     have hq := hL x.kind hk3.1 hk3.2
     rw [<- hrest] at hq
     obtain ⟨aq, cq, hqf⟩ := hq.form
     rw [hqf] at hq
     have hg0 := zgd hk3 hrest.symm
     refine Va 6 O (by omega) ?_
     refine zll O (fun w hI => R.load tg27 O (v := .slice aq rest.length cq) (by rw [<- hqf]; exact kX (hI.at 8 O) hk3)) ?_
     refine Vs 4 O ?_
     refine zjn O (fun z => ?_) (fun z => ?_)
     ·
      have hn : (f.vars.take (i + 1)).foldl (zm r) (some ⟨[], 0, 0, 0⟩) = none := by
       rw [zh he_x, List.foldl_append, hS]
       exact zeL hk3 (by rw [hg0, znB (by omega)])
      have h1 : zC f.vars r = 1 := by unfold zC; rw [zcB hn]
      refine Vs 15 O ?_
      refine zjK tr122 O O (fun w hI => ⟨_, rfl, ⟨_, by rw [hp, h1], fun h => by rw [hp, h1] at h; cases h⟩, hI.k0⟩)
     ·
      refine Va 7 O (by omega) ?_
      refine zll O (fun w hI => R.load tg27 O (v := .slice aq rest.length cq) (by rw [<- hqf]; exact kX (hI.at 8 O) hk3)) ?_
      obtain ⟨y, he_y, hm_y⟩ := gE_ rest (0) (by omega)
      obtain ⟨b_y, o_y, c_y, ha_y, _, hc_y, hR_y⟩ := hq.at he_y
      obtain rfl := hR_y
      refine zm0 2000 0 O O hc_y ?_
      refine V.ix 2000 tR27 ts3 O ha_y (by omega) (_) (rfl) O ?_
      have hy0 : (xT r x.kind)[kS s x.kind]? = some y := by rw [hg0, he_y]
      refine Vs 5 O ?_
      refine Vw [2, 24, 8, 1000, 11, 2000] [8] O ?_
      refine Vb [0, 1, 2, 3, 4] 0 (by kernel_rfl) O O O (by omega) ?_
      refine zmd 5 O (by kernel_rfl) O 0 O O (fun w hI => R.load tg27 O (v := .slice aq rest.length cq) (by rw [<- hqf]; exact kX (hI.at 8 O) hk3)) ?_
      refine VD.pl 6 O (by kernel_rfl) O (fun w => zk8 tR27 ts3 O O (by omega)) ?_
      refine Vb [7] 0 (by kernel_rfl) O O O (by omega) ?_
      refine zmf 8 8 (x.kind.toNat) ts27 O (by kernel_rfl) O (rfl) (by omega) (by simp; omega) ?_
      refine zks (by kernel_rfl) ?_
      refine Vs 1 O ?_
      refine zm2 8 O (e' := .own b8 [.slice none 0 0, (if 1 = x.kind then (.slice (if cq = 1 then aq else aq.map (·.add (1 * 1))) (rest.length - 1) (cq - 1)) else q 1), (if 2 = x.kind then (.slice (if cq = 1 then aq else aq.map (·.add (1 * 1))) (rest.length - 1) (cq - 1)) else q 2), (if 3 = x.kind then (.slice (if cq = 1 then aq else aq.map (·.add (1 * 1))) (rest.length - 1) (cq - 1)) else q 3)] 191) (by rw [zgc hk3]; rfl) ?_
      refine Vs 3 O ?_
      refine V.sb 65 O (fun b1 => ?_) (fun b1 => ?_)
      ·
       subst b1
       refine Vs 13 O ?_
       refine zjD (⟨y, fun j => if j = x.kind then (.slice (if cq = 1 then aq else aq.map (·.add (1 * 1))) (rest.length - 1) (cq - 1)) else q j, true, jT s x.kind y⟩) (zl4 O) (zl5 O) (⟨zb1 hk3 hy0, jz _ _ _, hL.next hk3 hrest hq (by omega), rfl⟩) 0 O O
      ·
       subst b1
       refine Vs 6 O ?_
       refine zlh 71 O (fun b2 => ?_) (fun b2 => ?_)
       ·
        refine Vs 7 O ?_
        refine zjD (⟨y, fun j => if j = x.kind then (.slice (if cq = 1 then aq else aq.map (·.add (1 * 1))) (rest.length - 1) (cq - 1)) else q j, true, jT s x.kind y⟩) (zl4 O) (zl5 O) (⟨zb1 hk3 hy0, jz _ _ _, hL.next hk3 hrest hq (by omega), by simp [inB]; omega⟩) 0 O O
       ·
        refine Vs 7 O ?_
        refine zjD (⟨y, fun j => if j = x.kind then (.slice (if cq = 1 then aq else aq.map (·.add (1 * 1))) (rest.length - 1) (cq - 1)) else q j, decide (x.high < y), jT s x.kind y⟩) (zl4 O) (zl5 O) (⟨zb1 hk3 hy0, jz _ _ _, hL.next hk3 hrest hq (by omega), zim b2⟩) 0 O O
    ·
     refine Vs 1 O ?_
     refine zjD (⟨x.init, q, o, ⟨s.vals ++ [x.init], s.a, s.b, s.c⟩⟩) (zl4 O) (zl5 O) (⟨zeK (by omega), rfl, hL, by have := zbV hvc (by omega); simp [inB, this.1, this.2]⟩) 0 O O
   rintro ⟨n, q', o', s1⟩ ⟨hst, hsv, hL', ho'⟩
   show V _ _ _ _ _ ((12, .int .i64 n) :: (9, .bool o') :: _) _ ((8, .own b8 [.slice none 0 0, q' 1, q' 2, q' 3] 191) :: _) _
   refine Vs 8 O ?_
   refine zm6 83 [(0, _)] tR27 ts3 tz3 (by decide) O O (by kernel_rfl) (fun b83 => ?_)
   refine zlN 900 83 tu27 Tryz.el3 O (by decide) O O (by omega) (by omega) (fun u900 => ?_)
   refine Vs 2 O ?_
   refine zlP 900 O (by omega) ?_
   rintro bq cq rfl hcap_900
   refine Va 8 O (by omega) ?_
   refine zm2 900 O (e' := .row 3 1 (.slice (some ⟨bq, 0, none⟩) (s.vals.length + 1) cq) s1.vals.length (s1.vals.map zd)) (by rw [hsv, znl, List.map_append]; rfl) ?_
   refine zjy (⟨i + 1, s1, q', o', _⟩) (zl4 O) (zl5 O) (⟨by omega, zdI he_x hS hst, hL', by rw [ho', ho, hsv, zg8 he_x s.vals (by omega) n]; cases ((f.vars.take i).zip s.vals).all inB <;> cases inB (x, n) <;> rfl⟩) (by first | omega | (dsimp only; omega)) 0 O O
  ·
   obtain rfl : i = f.vars.length := by omega
   rw [zni] at hS ho
   have hSS : jM f.vars r = some s := hS
   refine Vs 13 O ?_
   refine zm3 (σ := Nat) [2, 7, 9, 88] [2, 24, 900] [2, 7] O (fun e j => (89, .int .i64 j) :: e) (fun e j => e) (fun j => j <= 4 /\ ∀ k : Int, 1 <= k -> k < j -> k <= 3 -> ((xT r k).drop (kS s k)).length = 0) (fun j => 4 - j) (0) (zl4 O) (zl5 O) (fun _ => rfl) (fun _ => rfl) (fun _ => rfl) (⟨by omega, fun k h1 h2 => by omega⟩) ?_
   rintro j ⟨hj, hzero⟩
   refine Vs 6 O ?_
   refine zjn O (fun hj4 => ?_) (fun hj4 => ?_)
   ·
    obtain ⟨al, ln, cl, hv, hl0, hl1⟩ := zhw hL (j := j) (by omega)
    refine Vs 6 O ?_
    refine zll O (fun w hI => zml Tryz.runUnderlying191 ts27 tg27 O O (by omega) (by simpa using hv)) ?_
    refine Vs 10 O ?_
    refine zjn O (fun z => ?_) (fun z => ?_)
    ·
     have hj0 : 1 <= j := by omega
     have h1 := zdJ hSS (k := (j : Int)) (by omega) (by have := hl1 hj0; omega)
     refine Vs 12 O ?_
     refine zjK tr122 O O (fun w hI => ⟨_, rfl, ⟨_, by rw [hp, h1], fun h => by rw [hp, h1] at h; cases h⟩, hI.k0⟩)
    ·
     refine Va 7 O (by omega) ?_
     refine zjy (j + 1) (zl4 O) (zl5 O) (⟨by omega, fun k h1 h2 h3 => by by_cases e : k = (j : Int); (· rw [e]; have := hl1 (by omega); omega); (· exact hzero k h1 (by omega) h3)⟩) (by first | omega | (dsimp only; omega)) 0 O O
   ·
    have hfin := zeM hSS hkd fun k h1 h3 => hzero k h1 (by omega) h3
    refine Vs 11 O ?_
    refine V.bool O (fun o1 => ?_) (fun o1 => ?_)
    ·
     have h3 : zC f.vars r = 3 := by rw [hfin, znn (by rw [ho] at o1; simpa using o1)]
     refine Vs 8 O ?_
     refine zjK tr122 O O (fun w hI => ⟨_, rfl, ⟨_, by rw [hp, h3], fun h => by rw [hp, h3] at h; cases h⟩, hI.k0⟩)
    ·
     have h0 : zC f.vars r = 0 := by rw [hfin, zno (by rw [ho] at o1; simpa using o1)]
     have hsv : xf f.vars r = s.vals := by unfold xf; rw [hSS]
     have hV : InV f.vars s.vals := hsv ▸ zbT h0
     refine zlM 901 3 1 O ?_
     refine Vs 12 O ?_
     refine zm3 (σ := Nat × Value) [7, 98, 99] [900] [7] O (fun e ⟨i, hv⟩ => (100, .int .i64 i) :: e) (fun e ⟨i, hv⟩ => (24, .own b24 [.slice av f.vars.length cv, .slice ah f.hatches.length ch, v3, vv, hv, .slice none 0 0, .int .i64 0] 158) :: (901, .row 3 1 hv i ((zg9 s.vals (f.hatches.take i)).map zd)) :: e) (fun ⟨i, hv⟩ => i <= f.hatches.length) (fun ⟨i, hv⟩ => f.hatches.length - i) ((0, .slice none 0 0)) (zl4 O) (zl5 O) (fun _ => rfl) (fun _ => rfl) (fun _ => rfl) (zns _) ?_
     rintro ⟨i, hv⟩ hi
     show V _ _ _ _ _ ((100, .int .i64 i) :: _) _ ((24, .own b24 [.slice av f.vars.length cv, .slice ah f.hatches.length ch, v3, vv, hv, .slice none 0 0, .int .i64 0] 158) :: (901, .row 3 1 hv i ((zg9 s.vals (f.hatches.take i)).map zd)) :: _) _
     refine Vs 6 O ?_
     refine zjn O (fun hlt => ?_) (fun hlt => ?_)
     ·
      refine Vs 6 O ?_
      obtain ⟨x, he_x, hm_x⟩ := gE_ f.hatches (i) (by omega)
      obtain ⟨b_x, o_x, c_x, ha_x, _, hc_x, hR_x⟩ := hht.at he_x
      obtain ⟨v1_x, rfl, hk_x⟩ := hR_x
      obtain ⟨a1_x, n1_x, rfl⟩ := hk_x.form
      refine zm0 3000 0 O O hc_x ?_
      refine V.ix 3000 tR23 ts95 O ha_x (by omega) (_) (rfl) O ?_
      obtain ⟨g1, g2, _, g4⟩ := vd.hatch x hm_x
      refine Vs 1 O ?_
      refine V.alloc 16 tz95 O O (fun b16 => ?_)
      refine Vs 3 O ?_
      refine Vw [24, 3000, 16] [21] O ?_
      refine Vd [0, 1, 2, 3, 4, 5, 6, 7, 8, 9, 10, 12, 13, 14, 15] 0 (by kernel_rfl) O O O ?_
      refine zlU 11 0 tc153 O (by kernel_rfl) O O (fun w hI => jf vd.good hV x.term g1 g2 _ D (fun _ => True) w _ (zkx zd (fun _ _ => rfl) (hI.at 900 O) (fun _ _ => trivial)) (RTm.put (Tr1 hI.k0 hk_x))) ?_
      refine zlU 16 0 Tryz.call152 O (by kernel_rfl) O O (fun w hI => xZ _ x.low x.high w g4) ?_
      refine zm7 17 121 0 [(0, _)] tR27 ts3 tz3 (by decide) O (by kernel_rfl) O O (by kernel_rfl) (fun b121 => ?_)
      refine zlO 18 901 121 0 tu27 Tryz.el3 O (by decide) O (by kernel_rfl) O O O (by omega) (by omega) (fun u901 => ?_)
      refine Vd [19, 20] 0 (by kernel_rfl) O O O ?_
      refine zlQ 901 O (by omega) ?_
      rintro bh chh rfl hcap_901
      refine Vl 21 O (by kernel_rfl) O ?_
      refine zks (by kernel_rfl) ?_
      refine Va 6 O (by omega) ?_
      refine zm2 901 O (e' := .row 3 1 (.slice (some ⟨bh, 0, none⟩) (i + 1) chh) (i + 1) ((zg9 s.vals (f.hatches.take (i + 1))).map zd)) (by rw [zeI he_x, List.map_append]; rfl) ?_
      refine zjy (⟨i + 1, _⟩) (zl4 O) (zl5 O) (by omega) (by first | omega | (dsimp only; omega)) 0 O O
     ·
      obtain rfl : i = f.hatches.length := by omega
      have hsg : qD f r = ⟨s.vals, [], 0⟩ := by unfold qD; rw [hsv]
      have hht' : qx f r = zg9 s.vals (f.hatches.take f.hatches.length) := by rw [zni, <- hsv]
      rw [hsg, hht']
      refine Vs 13 O ?_
      refine zjK tr122 O O (fun w hI => ⟨_, rfl, ⟨_, by rw [hp, h0], fun _ => ⟨b24, vv, hv, rfl, zge hI O O rfl⟩⟩, hI.k0⟩)
abbrev ziR (hv : Value) (l : List Int) : HE := .res (fun q => hv.ownBlock = some q) (fun w => SlR 1 zt (fun b => hv.ownBlock = some b) w hv l)
theorem zgf (hv : Value) (l : List Int) : (ziR hv l).loc := fun _ _ _ h hk hT => SlR.keep za h hk fun q hq hlt => hT q hlt hq
theorem zgg {f : Fl} {r : Ins} {v1 v2 v3 : Value} {H : Hp} {W w : World} {g : FuncId} {args : Array Value} (_ : W.heap.size <= w.heap.size) (h0 : zD f r = 0)
  (hc : Calls Tryz.prog g args w (Ret fun rr w' => (∃ rv, rr = .tuple #[rv, .int .i64 (zD f r)] /\ (zD f r = 0 -> ∃ bm vv hv, rv = .pointer (some ⟨bm, 0, none⟩) /\ MachOk w' bm v1 v2 v3 vv hv (.slice none 0 0) (qD f r) /\ SlR 1 zt (fun b => hv.ownBlock = some b) w' hv (qx f r) /\ (∀ q, qs bm vv (.slice none 0 0) q \/ hv.ownBlock = some q -> w.heap.size <= q /\ q < w'.heap.size) /\ ∀ q, qs bm vv (.slice none 0 0) q -> hv.ownBlock ≠ some q)) /\ Ext w w')) :
  Calls Tryz.prog g args w (Ret fun rr w' => ∃ x : Nat × Value × Value, rr = .tuple #[.pointer (some ⟨x.1, 0, none⟩), .int .i64 0] /\ Hands H [] ((903, ziR x.2.2 (qx f r)) :: qE x.1 v1 v2 v3 x.2.1 x.2.2 (.slice none 0 0) (qD f r)) w w') := by
 refine hc.mono ?_
 rintro _ w' ⟨rr, rfl, ⟨rv, rfl, hs⟩, hk⟩
 obtain ⟨bm, vv, hv, rfl, hM, hh, hS, hap⟩ := hs h0
 obtain ⟨l1, l2⟩ := hM.lent
 refine ⟨_, rfl, (bm, vv, hv), by rw [h0], hk.mono fun q _ h => h.elim, fun x hx => ?_, List.pairwise_cons.2 ⟨fun x hx q hq hs => ?_, l2⟩⟩
 ·
  rcases znt.1 hx with rfl | hx
  . exact ⟨hh, zgf _ _, fun _ h => h, fun q hq => ⟨.inr (hS q (.inr hq)).1, (hS q (.inr hq)).2⟩⟩
  ·
   obtain ⟨k1, k2, k3, k4⟩ := l1 x hx
   exact ⟨k1, k2, k3, fun q hq => ⟨.inr (hS q (.inl (machHS.1 ⟨x, hx, hq⟩))).1, k4 q hq⟩⟩
 . exact hap q (machHS.1 ⟨x, hx, hs⟩) hq
theorem zin {f : Fl} (vd : Valid f) : 0 + nbL f.body <= 100000 := by
 have := vd.nb; omega
theorem zio {H : Hp} {w w0 : World} {D : Nat -> Prop} {bm : Nat} {v1 v2 v3 vv hv ov : Value} {σ : Sg} {l : List Int} (hI : VI [(w0, fun _ => False)] H w) (h0 : zi H 900 = some (.own bm [v1, v2, v3, vv, hv, ov, .int .i64 σ.time] 158)) (h1 : zi H 901 = some (.row 3 1 vv σ.vals.length (σ.vals.map zd))) (h2 : zi H 902 = some (.row 3 1 ov σ.outs.length (σ.outs.map zd))) (h3 : zi H 903 = some (ziR hv l)) : ∀ q, qs bm vv ov q -> ¬ (D q /\ q < w0.heap.size) /\ hv.ownBlock ≠ some q := by
 rintro q (hq | hq | hq)
 . exact ⟨fun h => by have := hI.own 900 0 h0 O q hq; omega, fun h => zk hI.apart h0 h3 O q hq h⟩
 . exact ⟨fun h => by have := hI.own 901 0 h1 O q hq; omega, fun h => zk hI.apart h1 h3 O q hq h⟩
 . exact ⟨fun h => by have := hI.own 902 0 h2 O q hq; omega, fun h => zk hI.apart h2 h3 O q hq h⟩
theorem zdK (f : Fl) (r : Ins) (v1 v2 v3 s1 s2 s3 : Value) (D : Nat -> Prop) (W : World) (hf0 : RFl D W f v1 v2 v3) (hi1 : SlR 1 zt D W s1 r.secret) (hi2 : SlR 1 zt D W s2 r.pub) (hi3 : SlR 1 zt D W s3 r.random) (hsz : zq f.body + yb f.hatches <= 1024) (hbk : xu f.body <= 1000000) :
  Calls Tryz.prog 64 #[.agg #[v1, v2, v3], .agg #[s1, s2, s3]] W (Ret fun rr w' => (∃ ov t, rr = .tuple #[.agg #[ov, .int .i64 t], .int .i64 (zD f r)] /\ (zD f r ≠ 0 -> ov = .slice none 0 0 /\ t = 0) /\ (zD f r = 0 -> t = (xU f r).time /\ SlR 1 zt (fun b => W.heap.size <= b) w' ov (xU f r).outs)) /\ Ext W w') := by
 have hf := hf0.narrow
 refine zlu Tryz.func64 O Tryz.ntmps64 O (zlE ?_)
 refine Vs 2 O ?_
 refine V.box 2 O O (fun b2 => ?_)
 refine V.box 3 O O (fun b3 => ?_)
 refine V.alloc 4 tz55 O O (fun b4 => ?_)
 refine Vs 4 O ?_
 refine zjE (p := zD f r = 0) (fun hc => ?_) (fun hc => ?_)
 ·
  have hck : yi f = 0 := by
   unfold zD at hc
   split at hc
   . rename_i h; exact absurd hc h
   . rename_i h; exact znm.1 h
  have vd : Valid f := ⟨hck, hsz, hbk⟩
  have hst : zC f.vars r = 0 := by unfold zD at hc; rwa [znn (by omega)] at hc
  have hvl := vd.lens
  have hss := vd.ssize
  have hnb := zin vd
  refine Vs 3 O ?_
  refine zmj [] (Hn := fun x : Nat × Value × Value => [(903, ziR x.2.2 (qx f r)), (900, .own x.1 [v1, v2, v3, x.2.1, x.2.2, (.slice none 0 0), .int .i64 (qD f r).time] 158), (901, .row 3 1 x.2.1 (qD f r).vals.length ((qD f r).vals.map zd)), (902, .row 3 1 (.slice none 0 0) (qD f r).outs.length ((qD f r).outs.map zd))]) [(2, some (2, 0)), (3, some (3, 0)), (4, some (4, 0))] Tryz.call122 O (fun _ _ => rfl) (fun _ => rfl) (fun w hI => zgg (hI.k0).size hc (jO f r v1 v2 v3 s1 s2 s3 D w (Tr1 hI.k0 hf0) (Tr1 hI.k0 hi1) (Tr1 hI.k0 hi2) (Tr1 hI.k0 hi3) hsz hbk)) ?_
  rintro _ ⟨bm, vv, hv⟩ rfl
  refine Vs 9 O ?_
  refine zlK 6 900 0 O O ?_
  refine Vs 5 O ?_
  refine zjn O (fun c0 => ?_) (fun c0 => ?_)
  . exact absurd O c0
  ·
   refine Vs 7 O ?_
   refine zmj [900, 901, 902] (Hn := fun ov' : Value => [(900, .own bm [v1, v2, v3, vv, hv, ov', .int .i64 (xU f r).time] 158), (901, .row 3 1 vv (xU f r).vals.length ((xU f r).vals.map zd)), (902, .row 3 1 ov' (xU f r).outs.length ((xU f r).outs.map zd))]) [(2, some (2, 0)), (3, some (3, 0)), (4, some (4, 0)), (6, some (900, 0)), (18, some (900, 0)), (19, some (2, 2))] Tryz.call123 O (fun _ _ => rfl) (fun _ => rfl) (fun w hI => qF (σ := qD f r) (zhv f (qx f r) vd.good (by simp [zg9]) (by omega) f.body (zb0 vd) 0 (qD f r) (kW hst) hnb (fun b => D b /\ b < W.heap.size) (fun b => hv.ownBlock = some b) w bm v1 v2 v3 vv hv _ _ (fun q hq => hq.elim (fun h => Nat.lt_of_lt_of_le h.2 (hI.k0).size) (fun h => hI.low _ (zf (k := 903) O) q h)) (Tr1 hI.k0 hf) (hI.at 903 O) (Tr1 hI.k0 hf.body) (jN hI O O O) (zio hI O O O O)) (hI.k0).size O O O) ?_
   rintro _ ov' ⟨rfl, hov⟩
   refine zlF (fun w hI => qJ (show w.ownsRow 0 3 1 ov' _ _ from hI.at 902 O)) ?_
   rintro ⟨ao, co, rfl⟩
   refine Vs 3 O ?_
   refine Vw [2, 3, 4, 900] [9] O ?_
   refine Vd [0, 1, 2, 3, 4, 5, 6, 7] 0 (by kernel_rfl) O O O ?_
   refine zma 8 [Value.slice none 0 0, Value.int IntKind.i64 0] [(0, 1), (1, 1)] [(0, _), (1, _)] O (by kernel_rfl) O O (fun _ => by kernel_rfl) ?_
   refine Vl 9 O (by kernel_rfl) O ?_
   refine Vx [10] (by kernel_rfl) O ?_
   refine zks (by kernel_rfl) ?_
   refine Vs 2 O ?_
   refine zjS Tryz.results64 tg55 ts55 O O O O (fun w hI => ⟨_, rfl, ⟨_, _, by rw [hc], fun h => absurd hc h, fun _ => ⟨rfl, zkx zd (fun _ _ => rfl) (hI.at 902 O) (fun b hb => hI.own 902 0 O O b hb)⟩⟩, hI.k0⟩)
 ·
  refine Vs 3 O ?_
  refine zlV Tryz.call122 O (fun w hI => jO f r v1 v2 v3 s1 s2 s3 D w (Tr1 hI.k0 hf0) (Tr1 hI.k0 hi1) (Tr1 hI.k0 hi2) (Tr1 hI.k0 hi3) hsz hbk) ?_
  rintro rr w1 w2 hI1 hk12 ⟨rv, rfl, _⟩ hlow
  refine Vs 14 O ?_
  refine zjn O (fun c0 => ?_) (fun c0 => ?_)
  ·
   refine Vs 2 O ?_
   refine zm9 [Value.slice none 0 0, Value.int IntKind.i64 0] [(0, 1), (1, 1)] [] O O (fun _ => by kernel_rfl) ?_
   refine Vs 7 O ?_
   refine zjS Tryz.results64 tg55 ts55 O O O O (fun w hI => ⟨_, rfl, ⟨_, _, rfl, fun _ => ⟨rfl, rfl⟩, fun h => absurd h hc⟩, hI.k1⟩)
  . exact absurd hc c0
theorem zd9 (a : Int) (w : World) : Calls Tryz.prog 177 #[.int .i64 a] w (Ret fun r w' => r = .bool false /\ Ext w w') := by
 refine zlt Tryz.func177 O Tryz.ntmps177 O (Gs 14 O (zjG Tryz.results177 O ⟨_, rfl, by simp, Keep.refl _ _⟩))
theorem ziq (a b : Int) (w : World) : Calls Tryz.prog 132 #[.int .i64 a, .int .i64 b] w (Ret fun r w' => r = .int .i64 (if a < b then -1 else if b < a then 1 else 0) /\ Ext w w') := by
 refine zlu Tryz.func132 O Tryz.ntmps132 O (Gs 8 O (G.call O Tryz.call177 (zd9 a w) ?_))
 rintro _ w1 ⟨rfl, hk1⟩
 refine Gs 6 O (G.call O Tryz.call177 (zd9 b w1) ?_)
 rintro _ w2 ⟨rfl, hk2⟩
 refine Gs 9 O (G.ff O (rfl) (Gs 8 O (G.ff O (rfl) (Gs 10 O (zlj O (fun h => ?_) (fun h => ?_))))))
 . refine Gs 7 O (zjG Tryz.results132 O ⟨_, rfl, by rw [zno h], hk1.ext hk2⟩)
 ·
  refine Gs 10 O (zlj O (fun h2 => ?_) (fun h2 => ?_))
  . refine Gs 7 O (zjG Tryz.results132 O ⟨_, rfl, by rw [znn h, zno h2], hk1.ext hk2⟩)
  . refine Gs 8 O (zjG Tryz.results132 O ⟨_, rfl, by rw [znn h, znn (by omega)], hk1.ext hk2⟩)
def xp : List Int -> List Int -> Int
 | [], [] => 0
 | [], _ :: _ => -1
 | _ :: _, [] => 1
 | x :: xs, y :: ys => if x < y then -1 else if y < x then 1 else xp xs ys
theorem kY (xs ys : List Int) (u v : Value) (D D' : Nat -> Prop) (w : World) (hx : SlR 1 zt D w u xs) (hy : SlR 1 zt D' w v ys) : Calls Tryz.prog 75 #[u, v] w (Ret fun r w' => r = .int .i64 (xp xs ys) /\ Ext w w') := by
 obtain ⟨ao, cx, rfl, hxc, hxm, hxe⟩ := hx
 obtain ⟨bo, cy, rfl, hyc, hym, hye⟩ := hy
 refine zlu Tryz.func75 O Tryz.ntmps75 O (Gs 14 O (G.loop (σ := Nat) (fun k => [(0, .slice ao xs.length cx), (1, .slice bo ys.length cy), (9, .slice ao xs.length cx), (10, .int .i64 xs.length), (11, .int .i64 k)]) (fun k => fun w' => k <= xs.length /\ k <= ys.length /\ xp (xs.drop k) (ys.drop k) = xp xs ys /\ Ext w w') (fun k => xs.length - k) (0) (zl4 O) (⟨zns _, zns _, rfl, Keep.refl _ _⟩) ?_))
 rintro k w1 ⟨hkx, hky, hc, hk1⟩
 refine Gs 6 O (zlj O (fun hlt => ?_) (fun hge => ?_))
 ·
  obtain ⟨x, hx⟩ : ∃ x, xs[k]? = some x := ⟨_, znd (by omega)⟩
  obtain ⟨b1, o1, c1, hao, _, hcl1, hcs1, rfl⟩ := hxe k x hx
  have hdx : xs.drop k = x :: xs.drop (k + 1) := by
   obtain ⟨h1, h2⟩ := znr.1 hx
   rw [List.drop_eq_getElem_cons h1, h2]
  refine Gs 7 O (zlk O O (zk5 tR27 ts3 O O hao (by omega)) (zlo O tg3 ((hk1.cells hcs1 (fun h => h)) 0 _ O) (Gs 13 O (zlj O (fun hgy => ?_) (fun hly => ?_)))))
  ·
   have : ys.drop k = [] := List.drop_of_length_le (by omega)
   refine Gs 12 O (zjG tr75 O ⟨_, rfl, by rw [<- hc, hdx, this]; rfl, hk1⟩)
  ·
   obtain ⟨y, hy⟩ : ∃ y, ys[k]? = some y := ⟨_, znd (by omega)⟩
   obtain ⟨b2, o2, c2, hbo, _, hcl2, hcs2, rfl⟩ := hye k y hy
   have hdy : ys.drop k = y :: ys.drop (k + 1) := by
    obtain ⟨h1, h2⟩ := znr.1 hy
    rw [List.drop_eq_getElem_cons h1, h2]
   have hcc : (if x < y then -1 else if y < x then 1 else xp (xs.drop (k + 1)) (ys.drop (k + 1))) = xp xs ys := by rw [<- hc, hdx, hdy]; rfl
   refine Gs 6 O (zlk O O (zk5 tR27 ts3 O O hbo (by omega)) (zlo O tg3 ((hk1.cells hcs2 (fun h => h)) 0 _ O) (Gs 7 O (G.call O Tryz.call132 (ziq x y w1) ?_))))
   rintro _ w2 ⟨rfl, hk2⟩
   refine Gs 9 O (zlj O (fun hn => ?_) (fun he => ?_))
   ·
    refine Gs 12 O (zjG tr75 O ⟨_, rfl, ?_, hk1.ext hk2⟩)
    rw [<- hcc]
    by_cases h1 : x < y
    . rw [zno h1, zno h1]
    ·
     by_cases h2 : y < x
     . rw [znn h1, zno h2, znn h1, zno h2]
     . exact absurd (by rw [znn h1, znn h2]) hn
   ·
    have h1 : ¬ x < y := fun h => he (by rw [zno h]; decide)
    have h2 : ¬ y < x := fun h => he (by rw [znn h1, zno h]; decide)
    rw [znn h1, znn h2] at hcc
    refine Ga 7 O (by omega) (zjx (k + 1) (zl4 O) (⟨by omega, by omega, hcc, hk1.ext hk2⟩) (by first | omega | (dsimp only; omega)))
 ·
  have hdx : xs.drop k = [] := List.drop_of_length_le (by omega)
  refine Gs 15 O (zlj O (fun hl2 => ?_) (fun hg2 => ?_))
  ·
   obtain ⟨y, hy⟩ : ∃ y, ys[k]? = some y := ⟨_, znd (by omega)⟩
   have hdy : ys.drop k = y :: ys.drop (k + 1) := by
    obtain ⟨h1, h2⟩ := znr.1 hy
    rw [List.drop_eq_getElem_cons h1, h2]
   refine Gs 7 O (zjG tr75 O ⟨_, rfl, by rw [<- hc, hdx, hdy]; rfl, hk1⟩)
  ·
   have hdy : ys.drop k = [] := List.drop_of_length_le (by omega)
   refine Gs 8 O (zjG tr75 O ⟨_, rfl, by rw [<- hc, hdx, hdy]; rfl, hk1⟩)
def yj (x y : List Int × Int) : Int := if xp x.1 y.1 ≠ 0 then xp x.1 y.1 else if x.2 < y.2 then -1 else if y.2 < x.2 then 1 else 0
theorem zal (x y : List Int × Int) (u v : Value) (D D' : Nat -> Prop) (W : World) (hx : SlR 1 zt D W u x.1) (hy : SlR 1 zt D' W v y.1) :
  Calls Tryz.prog 69 #[.agg #[u, .int .i64 x.2], .agg #[v, .int .i64 y.2]] W (Ret fun r w' => r = .int .i64 (yj x y) /\ Ext W w') := by
 refine zlu Tryz.func69 O Tryz.ntmps69 O (zlE ?_)
 refine Vs 2 O ?_
 refine V.box 2 O O (fun b2 => ?_)
 refine V.box 3 O O (fun b3 => ?_)
 refine Vs 10 O ?_
 refine zlT Tryz.call75 O (fun w hI => kY x.1 y.1 u v D D' w (Tr1 hI.k0 hx) (Tr1 hI.k0 hy)) ?_
 refine Vs 9 O ?_
 refine zjn O (fun h0 => ?_) (fun h0 => ?_)
 ·
  refine Vs 8 O ?_
  refine zjH tr69 O (fun w hI => ⟨_, rfl, by unfold yj; rw [zno h0], hI.k0⟩)
 ·
  refine Vs 14 O ?_
  refine zjn O (fun h1 => ?_) (fun h1 => ?_)
  ·
   refine Vs 8 O ?_
   refine zjH tr69 O (fun w hI => ⟨_, rfl, by unfold yj; rw [znn h0, zno h1], hI.k0⟩)
  ·
   refine Vs 10 O ?_
   refine zjn O (fun h2 => ?_) (fun h2 => ?_)
   ·
    refine Vs 8 O ?_
    refine zjH tr69 O (fun w hI => ⟨_, rfl, by unfold yj; rw [znn h0, znn h1, zno h2], hI.k0⟩)
   ·
    refine Vs 9 O ?_
    refine zjH tr69 O (fun w hI => ⟨_, rfl, by unfold yj; rw [znn h0, znn h1, znn (by omega)], hI.k0⟩)
def zcF : List Vr -> List Int -> Int -> Option Int
 | v :: vs, x :: xs, n => if x < v.low \/ v.high < x then none else zcF vs xs (n * (v.high - v.low + 1) + x - v.low)
 | _, _, n => some n
def qg (k : Int) (vs : List Vr) (r : List Int) : Int × Int :=
 if (zn k vs).isSome then (if r.length = (zg k vs).length then (match zcF (zg k vs) r 0 with | none => (0, 3) | some n => (n, 0)) else (0, 2)) else (0, 4)
theorem zdL {k : Int} {vs : List Vr} (h : (zn k vs).isSome = true) (i : Nat) : ∃ m, yc k ((zg k vs).take i) 1 = some m := by
 unfold zn at h
 rw [<- yQ, <- List.take_append_drop i (zg k vs), zX] at h
 cases hm : yc k ((zg k vs).take i) 1 with
 | none => rw [hm] at h; cases h
 | some m => exact ⟨m, rfl⟩
theorem xw {k : Int} {vs : List Vr} {v : Vr} (h : v ∈ zg k vs) : v ∈ vs := (List.mem_filter.1 h).1
theorem yC {α : Type} {l : List α} {i : Nat} {x : α} (h : l[i]? = some x) : l.drop i = x :: l.drop (i + 1) := by
 obtain ⟨h1, h2⟩ := znr.1 h
 rw [List.drop_eq_getElem_cons h1, h2]
theorem zeN {n m s x l : Int} (h0 : 0 <= n) (h1 : n < m) (h2 : x - l < s) (h3 : 0 <= x - l) (h4 : m * s <= 4096) : 0 <= n * s /\ n * s <= 4096 /\ n * s + x - l < m * s /\ 0 <= n * s + x - l := by
 have hs : 0 <= s := by omega
 have a : 0 <= n * s := znI h0 hs
 have b : (n + 1) * s <= m * s := Int.mul_le_mul_of_nonneg_right (by omega) hs
 rw [Int.add_mul, Int.one_mul] at b
 omega
theorem zdM (vs : List Vr) (k : Int) (r : List Int) (vv rv : Value) (D D' : Nat -> Prop) (W : World) (hk : 0 <= k /\ k <= 3) (hg : ∀ v ∈ vs, ym (v.low, v.high)) (hlen : vs.length <= 1000000) (hvs : SlR 5 RVr D W vv vs) (hr : SlR 1 zt D' W rv r) :
  Calls Tryz.prog 61 #[vv, .int .i64 k, rv] W (Ret fun rr w' => rr = .tuple #[.int .i64 (qg k vs r).1, .int .i64 (qg k vs r).2] /\ Ext W w') := by
 obtain ⟨ar, cr, rfl⟩ := hr.form
 have hmr := hr.max
 refine zlv Tryz.func61 O Tryz.ntmps61 O (zlE ?_)
 refine zjE (p := (zn k vs).isSome = true) (fun hc => ?_) (fun hc => ?_)
 ·
  refine Vs 10 O ?_
  refine zlV tc119 O (fun w hI => qb vs k vv D w hk hg (Tr1 hI.k0 hvs) hlen) ?_
  rintro rr w1 w2 hI1 hk12 ⟨vl, rfl, hs1, _⟩ hlow
  have hos := hs1 hc
  obtain ⟨al, cl, rfl⟩ := hos.form
  have hml := hos.max
  refine Vs 18 O ?_
  refine zjn O (fun c0 => ?_) (fun c0 => ?_)
  . exact absurd (zno hc) c0
  ·
   refine Vs 10 O ?_
   refine zjn O (fun c1 => ?_) (fun c1 => ?_)
   ·
    refine Vs 9 O ?_
    refine zjK tr61 O O (fun w hI => ⟨_, rfl, by unfold qg; rw [zno hc, znn (by omega)], hI.k1⟩)
   ·
    have hel : r.length = (zg k vs).length := by omega
    refine Vs 17 O ?_
    refine zm3 (σ := Nat × Int) [2, 31, 32] [] [] O (fun e ⟨i, n⟩ => (11, .int .i64 n) :: (33, .int .i64 i) :: e) (fun e ⟨i, n⟩ => e) (fun ⟨i, n⟩ => i <= (zg k vs).length /\ zcF ((zg k vs).drop i) (r.drop i) n = zcF (zg k vs) r 0 /\ ∃ m, yc k ((zg k vs).take i) 1 = some m /\ 0 <= n /\ n < m) (fun ⟨i, n⟩ => (zg k vs).length - i) ((0, 0)) (zl4 O) (zl5 O) (fun _ => rfl) (fun _ => rfl) (fun _ => rfl) (⟨zns _, rfl, 1, rfl, by omega, by omega⟩) ?_
    rintro ⟨i, n⟩ ⟨hi, hrk, m, hm, hn0, hn1⟩
    show V _ _ _ _ _ ((11, .int .i64 n) :: (33, .int .i64 i) :: _) _ (_) _
    refine Vs 6 O ?_
    refine zjn O (fun hlt => ?_) (fun hlt => ?_)
    ·
     refine Vs 7 O ?_
     obtain ⟨x, he_x, hm_x⟩ := gE_ (zg k vs) (i) (by omega)
     obtain ⟨b_x, o_x, c_x, ha_x, hd_x, hc_x, hR_x⟩ := hos.atD he_x
     obtain rfl := hR_x
     refine zm1 1000 0 O O (fun h_ => by have h1_ := hlow _ h_; have h2_ := hd_x; first | omega | exact h1_ h2_) hc_x ?_
     refine V.ix 1000 tR22 ts89 O ha_x (by omega) (_) (rfl) O ?_
     refine Vs 1 O ?_
     refine V.alloc 13 tz89 O O (fun b13 => ?_)
     refine Vs 6 O ?_
     obtain ⟨y, he_y, hm_y⟩ := gE_ r (i) (by omega)
     obtain ⟨b_y, o_y, c_y, ha_y, _, hc_y, hR_y⟩ := hr.at he_y
     obtain rfl := hR_y
     refine zm0 2000 1 O O hc_y ?_
     have hry : i < r.length := by omega
     have hgx := hg x (xw hm_x)
     unfold ym at hgx
     dsimp only at hgx
     have hdx := yC he_x
     have hdy := yC he_y
     refine Vq (by kernel_rfl) ?_
     refine Vs 2 O ?_
     refine zlL 2000 tR27 ts3 O ha_y (by omega) (_) (rfl) O ?_
     refine Vs 5 O ?_
     refine zlh 45 O (fun b1 => ?_) (fun b1 => ?_)
     ·
      refine Vs 24 O ?_
      refine zjK tr61 O O (fun w hI => ⟨_, rfl, by unfold qg; rw [zno hc, zno hel, <- hrk, hdx, hdy]; unfold zcF; rw [zno (by omega)], hI.k1⟩)
     ·
      refine Vs 2 O ?_
      refine zlL 2000 tR27 ts3 O ha_y (by omega) (_) (rfl) O ?_
      refine Vs 7 O ?_
      refine zjn O (fun d1 => ?_) (fun d1 => ?_)
      ·
       refine Vs 13 O ?_
       refine zjK tr61 O O (fun w hI => ⟨_, rfl, by unfold qg; rw [zno hc, zno hel, <- hrk, hdx, hdy]; unfold zcF; rw [zno (by omega)], hI.k1⟩)
      ·
       obtain ⟨m', hm'⟩ := zdL hc (i + 1)
       have hp := yh k ((zg k vs).take (i + 1)) 1 m' (fun v hv => hg v (xw (List.mem_of_mem_take hv))) (by omega) (by omega) hm'
       have hst := hm'
       rw [zh he_x, zX, hm] at hst
       have hkx : x.kind = k := of_decide_eq_true (List.mem_filter.1 hm_x).2
       have hmm : m * (x.high - x.low + 1) = m' := by
        simp only [Option.bind, yc] at hst
        rw [zno hkx] at hst
        split at hst
        . cases hst
        . exact Option.some.inj hst
       have hrs := zeN (s := x.high - x.low + 1) (x := y) (l := x.low) hn0 hn1 (by omega) (by omega) (by omega)
       refine Vs 2 O ?_
       refine Vw [1000, 13, 2000] [] O ?_
       refine Vd [0, 1, 4, 5, 9, 10] 0 (by kernel_rfl) O O O ?_
       refine VD.ix 6 2000 tR27 ts3 O (by kernel_rfl) O ha_y (by omega) (_) (rfl) O ?_
       refine Vd [7] 0 (by kernel_rfl) O O O ?_
       refine zlU 2 0 Tryz.call120 O (by kernel_rfl) O O (fun w hI => js x w (hg x (xw hm_x))) ?_
       refine Vb [3, 8, 11, 12] 0 (by kernel_rfl) O O O (by omega) ?_
       refine zkr (by kernel_rfl) ?_
       refine Va 6 O (by omega) ?_
       refine zjy ((i + 1, n * (x.high - x.low + 1) + y - x.low)) (zl4 O) (zl5 O) (⟨by omega, by rw [<- hrk, hdx, hdy]; conv => rhs; unfold zcF; rw [znn (by omega)], m', hm', by omega, by omega⟩) (by first | omega | (dsimp only; omega)) 0 O O
    ·
     have : i = (zg k vs).length := by omega
     subst this
     rw [List.drop_length, <- hel, List.drop_length] at hrk
     refine Vs 13 O ?_
     refine zjK tr61 O O (fun w hI => ⟨_, rfl, by unfold qg; rw [zno hc, zno hel, <- hrk]; rfl, hI.k1⟩)
 ·
  refine Vs 10 O ?_
  refine zlV tc119 O (fun w hI => qb vs k vv D w hk hg (Tr1 hI.k0 hvs) hlen) ?_
  rintro rr w1 w2 hI1 hk12 ⟨vl, rfl, _, _⟩ hlow
  refine Vs 18 O ?_
  refine zjn O (fun c0 => ?_) (fun c0 => ?_)
  ·
   refine Vs 10 O ?_
   refine zjK tr61 O O (fun w hI => ⟨_, rfl, by unfold qg; rw [znn hc, znn hc], hI.k1⟩)
  . exact absurd (by rw [znn hc]; decide) c0
def zU : List Vr -> Int -> List Int × Int
 | [], n => ([], n)
 | v :: vs, n => ((v.low + (zU vs n).2.tmod (v.high - v.low + 1)) :: (zU vs n).1, (zU vs n).2.tdiv (v.high - v.low + 1))
theorem kZ : ∀ (vs : List Vr) (n : Int), (zU vs n).1.length = vs.length
 | [], _ => rfl
 | v :: vs, n => by simp [zU, kZ vs n]
structure UnIn (os : List Vr) (n : Int) (i q : Int) (xs : List Int) : Prop where
 low : -1 <= i
 lt : i < os.length
 row : xs = List.replicate (i + 1).toNat 0 ++ (zU (os.drop (i + 1).toNat) n).1
 rest : q = (zU (os.drop (i + 1).toNat) n).2
 q0 : 0 <= q /\ q <= n
theorem zkA {os : List Vr} {n : Int} (h : 0 <= n) : UnIn os n ((os.length : Int) - 1) n (List.replicate os.length 0) := by
 have e : ((os.length : Int) - 1 + 1).toNat = os.length := by omega
 exact ⟨by omega, by omega, by rw [e, List.drop_length]; simp [zU], by rw [e, List.drop_length]; rfl, h, Int.le_refl _⟩
theorem UnIn.len {os : List Vr} {n i q : Int} {xs : List Int} (h : UnIn os n i q xs) : xs.length = os.length := by
 have := h.low
 have := h.lt
 rw [h.row, znl, List.length_replicate, kZ, List.length_drop]
 omega
theorem zgh {k : Int} {vs : List Vr} (hg : ∀ v ∈ vs, ym (v.low, v.high)) (h : (zn k vs).isSome = true) : (zn k vs).getD 0 <= 4096 := by
 cases hm : zn k vs with
 | none => rw [hm] at h; cases h
 | some m => exact (yh k vs 1 m hg (by omega) (by omega) hm).2
theorem UnIn.step {os : List Vr} {n q : Int} {j : Nat} {xs : List Int} {x : Vr} (h : UnIn os n j q xs) (hx : os[j]? = some x) (hs : 1 <= x.high - x.low + 1) : UnIn os n ((j : Int) - 1) (q.tdiv (x.high - x.low + 1)) (xs.set j (x.low + q.tmod (x.high - x.low + 1))) := by
 have e1 : ((j : Int) + 1).toNat = j + 1 := by omega
 have e2 : ((j : Int) - 1 + 1).toNat = j := by omega
 have hx0 := h.row
 have hq0 := h.rest
 rw [e1] at hx0 hq0
 have hd : zU (os.drop j) n = ((x.low + q.tmod (x.high - x.low + 1)) :: (zU (os.drop (j + 1)) n).1, q.tdiv (x.high - x.low + 1)) := by
  rw [yC hx, zU, <- hq0]
 have hl := h.lt
 refine ⟨by omega, by omega, ?_, by rw [e2, hd], Int.tdiv_nonneg h.q0.1 (by omega), Int.le_trans (Int.tdiv_le_self _ h.q0.1) h.q0.2⟩
 rw [e2, hd, hx0, List.replicate_succ', List.append_assoc]
 rw [List.set_append_right _ _ (by simp)]
 simp
def zo (k : Int) (vs : List Vr) (n : Int) : Int :=
 if (zn k vs).isSome then (if n < 0 \/ (zn k vs).getD 0 <= n then 3 else 0) else 4
theorem qh (vs : List Vr) (k n : Int) (vv : Value) (D : Nat -> Prop) (W : World) (hk : 0 <= k /\ k <= 3) (hg : ∀ v ∈ vs, ym (v.low, v.high)) (hlen : vs.length <= 1000000) (hvs : SlR 5 RVr D W vv vs) :
  Calls Tryz.prog 121 #[vv, .int .i64 k, .int .i64 n] W (Ret fun rr w' => (∃ u, rr = .tuple #[u, .int .i64 (zo k vs n)] /\ (zo k vs n ≠ 0 -> u = .slice none 0 0) /\ (zo k vs n = 0 -> SlR 1 zt (fun b => W.heap.size <= b) w' u (zU (zg k vs) n).1)) /\ Ext W w') := by
 refine zlv Tryz.func121 O Tryz.ntmps121 O (zlE ?_)
 refine zjE (p := (zn k vs).isSome = true) (fun hc => ?_) (fun hc => ?_)
 ·
  refine Vs 10 O ?_
  refine zlV tc119 O (fun w hI => qb vs k vv D w hk hg (Tr1 hI.k0 hvs) hlen) ?_
  rintro rr w1 w2 hI1 hk12 ⟨vl, rfl, hs1, _⟩ hlow
  have hos := hs1 hc
  obtain ⟨al, cl, rfl⟩ := hos.form
  have hml := hos.max
  have hN := zgh hg hc
  have hol := znj (jt k vs) hlen
  refine Vs 18 O ?_
  refine zjn O (fun c0 => ?_) (fun c0 => ?_)
  . exact absurd (zno hc) c0
  ·
   refine Vs 5 O ?_
   refine zlh 28 O (fun c1 => ?_) (fun c1 => ?_)
   ·
    have hC : zo k vs n = 3 := by unfold zo; rw [zno hc, zno (.inl c1)]
    refine Vs 17 O ?_
    refine zjK tr121 O O (fun w hI => ⟨_, rfl, ⟨_, by rw [hC], fun _ => rfl, fun h => by rw [hC] at h; cases h⟩, hI.k1⟩)
   ·
    refine Vs 7 O ?_
    refine zjn O (fun c2 => ?_) (fun c2 => ?_)
    ·
     have hC : zo k vs n = 3 := by unfold zo; rw [zno hc, zno (.inr c2)]
     refine Vs 9 O ?_
     refine zjK tr121 O O (fun w hI => ⟨_, rfl, ⟨_, by rw [hC], fun _ => rfl, fun h => by rw [hC] at h; cases h⟩, hI.k1⟩)
    ·
     have hC : zo k vs n = 0 := by unfold zo; rw [zno hc, znn (by omega)]
     refine Vs 7 O ?_
     refine zkh 35 tu27 Tryz.el3 O (by omega) (by omega) (zs := List.replicate (zg k vs).length (.int .i64 0)) (ze3 _ _ O) (by simp) (fun b35 => ?_)
     refine zm2 35 O (e' := .row 3 1 (.slice (some ⟨b35, 0, none⟩) (zg k vs).length (zg k vs).length) (zg k vs).length ((List.replicate (zg k vs).length (0 : Int)).map zd)) (by rw [List.map_replicate]) ?_
     refine Va 13 O (by omega) ?_
     refine zm3 (σ := Int × Int × List Int) [8, 11] [] [] O (fun e ⟨i, q, xs⟩ => (12, .int .i64 i) :: (2, .int .i64 q) :: e) (fun e ⟨i, q, xs⟩ => (35, .row 3 1 (.slice (some ⟨b35, 0, none⟩) (zg k vs).length (zg k vs).length) (zg k vs).length (xs.map zd)) :: e) (fun ⟨i, q, xs⟩ => UnIn (zg k vs) n i q xs) (fun ⟨i, q, xs⟩ => (i + 1).toNat) ((((zg k vs).length : Int) - 1, n, List.replicate (zg k vs).length 0)) (zl4 O) (zl5 O) (fun _ => rfl) (fun _ => rfl) (fun _ => rfl) (zkA (by omega)) ?_
     rintro ⟨i, q, xs⟩ hU
     show V _ _ _ _ _ ((12, .int .i64 i) :: (2, .int .i64 q) :: _) _ ((35, .row 3 1 (.slice (some ⟨b35, 0, none⟩) (zg k vs).length (zg k vs).length) (zg k vs).length (xs.map zd)) :: _) _
     refine Vs 7 O ?_
     refine zjn O (fun hlt => ?_) (fun hlt => ?_)
     ·
      obtain ⟨j, rfl⟩ : ∃ j : Nat, i = j := ⟨i.toNat, by omega⟩
      have hjl := hU.lt
      refine Vs 8 O ?_
      obtain ⟨x, he_x, hm_x⟩ := gE_ (zg k vs) (j) (by omega)
      obtain ⟨b_x, o_x, c_x, ha_x, hd_x, hc_x, hR_x⟩ := hos.atD he_x
      obtain rfl := hR_x
      refine zm1 1000 0 O O (fun h_ => by have h1_ := hlow _ h_; have h2_ := hd_x; first | omega | exact h1_ h2_) hc_x ?_
      refine V.ix 1000 tR22 ts89 O ha_x (by omega) (_) (rfl) O ?_
      have hgx := hg x (xw hm_x)
      unfold ym at hgx
      dsimp only at hgx
      have hq := hU.q0
      have hxl := hU.len
      have hr0 := Int.tmod_nonneg (x.high - x.low + 1) hq.1
      have hr1 := Int.tmod_lt_of_pos q (show 0 < x.high - x.low + 1 by omega)
      refine Vs 1 O ?_
      refine zlT Tryz.call120 O (fun w hI => js x w (hg x (xw hm_x))) ?_
      refine Vs 4 O ?_
      refine Vw [1000] [] O ?_
      refine Vd [0, 1, 2, 3, 7, 8] 0 (by kernel_rfl) O O O ?_
      refine VD.ix 4 1000 tR22 ts89 O (by kernel_rfl) O ha_x (by omega) (_) (rfl) O ?_
      refine Vd [5, 6] 0 (by kernel_rfl) O O O ?_
      refine VD.pl 9 O (by kernel_rfl) O (fun w => R.rem O O (by omega) (by omega)) ?_
      refine Vb [10, 11] 0 (by kernel_rfl) O O O (by omega) ?_
      refine zlS 12 35 0 (j) ts3 O (by kernel_rfl) O O (by omega) (by simp; omega) ?_
      refine zkr (by kernel_rfl) ?_
      refine Vs 1 O ?_
      refine zm2 35 O (e' := .row 3 1 (.slice (some ⟨b35, 0, none⟩) (zg k vs).length (zg k vs).length) (zg k vs).length ((xs.set j (x.low + q.tmod (x.high - x.low + 1))).map zd)) (by rw [List.map_set] <;> rfl) ?_
      refine Vs 3 O ?_
      refine zll O (fun w hI => R.quo O O (by omega) (by omega)) ?_
      refine Va 9 O (by omega) ?_
      refine zjy (⟨(j : Int) - 1, q.tdiv (x.high - x.low + 1), xs.set j (x.low + q.tmod (x.high - x.low + 1))⟩) (zl4 O) (zl5 O) (hU.step he_x (by omega)) (by first | omega | (dsimp only; omega)) 0 O O
     ·
      have hi : i = -1 := by have := hU.low; omega
      subst hi
      have hx := hU.row
      simp at hx
      refine Vs 13 O ?_
      refine zjK tr121 O O (fun w hI => ⟨_, rfl, ⟨_, by rw [hC], fun h => absurd hC h, fun _ => by rw [<- hx]; exact zkx zd (fun _ _ => rfl) (hI.at 35 O) (fun b hb => hI.own 35 1 O O b hb)⟩, hI.k1⟩)
 ·
  refine Vs 10 O ?_
  refine zlV tc119 O (fun w hI => qb vs k vv D w hk hg (Tr1 hI.k0 hvs) hlen) ?_
  rintro rr w1 w2 hI1 hk12 ⟨vl, rfl, _, _⟩ hlow
  have hC : zo k vs n = 4 := by unfold zo; rw [znn hc]
  refine Vs 18 O ?_
  refine zjn O (fun c0 => ?_) (fun c0 => ?_)
  ·
   refine Vs 10 O ?_
   refine zjK tr121 O O (fun w hI => ⟨_, rfl, ⟨_, by rw [hC, znn hc], fun _ => rfl, fun h => by rw [hC] at h; cases h⟩, hI.k1⟩)
  . exact absurd (by rw [znn hc]; decide) c0
abbrev Ob := List Int × Int
theorem yI : ∀ (x y : List Int), xp y x = - xp x y
 | [], [] => rfl
 | [], _ :: _ => rfl
 | _ :: _, [] => rfl
 | a :: x, b :: y => by
  simp only [xp]
  have := yI x y
  (repeat' split); all_goals omega
theorem xI : ∀ {x y : List Int}, xp x y = 0 -> x = y
 | [], [], _ => rfl
 | [], _ :: _, h => by simp [xp] at h
 | _ :: _, [], h => by simp [xp] at h
 | a :: x, b :: y, h => by
  simp only [xp] at h
  split at h
  . simp at h
  ·
   split at h
   . simp at h
   . rw [show a = b by omega, xI h]
theorem jh : ∀ (x : List Int), xp x x = 0
 | [] => rfl
 | a :: x => by simp [xp, jh x]
theorem xx : ∀ {x y z : List Int}, xp x y < 0 -> xp y z < 0 -> xp x z < 0
 | [], [], _, h, _ => by simp [xp] at h
 | [], _ :: _, [], _, h => by simp [xp] at h
 | [], _ :: _, _ :: _, _, _ => by simp [xp]
 | _ :: _, [], _, h, _ => by simp [xp] at h
 | _ :: _, _ :: _, [], _, h => by simp [xp] at h
 | a :: x, b :: y, c :: z, h, h' => by
  simp only [xp] at h h' ⊢
  by_cases h1 : a < b
  ·
   by_cases h2 : b < c
   . rw [zno (by omega)]; omega
   ·
    by_cases h3 : c < b
    . rw [znn h2, zno h3] at h'; omega
    . rw [zno (by omega)]; omega
  ·
   by_cases h2 : b < a
   . rw [znn h1, zno h2] at h; omega
   ·
    rw [znn h1, znn h2] at h
    by_cases h3 : b < c
    . rw [zno (by omega)]; omega
    ·
     by_cases h4 : c < b
     . rw [znn h3, zno h4] at h'; omega
     ·
      rw [znn h3, znn h4] at h'
      rw [znn (by omega), znn (by omega)]
      exact xx h h'
theorem yW (x y : Ob) : yj y x = - yj x y := by
 unfold yj
 have := yI x.1 y.1
 (repeat' split); all_goals omega
theorem jB (x : Ob) : yj x x = 0 := by
 unfold yj
 simp [jh]
theorem za0 {x y : Ob} (h : yj x y = 0) : x = y := by
 unfold yj at h
 split at h
 . rename_i h1; exact absurd h h1
 ·
  rename_i h1
  split at h
  . simp at h
  ·
   split at h
   . simp at h
   . exact Prod.ext (xI (znm.1 h1)) (by omega)
theorem zgi {x y : Ob} : yj x y < 0 ↔ xp x.1 y.1 < 0 \/ (x.1 = y.1 /\ x.2 < y.2) := by
 unfold yj
 by_cases h : x.1 = y.1
 ·
  have h1 : xp x.1 y.1 = 0 := by rw [h]; exact jh _
  rw [znn (by rw [h1]; decide), h1]
  by_cases h2 : x.2 < y.2
  . simp [h2, h]
  ·
   rw [znn h2]
   by_cases h3 : y.2 < x.2
   . simp [h3, h2]
   . simp [h3, h2]
 ·
  have h1 : xp x.1 y.1 ≠ 0 := fun e => h (xI e)
  rw [zno h1]
  simp [h]
theorem qG {x y z : Ob} (h : yj x y < 0) (h' : yj y z < 0) : yj x z < 0 := by
 rw [zgi] at h h' ⊢
 rcases h with h | ⟨h1, h2⟩
 ·
  rcases h' with h' | ⟨h3, h4⟩
  . exact .inl (xx h h')
  . exact .inl (h3 ▸ h)
 ·
  rcases h' with h' | ⟨h3, h4⟩
  . exact .inl (h1 ▸ h')
  . exact .inr ⟨h1.trans h3, by omega⟩
abbrev Asc (l : List Ob) : Prop := l.Pairwise fun a b => yj a b < 0
theorem Asc.irr {l : List Ob} {x : Ob} (h : Asc (x :: l)) : x ∉ l := fun hm => by
 have := (List.pairwise_cons.1 h).1 x hm
 rw [jB] at this
 omega
theorem zeO : ∀ {l l' : List Ob}, Asc l -> Asc l' -> (∀ x, x ∈ l ↔ x ∈ l') -> l = l'
 | [], [], _, _, _ => rfl
 | [], y :: l', _, _, h => absurd ((h y).2 (znh ..)) (by simp)
 | x :: l, [], _, _, h => absurd ((h x).1 (znh ..)) (by simp)
 | x :: l, y :: l', h1, h2, h => by
  have hxy : x = y := by
   rcases znt.1 ((h x).1 (znh ..)) with e | e
   . exact e
   ·
    rcases znt.1 ((h y).2 (znh ..)) with e' | e'
    . exact e'.symm
    ·
     have a := (List.pairwise_cons.1 h2).1 x e
     have b := (List.pairwise_cons.1 h1).1 y e'
     have c := yW x y
     omega
  subst hxy
  rw [zeO (List.pairwise_cons.1 h1).2 (List.pairwise_cons.1 h2).2 fun z => ?_]
  constructor
  ·
   intro hz
   rcases znt.1 ((h z).1 (zng _ hz)) with rfl | h3
   . exact absurd hz h1.irr
   . exact h3
  ·
   intro hz
   rcases znt.1 ((h z).2 (zng _ hz)) with rfl | h3
   . exact absurd hz h2.irr
   . exact h3
def zgW (x : Ob) : List Ob -> List Ob
 | [] => [x]
 | y :: l => if yj x y < 0 then x :: y :: l else if x = y then y :: l else y :: zgW x l
def zdN (l : List Ob) : List Ob := l.foldr zgW []
theorem mem_insO {x z : Ob} : ∀ {l : List Ob}, z ∈ zgW x l ↔ z = x \/ z ∈ l
 | [] => by simp [zgW]
 | y :: l => by
  simp only [zgW]
  split
  . simp
  ·
   split
   . rename_i h; subst h; simp
   ·
    simp only [znt, mem_insO (l := l)]
    constructor
    ·
     rintro (h | h | h)
     . exact .inr (.inl h)
     . exact .inl h
     . exact .inr (.inr h)
    ·
     rintro (h | h | h)
     . exact .inr (.inl h)
     . exact .inl h
     . exact .inr (.inr h)
theorem zda {x : Ob} : ∀ {l : List Ob}, Asc l -> Asc (zgW x l)
 | [], _ => List.pairwise_singleton _ _
 | y :: l, h => by
  simp only [zgW]
  split
  ·
   rename_i h1
   refine List.pairwise_cons.2 ⟨fun z hz => ?_, h⟩
   rcases znt.1 hz with rfl | hz
   . exact h1
   . exact qG h1 ((List.pairwise_cons.1 h).1 z hz)
  ·
   split
   . exact h
   ·
    rename_i h1 h2
    refine List.pairwise_cons.2 ⟨fun z hz => ?_, zda (List.pairwise_cons.1 h).2⟩
    rcases mem_insO.1 hz with rfl | hz
    ·
     have a := yW z y
     have b : yj z y ≠ 0 := fun e => h2 (za0 e)
     omega
    . exact (List.pairwise_cons.1 h).1 z hz
theorem za1 {z : Ob} : ∀ {l : List Ob}, z ∈ zdN l ↔ z ∈ l
 | [] => Iff.rfl
 | x :: l => by
  show z ∈ zgW x (zdN l) ↔ _
  rw [mem_insO, za1, znt]
theorem za2 : ∀ (l : List Ob), Asc (zdN l)
 | [] => List.Pairwise.nil
 | _ :: l => zda (za2 l)
theorem zgj {l m : List Ob} (h : Asc l) (hm : ∀ x, x ∈ l ↔ x ∈ m) : l = zdN m := zeO h (za2 m) fun x => by rw [hm, za1]
theorem zbW {l s m : List Ob} (hp : s.Perm l) (hn : l.Nodup) (hs : s.Pairwise fun a b => ¬ yj b a < 0) (hm : ∀ x, x ∈ l ↔ x ∈ m) : s = zdN m := by
 have hsn : s.Nodup := hp.nodup_iff.2 hn
 refine zgj ?_ fun x => by rw [hp.mem_iff, hm]
 refine (hs.and hsn).imp ?_
 intro a b h
 have h1 := yW a b
 have h2 : yj a b ≠ 0 := fun e => h.2 (za0 e)
 omega
theorem zeP {l : List Ob} (h : Asc l) : l.Nodup := h.imp fun {a b} h e => by rw [e, jB] at h; omega
end Go.Proofs.YtaenledoagbddaaGreatDoor
namespace Go.GL
def ROb : Rel (List Int × Int) := fun D w o cs => ∃ v, cs = [v, .int .i64 o.2] /\ SlR 1 zt D w v o.1
def RQu : Rel (Int × List Int) := fun D w q cs => ∃ v, cs = [.int .i64 q.1, v] /\ SlR 1 zt D w v q.2
def RPg : Rel Fl := fun D w f cs => ∃ v1 v2 v3, cs = [v1, v2, v3] /\ RFl D w f v1 v2 v3
theorem zbX : zF ROb := fun _ _ _ _ hD hk _ _ ⟨v, h1, h2⟩ => ⟨v, h1, h2.stable za hD hk⟩
theorem ji : zF RQu := fun _ _ _ _ hD hk _ _ ⟨v, h1, h2⟩ => ⟨v, h1, h2.stable za hD hk⟩
theorem zbY : zF RPg := fun _ _ _ _ hD hk _ _ ⟨v1, v2, v3, h1, h2⟩ => ⟨v1, v2, v3, h1, h2.vars.stable yZ hD hk, h2.hatches.stable yE hD hk, h2.body.stable ze hD hk⟩
theorem zeQ : xO ROb := fun _ _ _ _ ⟨v, h1, h2⟩ => ⟨v, h1, h2.narrow (by omega) yR⟩
theorem zeR : xO RQu := fun _ _ _ _ ⟨v, h1, h2⟩ => ⟨v, h1, h2.narrow (by omega) yR⟩
theorem zeS : xO RPg := fun _ _ _ _ ⟨v1, v2, v3, h1, h2⟩ => ⟨v1, v2, v3, h1, h2.narrow⟩
instance : StC ROb := ⟨zbX⟩
instance : StC RQu := ⟨ji⟩
instance : StC RPg := ⟨zbY⟩
instance : Dt ROb := ⟨zbX, zeQ⟩
instance : Dt RQu := ⟨ji, zeR⟩
instance : Dt RPg := ⟨zbY, zeS⟩
theorem zir (D : Nat -> Prop) {w : World} (x : List Int × Int) (cs : List Value) (h : ROb D w x cs) : ∀ u ∈ cs, u.oneCell' = true := by
 obtain ⟨v, rfl, h1⟩ := h
 obtain ⟨a, c, rfl⟩ := h1.form
 simp [Value.oneCell']
@[ext] structure Ac where
 mode : Int
 budget : Int
 spent : Int
 left : List Int
 asked : List (Int × List Int)
deriving DecidableEq
structure RAc (D : Nat -> Prop) (w : World) (a : Ac) (v1 v2 : Value) : Prop where
 left : SlR 1 zt D w v1 a.left
 asked : SlR 2 RQu D w v2 a.asked
theorem RAc.ext {D : Nat -> Prop} {w w' : World} {a : Ac} {v1 v2 : Value} (h : RAc D w a v1 v2) (hk : Ext w w') : RAc D w' a v1 v2 := ⟨h.left.ext za hk, h.asked.ext ji hk⟩
instance {D : Nat -> Prop} {w w' : World} {a : Ac} {v1 v2 : Value} : Tr (RAc D w a v1 v2) w w' (RAc D w' a v1 v2) := ⟨fun h hk => RAc.ext h hk⟩
theorem RAc.wide {D D' : Nat -> Prop} {w : World} {a : Ac} {v1 v2 : Value} (h : RAc D w a v1 v2) (hD : ∀ q, D q -> D' q) : RAc D' w a v1 v2 := ⟨h.left.wide za hD, h.asked.wide ji hD⟩
end Go.GL
namespace Go.Proofs
open Go.Shelf
def Tryz.laysM171_ren : Go.Shelf.Ren := ⟨fun | 171 => 126 | 243 => 158 | 246 => 208 | 283 => 225 | 284 => 226 | 285 => 227 | 286 => 228 | 129 => 168 | 317 => 237 | 318 => 238 | 319 => 239 | 320 => 240 | 337 => 241 | 338 => 242 | n => n, fun | 3 => 3 | 9 => 9 | 2 => 2 | 4 => 4 | 171 => 247 | 0 => 0 | 53 => 207 | 37 => 160 | 5 => 5 | 173 => 249 | 212 => 257 | 51 => 205 | 20 => 20 | 213 => 258 | 46 => 172 | 232 => 259 | 233 => 260 | n => n, fun | 17 => 0 | 18 => 1 | 19 => 2 | n => n⟩
theorem Tryz.laysM171 : Go.Proofs.LaysM.n171 Tryz.prog Tryz.laysM171_ren := {
 mixed := by kernel_rfl
 f129 := Tryz.func168.trans (congrArg some (by kernel_rfl))
 f171 := Tryz.func126.trans (congrArg some (by kernel_rfl))
 f243 := Tryz.func158.trans (congrArg some (by kernel_rfl))
 f246 := Tryz.func208.trans (congrArg some (by kernel_rfl))
 f283 := Tryz.func225.trans (congrArg some (by kernel_rfl))
 f284 := Tryz.func226.trans (congrArg some (by kernel_rfl))
 f285 := Tryz.func227.trans (congrArg some (by kernel_rfl))
 f286 := Tryz.func228.trans (congrArg some (by kernel_rfl))
 f317 := Tryz.func237.trans (congrArg some (by kernel_rfl))
 f318 := Tryz.func238.trans (congrArg some (by kernel_rfl))
 f319 := Tryz.func239.trans (congrArg some (by kernel_rfl))
 f320 := Tryz.func240.trans (congrArg some (by kernel_rfl))
 f337 := Tryz.func241.trans (congrArg some (by kernel_rfl))
 f338 := Tryz.func242.trans (congrArg some (by kernel_rfl))
 t0 := tu0
 a0 := tg0
 z0 := ts0
 v0 := tz0
 t2 := Tryz.underlying2
 a2 := Tryz.isAgg2
 z2 := Tryz.sizeOf2
 v2 := Tryz.zeroValue2
 t3 := tu3
 a3 := tg3
 z3 := ts3
 v3 := tz3
 t4 := tu4
 a4 := tg4
 z4 := ts4
 v4 := tz4
 t5 := tu5
 a5 := tg5
 z5 := ts5
 v5 := tz5
 t9 := tu9
 a9 := tg9
 z9 := ts9
 v9 := tz9
 t20 := Tryz.underlying20
 a20 := Tryz.isAgg20
 z20 := Tryz.sizeOf20
 v20 := Tryz.zeroValue20
 t37 := tu160
 a37 := Tryz.isAgg160
 z37 := Tryz.sizeOf160
 v37 := Tryz.zeroValue160
 t46 := tu172
 a46 := Tryz.isAgg172
 z46 := ts172
 v46 := tz172
 t51 := tu205
 a51 := Tryz.isAgg205
 z51 := ts205
 v51 := tz205
 t53 := tu207
 a53 := Tryz.isAgg207
 z53 := ts207
 v53 := tz207
 t171 := Tryz.underlying247
 a171 := Tryz.isAgg247
 z171 := Tryz.sizeOf247
 v171 := Tryz.zeroValue247
 t173 := Tryz.underlying249
 a173 := Tryz.isAgg249
 z173 := Tryz.sizeOf249
 v173 := Tryz.zeroValue249
 t212 := Tryz.underlying257
 a212 := Tryz.isAgg257
 z212 := Tryz.sizeOf257
 v212 := Tryz.zeroValue257
 t213 := Tryz.underlying258
 a213 := Tryz.isAgg258
 z213 := Tryz.sizeOf258
 t232 := Tryz.underlying259
 a232 := Tryz.isAgg259
 z232 := Tryz.sizeOf259
 v232 := Tryz.zeroValue259
 t233 := Tryz.underlying260
 a233 := Tryz.isAgg260
 z233 := Tryz.sizeOf260
 v233 := Tryz.zeroValue260
 g17 := by kernel_rfl
 g18 := by kernel_rfl
 g19 := by kernel_rfl
 i0 := by kernel_rfl
 i2 := by kernel_rfl
 i3 := by kernel_rfl
 i4 := by kernel_rfl
 i5 := by kernel_rfl
 i9 := by kernel_rfl
 i20 := by kernel_rfl
 i37 := by kernel_rfl
 i46 := by kernel_rfl
 i51 := by kernel_rfl
 i53 := by kernel_rfl
 i171 := by kernel_rfl
 i173 := by kernel_rfl
 i212 := by kernel_rfl
 i232 := by kernel_rfl
 i233 := by kernel_rfl
 m17 := by kernel_rfl
 m18 := by kernel_rfl
 m19 := by kernel_rfl }
open Go.RowKit Go.Sort Go.Lib in
theorem Tryz.strconv_Itoa (n : Int) (h0 : -9223372036854775808 <= n) (h1 : n <= 9223372036854775807) (w : World) (htab : Lib.TabIs Tryz.prog w "internal/strconv.uint64pow10" .u64 Lib.pow10Tab) :
  Calls Tryz.prog 126 #[.int .i64 n] w fun e w' => e = .returned (.string ⟨(Lib.itoa n).toArray⟩) /\ ∃ k os, w' = grow (w.drewN k) os := Any.strconv_Itoa Tryz.laysM171 n h0 h1 w htab
end Go.Proofs
namespace Go.Proofs.YtaenledoagbddaaGreatDoor
open Go.GL
theorem zb2 (a : List UInt8) : Lib.strCells ⟨a.toArray⟩ = Lib.byteCells a := by simp [Lib.strCells_eq]
theorem zb3 (a : List UInt8) : (⟨a.toArray⟩ : ByteArray).size = a.length := by simp [ByteArray.size]
def Tab (w : World) : Prop := Lib.TabIs Tryz.prog w "internal/strconv.uint64pow10" .u64 Lib.pow10Tab
theorem Tab.ext {w w' : World} (h : Tab w) (hk : Ext w w') : Tab w' :=
 Go.Joins.tab_stays (P := Tryz.prog) (g := 0) (by kernel_rfl) h (B := w.heap.size) ⟨hk.os, hk.tape, hk.output, hk.size, fun k hk' => hk.block k hk' (fun h => h)⟩ (znC _)
instance {w w' : World} : Tr (Tab w) w w' (Tab w') := ⟨Tab.ext⟩
theorem zcG (w : World) (k : Nat) (os : Array Obj) : Ext w (Go.Sort.grow (w.drewN k) os) := by
 refine ⟨rfl, rfl, rfl, Nat.le_add_right _ _, ?_, fun i hi _ => ?_⟩
 ·
  show w.heap.size <= (w.heap ++ os).size
  rw [Array.size_append]; omega
 ·
  show (w.heap ++ os)[i]? = _
  rw [Array.getElem?_append_left hi]
theorem zhx (n : Int) (h0 : -9223372036854775808 <= n) (h1 : n <= 9223372036854775807) (w : World) (ht : Tab w) : Calls Tryz.prog 126 #[.int .i64 n] w (Ret fun r w' => r = .string ⟨(Lib.itoa n).toArray⟩ /\ Ext w w') := by
 refine (Tryz.strconv_Itoa n h0 h1 w ht).mono ?_
 rintro e w' ⟨rfl, k, os, rfl⟩
 exact ⟨_, rfl, rfl, zcG w k os⟩
abbrev zi7 (k1 k2 b : Nat) (p v : Value) (m : Nat) (bs : List Value) : Hp := [(k1, .own b [p, v] 162), (k2, .row 5 1 v m bs)]
theorem zbZ {k1 k2 b m : Nat} {p v : Value} {bs : List Value} {w : World} (hB : Blk w b [p, v] 162) (hR : w.ownsRow 0 5 1 v m bs) (hne : v.ownBlock ≠ some b) :
  (∀ x ∈ zi7 k1 k2 b p v m bs, x.2.holds w /\ x.2.loc /\ (∀ b, ¬ x.2.fz b) /\ ∀ q, x.2.S q -> q < w.heap.size) /\ (zi7 k1 k2 b p v m bs).Pairwise (fun x y => ∀ q, x.2.S q -> ¬ y.2.S q) := by
 refine ⟨fun x hx => ?_, List.pairwise_cons.2 ⟨fun x hx q hq hs => ?_, List.pairwise_singleton _ _⟩⟩
 ·
  simp only [znt, List.not_mem_nil, or_false] at hx
  rcases hx with rfl | rfl
  . exact ⟨hB, trivial, fun _ h => h, fun q hq => by have hq : q = b := hq; rw [hq]; exact hB.lt⟩
  . exact ⟨hR, trivial, fun _ h => h, fun q hq => xl hR hq⟩
 ·
  rw [znv] at hx
  subst hx
  have hq : q = b := hq
  subst hq
  exact hne hs
theorem zeT {H : Hp} {p v : Value} {b : Nat} {w : World} (hp : p = .pointer none \/ p = .pointer (some ⟨b, 0, none⟩)) (hB : Blk w b [p, v] 162) (h0 : zi H 900 = some (.own b [p, v] 162)) :
  Calls Tryz.prog 157 #[.pointer (some ⟨b, 0, none⟩)] w (Ret fun r w' => ∃ _x : Unit, r = .tuple #[] /\ Hands H [900] [(900, .own b [.pointer (some ⟨b, 0, none⟩), v] 162)] w w') := by
 refine (zbw p v b hp w hB).mono ?_
 rintro e w' ⟨_, rfl, rfl, h1, h2⟩
 refine ⟨_, rfl, (), rfl, h2.mono fun q _ hq => ⟨_, zf h0, rfl, hq⟩, fun x hx => ?_, List.pairwise_singleton _ _⟩
 rw [znv] at hx
 subst hx
 exact ⟨h1, trivial, fun _ h => h, fun q hq => ⟨.inl ⟨_, zf h0, rfl, hq⟩, by have hq : q = b := hq; rw [hq]; exact h1.lt⟩⟩
theorem ziS {k1 k2 b m q : Nat} {p v : Value} {bs : List Value} (h : HS (zi7 k1 k2 b p v m bs) q) : q = b \/ v.ownBlock = some q := by
 obtain ⟨x, hx, hq⟩ := h
 simp only [znt, List.not_mem_nil, or_false] at hx
 rcases hx with rfl | rfl
 . exact .inl hq
 . exact .inr hq
theorem zjb {H : Hp} {w0 w : World} {b m m' : Nat} {p p' v v' : Value} {bs bs' : List Value} (hI : VI [(w0, HS (zi7 900 901 b p v m bs))] H w) (h0 : zi H 900 = some (.own b [p', v'] 162)) (h1 : zi H 901 = some (.row 5 1 v' m' bs')) : ∀ q, v'.ownBlock = some q -> v.ownBlock = some q \/ w0.heap.size <= q := by
 intro q hq
 rcases (hI.base _ (znh ..)).2 _ (zf h1) q hq with h | h
 ·
  rcases ziS h with h | h
  . exact absurd hq (fun hq => zk hI.apart h0 h1 O b O (h ▸ hq))
  . exact .inl h
 . exact .inr h
theorem zcH (p v : Value) (b : Nat) (bs : List Value) (s : ByteArray) (hp : p = .pointer none \/ p = .pointer (some ⟨b, 0, none⟩)) (W : World) (hB : Blk W b [p, v] 162) (hR : W.ownsRow 0 5 1 v bs.length bs) (hne : v.ownBlock ≠ some b) (h0 : 0 < s.size) (hlen : bs.length + s.size <= 140737488355328) :
  Calls Tryz.prog 125 #[.pointer (some ⟨b, 0, none⟩), .string s] W (Ret fun r w' => r = .tuple #[.int .i64 s.size, .nilIface] /\ ∃ v', Blk w' b [.pointer (some ⟨b, 0, none⟩), v'] 162 /\ w'.ownsRow 0 5 1 v' (bs.length + s.size) (bs ++ Lib.strCells s) /\ v'.ownBlock ≠ some b /\ Keep (fun q => q = b \/ v.ownBlock = some q) W w' /\ ∀ q, v'.ownBlock = some q -> v.ownBlock = some q \/ W.heap.size <= q) := by
 refine zlu Tryz.func125 O Tryz.ntmps125 O (zmi [(900, .own b [p, v] 162), (901, .row 5 1 v bs.length bs)] (zbZ (k1 := 900) (k2 := 901) hB hR hne).1 (zbZ (k1 := 900) (k2 := 901) hB hR hne).2 ?_)
 refine zlK 0 900 0 O O ?_
 refine Vs 9 O ?_
 refine zmj [900] (Hn := fun _x : Unit => [(900, .own b [.pointer (some ⟨b, 0, none⟩), v] 162)]) [(0, some (900, 0)), (6, some (900, 0))] Tryz.call157 O (fun _ _ => rfl) (fun _ => rfl) (fun w hI => zeT hp (hI.at 900 O) O) ?_
 rintro _ ⟨⟩ rfl
 refine Vs 10 O ?_
 refine zmx 901 tu160 tu9 Tryz.el5 O (h0) (by omega) (by omega) (fun u901 => ?_)
 refine zlP 901 O (by omega) ?_
 rintro bq cq rfl hcap_901
 refine Vs 14 O ?_
 refine zjK Tryz.results125 O O (fun w hI => ⟨_, rfl, rfl, _, hI.at 900 rfl, hI.at 901 rfl, fun h => zk hI.apart (k := 900) (k' := 901) O O O b O h, hI.k0.mono (fun q _ h => ziS h), zjb hI O rfl⟩)
open Go.GL Go.ChangeShapes Go.WideShapes Go.ChangeAt Go.RowKit
def zjc {H : Type} : List (String × DataW H) := [("math/bits.deBruijn32tab", Rows.laid_math_bits_deBruijn32tab), ("math/bits.deBruijn64tab", Rows.laid_math_bits_deBruijn64tab), ("internal/strconv.uint64pow10", Rows.laid_internal_strconv_uint64pow10)]
theorem zis {W : World} (h : laidMet Tryz.prog zjc W) : Tab W := by
 obtain ⟨ps, ⟨_, _, _, _, _, _, _, _, _, _, ⟨_, _, _, _, _, _, _, _, _, _, ⟨g, t, cs, fuel, p, q, hg, ht, hvar, hd, _, _⟩, _⟩, _⟩, _⟩ := h
 obtain rfl := Option.some.inj ((show Tryz.prog.globalNamed "internal/strconv.uint64pow10" = some 0 by kernel_rfl).symm.trans hg)
 obtain rfl := Option.some.inj ((show (Tryz.prog.globals[0]?).map (·.type) = some 257 by kernel_rfl).symm.trans ht)
 rw [show (Rows.laid_internal_strconv_uint64pow10 : DataW Unit) = Lib.tabData .u64 Lib.pow10Tab by kernel_rfl] at hd
 show W.var? _ _ = _
 have h1 := Lib.cells_of_tab (n := 20) (e := 207) (by kernel_rfl) (by kernel_rfl) (by kernel_rfl) (by kernel_rfl) hd
 rw [hvar, <- h1]
def zeU : DataW Unit -> Array Value
 | .agg l => (l.map fun d => match d with
  | .lit (.int k z) => Value.int k z
  | _ => .int .i64 0).toArray
 | _ => #[]
def ziY (cs : Array Value) : Obj -> Obj
 | .cells _ t frozen => .cells cs t frozen
 | o => o
noncomputable def zeV (os : Os) : World :=
 let w0 := World.holding Tryz.prog os ⟨#[], #[], []⟩
 { w0 with heap := ((w0.heap.modify 0 (ziY (zeU Rows.laid_internal_strconv_uint64pow10))).modify 1 (ziY (zeU Rows.laid_math_bits_deBruijn32tab))).modify 2 (ziY (zeU Rows.laid_math_bits_deBruijn64tab)) }
set_option maxRecDepth 100000 in
theorem zb4 (os : Os) (args : Array Value) : laidMet Tryz.prog zjc ((zeV os).forCall (fun _ _ => 0) ⟨#[], args, []⟩).memory :=
 laidMet_of_run' 8 (by kernel_rfl) (by kernel_rfl)
end Go.Proofs.YtaenledoagbddaaGreatDoor
namespace Go.GL
open Go.RowKit Go.ChangeMaps
section
variable {κ : Type} [DecidableEq κ]
def lkg : List (κ × Value) -> κ -> Option (Nat × Value)
 | [], _ => none
 | (a, v) :: r, k => if k = a then some (0, v) else (lkg r k).map fun p => (p.1 + 1, p.2)
def jj : List (κ × Value) -> κ -> Option Value
 | [], _ => none
 | (a, v) :: r, k => if k = a then some v else jj r k
def yy : List (κ × Value) -> κ -> Value -> List (κ × Value)
 | [], k, v => [(k, v)]
 | (a, u) :: r, k, v => if k = a then (k, v) :: r else (a, u) :: yy r k v
theorem jk (l : List (κ × Value)) (k k' : κ) (v : Value) : jj (yy l k v) k' = if k' = k then some v else jj l k' := by
 induction l with
 | nil => simp [yy, jj]
 | cons x r ih =>
  obtain ⟨a, u⟩ := x
  simp only [yy]
  by_cases h : k = a
  ·
   subst h
   rw [zno rfl]
   simp only [jj]
   split <;> rfl
  ·
   rw [znn h]
   simp only [jj, ih]
   by_cases h1 : k' = a
   ·
    subst h1
    rw [zno rfl, znn (fun e => h e.symm), zno rfl]
   . rw [znn h1, znn h1]
theorem zeW (l : List (κ × Value)) (k : κ) : jj l k = (lkg l k).map (·.2) := by
 induction l with
 | nil => rfl
 | cons x r ih =>
  obtain ⟨a, u⟩ := x
  simp only [jj, lkg]
  split
  . rfl
  . rw [ih, Option.map_map]; rfl
theorem zb5 {l : List (κ × Value)} {k : κ} {p : Nat × Value} (v : Value) (h : lkg l k = some p) : l[p.1]? = some (k, p.2) /\ l.set p.1 (k, v) = yy l k v := by
 induction l generalizing p with
 | nil => simp [lkg] at h
 | cons x r ih =>
  obtain ⟨a, u⟩ := x
  simp only [lkg] at h
  simp only [yy]
  split at h
  . rename_i h1; cases h; rw [zno h1, h1]; exact ⟨rfl, rfl⟩
  ·
   rename_i h1
   obtain ⟨q, h2, rfl⟩ := Option.map_eq_some_iff.1 h
   obtain ⟨h3, h4⟩ := ih h2
   rw [znn h1]
   exact ⟨by simpa using h3, by simpa using h4⟩
theorem zdb {l : List (κ × Value)} {k : κ} (v : Value) (h : lkg l k = none) : l ++ [(k, v)] = yy l k v := by
 induction l with
 | nil => rfl
 | cons x r ih =>
  obtain ⟨a, u⟩ := x
  simp only [lkg] at h
  simp only [yy]
  split at h
  . cases h
  ·
   rename_i h1
   rw [znn h1, List.cons_append, ih (by simpa using h)]
theorem qr {l : List (κ × Value)} {k : κ} {v : Value} (h : (l.map (·.1)).Nodup) : ((yy l k v).map (·.1)).Nodup := by
 have hm : ∀ (l : List (κ × Value)) (x : κ), x ∈ (yy l k v).map (·.1) -> x = k \/ x ∈ l.map (·.1) := by
  intro l
  induction l with
  | nil => intro x hx; exact .inl (by simpa [yy] using hx)
  | cons y r ih =>
   obtain ⟨a, u⟩ := y
   intro x hx
   rw [yy] at hx
   split at hx
   ·
    rename_i e
    rw [List.map_cons] at hx ⊢
    rcases znt.1 hx with e2 | hx
    . exact .inl e2
    . exact .inr (zng _ hx)
   ·
    rw [List.map_cons] at hx ⊢
    rcases znt.1 hx with e2 | hx
    . exact .inr (e2 ▸ znh ..)
    . exact (ih x hx).imp id fun g => zng _ g
 induction l with
 | nil => simp [yy]
 | cons y r ih =>
  obtain ⟨a, u⟩ := y
  rw [List.map_cons, List.nodup_cons] at h
  rw [yy]
  split
  ·
   rename_i e
   rw [List.map_cons, List.nodup_cons]
   exact ⟨by rw [e]; exact h.1, h.2⟩
  ·
   rename_i e
   rw [List.map_cons, List.nodup_cons]
   exact ⟨fun g => (hm r _ g).elim (fun g => e g.symm) h.1, ih h.2⟩
structure KeyOk (P : Program) (kt : TypeId) (ke : κ -> Value) : Prop where
 check : ∀ k b w, (Instr.checkKey b 10000 kt (ke k)).run P w = .ok () w
 find : ∀ k (es : List MapEntry) (l : List (κ × Value)) w, (l.map (·.1)).Nodup -> es.map (fun e => (e.key, e.val)) = l.map (fun p => (ke p.1, p.2)) -> (Instr.findKey kt (ke k) es).run P w = .ok (lkg l k) w
 stays : ∀ k, Instr.sameBits 10000 (ke k) (ke k) = true
def MapG (ke : κ -> Value) (w : World) (m : Nat) (l : List (κ × Value)) : Prop :=
 ∃ (es : Array MapEntry) (clock : Nat), w.heap[m]? = some (.map es clock) /\ es.toList.map (fun e => (e.key, e.val)) = l.map (fun p => (ke p.1, p.2)) /\ (l.map (·.1)).Nodup
variable {ke : κ -> Value}
omit [DecidableEq κ] in
theorem MapG.keep {w w' : World} {S : Nat -> Prop} {m : Nat} {l : List (κ × Value)} (h : MapG ke w m l) (hk : Keep S w w') (hS : ¬ S m) : MapG ke w' m l := by
 obtain ⟨es, c, h1, r⟩ := h
 exact ⟨es, c, by rw [hk.block m (Array.getElem?_eq_some_iff.1 h1).1 hS]; exact h1, r⟩
omit [DecidableEq κ] in
theorem MapG.ext {w w' : World} {m : Nat} {l : List (κ × Value)} (h : MapG ke w m l) (hk : Ext w w') : MapG ke w' m l := h.keep hk (fun h => h)
omit [DecidableEq κ] in
theorem MapG.lt {w : World} {m : Nat} {l : List (κ × Value)} (h : MapG ke w m l) : m < w.heap.size := by
 obtain ⟨es, c, h1, r⟩ := h
 exact (Array.getElem?_eq_some_iff.1 h1).1
theorem zdc {d : TypeDesc} (hd : ∀ a b : κ, Instr.sameNow d (ke a) (ke b) = some (decide (a = b))) (k : κ) : ∀ (es : List MapEntry) (l : List (κ × Value)) (i : Nat), es.map (fun e => (e.key, e.val)) = l.map (fun p => (ke p.1, p.2)) -> Instr.findNow d (ke k) es i = some ((lkg l k).map fun p => (i + p.1, p.2))
 | [], [], i, _ => rfl
 | [], _ :: _, i, h => by simp at h
 | _ :: _, [], i, h => by simp at h
 | e :: es, (a, v) :: l, i, h => by
  simp only [List.map_cons, List.cons.injEq, Prod.mk.injEq] at h
  rw [Instr.findNow, h.1.1, lkg, hd]
  by_cases hk : k = a
  . simp [hk, h.1.2]
  ·
   simp only [hk, decide_false, if_false]
   rw [zdc hd k es l (i + 1) h.2]
   cases lkg l k <;> simp <;> omega
theorem zmP {P : Program} {kt : TypeId} {d : TypeDesc} (hk : P.underlying kt = some d) (hd : ∀ a b : κ, Instr.sameNow d (ke a) (ke b) = some (decide (a = b))) (h2 : ∀ k, MapKept.IsKey d (ke k)) (h3 : ∀ k, Instr.sameBits 10000 (ke k) (ke k) = true) : KeyOk P kt ke where
 check := fun k b w => MapKept.run_checkKey hk (h2 k) b 9999
 find := fun k es l w _ h => by
  have := zdc hd k es l 0 h
  rw [MapKept.run_findKey (P := P) (w := w) hk this]
  cases lkg l k <;> simp
 stays := h3
theorem KeyOk.str {P : Program} {kt : TypeId} (hk : P.underlying kt = some .string) : KeyOk P kt (Value.string) :=
 zmP hk (fun a b => by
  show some (a == b) = _
  congr 1
  rw [Bool.eq_iff_iff, MapKept.bytes_beq, decide_eq_true_iff]) (fun _ => trivial) (fun k => by
  show (k == k) = true
  rw [MapKept.bytes_beq])
theorem KeyOk.int {P : Program} {kt : TypeId} (hk : P.underlying kt = some (.int .i64)) : KeyOk P kt (Value.int .i64) :=
 zmP hk (fun a b => by
  simp only [Instr.sameNow, if_true]
  rfl) (fun _ => rfl) (fun k => by simp [Instr.sameBits])
theorem zgX {l : List (κ × Value)} (hn : (l.map (·.1)).Nodup) {j : Nat} {k : κ} {v : Value} (h : l[j]? = some (k, v)) : lkg l k = some (j, v) := by
 induction l generalizing j with
 | nil => simp at h
 | cons x r ih =>
  obtain ⟨a, u⟩ := x
  rw [List.map_cons, List.nodup_cons] at hn
  cases j with
  | zero =>
   simp only [List.getElem?_cons_zero, Option.some.injEq, Prod.mk.injEq] at h
   rw [lkg, zno h.1.symm, h.2]
  | succ j =>
   simp only [List.getElem?_cons_succ] at h
   rw [lkg, znn (fun e : k = a => hn.1 (e ▸ List.mem_map.2 ⟨_, zne h, rfl⟩)), ih hn.2 h]
   rfl
theorem zit {l : List (κ × Value)} {k : κ} (h : ∀ p ∈ l, p.1 ≠ k) : lkg l k = none := by
 induction l with
 | nil => rfl
 | cons x r ih =>
  obtain ⟨a, u⟩ := x
  rw [lkg, znn (fun e => h _ (znh ..) e.symm), ih fun p hp => h p (zng _ hp)]
  rfl
theorem zmQ {P : Program} {kt : TypeId} (K : WideMaps.KeyLaw P kt) (hk : ∀ k : κ, ∃ l, keyOf P kt (ke k) = some l) (hi : ∀ a b : κ, ke a = ke b -> a = b) (h3 : ∀ k, Instr.sameBits 10000 (ke k) (ke k) = true) : KeyOk P kt ke where
 check := fun k b w => by
  obtain ⟨l, hl⟩ := hk k
  exact K.check w b hl
 find := fun k es l w hn h => by
  obtain ⟨lx, hlx⟩ := hk k
  have hlen : es.length = l.length := by have := congrArg List.length h; simpa using this
  have hat : ∀ (j : Nat) (e : MapEntry), es[j]? = some e -> ∃ p : κ × Value, l[j]? = some p /\ e.key = ke p.1 /\ e.val = p.2 := fun j e he => by
   have := congrArg (fun L => L[j]?) h
   simp only [znu, he, Option.map_some] at this
   obtain ⟨p, hp, e2⟩ := Option.map_eq_some_iff.1 this.symm
   obtain ⟨e3, e4⟩ := Prod.mk.inj e2
   exact ⟨p, hp, e3.symm, e4.symm⟩
  rcases K.find w hlx es (fun e he => by
   obtain ⟨j, hj⟩ := List.mem_iff_getElem?.1 he
   obtain ⟨p, _, e1, _⟩ := hat j e hj
   obtain ⟨l', hl'⟩ := hk p.1
   exact ⟨l', by rw [e1]; exact hl'⟩) with ⟨f1, f2⟩ | ⟨j, e, f1, f2, f3⟩
  ·
   rw [f1, zit fun p hp e => ?_]
   obtain ⟨j, hj⟩ := List.mem_iff_getElem?.1 hp
   have hjl := (znr.1 hj).1
   obtain ⟨x, hx⟩ : ∃ x, es[j]? = some x := ⟨_, znd (by omega)⟩
   obtain ⟨q, hq, e1, _⟩ := hat j x hx
   rw [hj] at hq
   cases hq
   exact f2 x (zne hx) (by rw [e1, e])
  ·
   obtain ⟨p, hp, e1, e2⟩ := hat j e f2
   have hpk := hi _ _ (e1.symm.trans f3)
   rw [f1, zgX hn (j := j) (v := p.2) (by rw [hp, <- hpk]), e2]
 stays := h3
section
variable {P : Program} {w : World} {m : Nat} {l : List (κ × Value)} {t kt et : TypeId}
theorem za3 (hK : KeyOk P kt ke) (h : MapG ke w m l) (ht : P.underlying t = some (.map kt et)) {z : Value} (hz : ∀ w, (zeroValue et).run P w = .ok z w) (k : κ) (ok : Bool) : (Instr.lookup t (.map (some m)) (ke k) ok).run P w = .ok (if ok then .tuple #[(jj l k).getD z, .bool (jj l k).isSome] else (jj l k).getD z) w := by
 obtain ⟨es, c, h1, h2, hn⟩ := h
 have h5 := hK.find k _ _ w hn h2
 have h7 := zeW l k
 cases h6 : lkg l k with
 | none => rw [h6] at h5 h7; cases ok <;> simp [Instr.lookup, run_underlying ht, MapKept.run_getObj_map h1, hK.check, h5, hz, Result.andThen, h7]
 | some p => rw [h6] at h5 h7; cases ok <;> simp [Instr.lookup, run_underlying ht, MapKept.run_getObj_map h1, hK.check, h5, Result.andThen, h7]
theorem zcI (hK : KeyOk P kt ke) (h : MapG ke w m l) (ht : P.underlying t = some (.map kt et)) (k : κ) (v : Value) :
  ∃ w', (Instr.mapUpdate t (.map (some m)) (ke k) v).run P w = .ok () w' /\ MapG ke w' m (yy l k v) /\ Keep (fun q => q = m) w w' /\ w'.heap.size = w.heap.size := by
 obtain ⟨es, c, h1, h2, hn⟩ := h
 have h7 := hK.find k _ _ w hn h2
 have hn' := qr (k := k) (v := v) hn
 cases h8 : lkg l k with
 | none =>
  rw [h8] at h7
  refine ⟨setBlock w m (.map (es.push ⟨ke k, v, c⟩) (c + 1)), by simp [Instr.mapUpdate, run_underlying ht, MapKept.run_getObj_map h1, hK.check, h7, MapKept.run_setObj_map _ h1, Result.andThen, setBlock], ?_, zz h1, by simp [setBlock]⟩
  refine ⟨_, _, (MapKept.heap_set h1).1, ?_, hn'⟩
  rw [<- zdb v h8]; simp [h2]
 | some p =>
  rw [h8] at h7
  obtain ⟨h9, h10⟩ := zb5 v h8
  have hlen : es.toList.length = l.length := by have := congrArg List.length h2; simpa using this
  have hp := (znr.1 h9).1
  obtain ⟨e0, he0⟩ : ∃ e0, es.toList[p.1]? = some e0 := ⟨_, znd (by omega)⟩
  have hkey : e0.key = ke k /\ e0.val = p.2 := by
   have := congrArg (fun L => L[p.1]?) h2
   simp only [znu, he0, h9, Option.map_some, Option.some.injEq, Prod.mk.injEq] at this
   exact this
  have he0' : es[p.1]? = some e0 := by simpa using he0
  refine ⟨setBlock w m (.map (es.modify p.1 fun e => { e with key := ke k, val := v }) c), by simp [Instr.mapUpdate, run_underlying ht, MapKept.run_getObj_map h1, hK.check, h7, he0', hkey.1, Instr.keyThatStays, hK.stays, MapKept.run_setObj_map _ h1, Result.andThen, setBlock], ?_, zz h1, by simp [setBlock]⟩
  refine ⟨_, _, (MapKept.heap_set h1).1, ?_, hn'⟩
  rw [<- h10, Array.toList_modify, jx _ _ (ke k, v) _ _ (fun _ _ => rfl), h2]; simp only [List.map_set]
end
section
variable {P : Program} {env : Env} {w : World} {dst : Option Tmp} {ty : TypeId} {pos : String} {aft : Array Edge} {g : Option (Nat × Bool)} {t kt et : TypeId} {m : Nat} {l : List (κ × Value)}
omit [DecidableEq κ] in
theorem zmR : zJ P ⟨dst, .makeMap t none, ty, pos, aft, g⟩ env w (fun u w' => ∃ b, u = .map (some b) /\ MapG ke w' b [] /\ Ext w w' /\ ∀ q, q = b -> w.heap.size <= q /\ q < w'.heap.size) := by
 refine ⟨.map (some w.heap.size), w.alloc (.map #[] 0), ?_, _, rfl, ⟨#[], 0, (MapKept.heap_alloc w _).1, rfl, List.Pairwise.nil⟩, Keep.alloc w _, fun q hq => by subst hq; simp⟩
 intro n a ha
 have h : (Instr.makeMap t none).run P w = .ok (.map (some w.heap.size)) (w.alloc (.map #[] 0)) := by simp [Instr.makeMap, Result.andThen]
 simp [execOp, h]
theorem zmS {x y : Operand} {k : κ} {z : Value} (hK : KeyOk P kt ke) (h : MapG ke w m l) (ht : P.underlying t = some (.map kt et)) (hz : ∀ w, (zeroValue et).run P w = .ok z w) (hx : ev env x = some (.map (some m))) (hy : ev env y = some (ke k)) :
  zI P ⟨dst, .lookup t x y false, ty, pos, aft, g⟩ env w ((jj l k).getD z) w := by
 intro n a ha
 simp [execOp, ha.eval hx, ha.eval hy, za3 hK h ht hz]
theorem zmT {x y : Operand} {k : κ} {z : Value} (hK : KeyOk P kt ke) (h : MapG ke w m l) (ht : P.underlying t = some (.map kt et)) (hz : ∀ w, (zeroValue et).run P w = .ok z w) (hx : ev env x = some (.map (some m))) (hy : ev env y = some (ke k)) :
  zI P ⟨dst, .lookup t x y true, ty, pos, aft, g⟩ env w (.tuple #[(jj l k).getD z, .bool (jj l k).isSome]) w := by
 intro n a ha
 simp [execOp, ha.eval hx, ha.eval hy, za3 hK h ht hz]
theorem zmU {x y u : Operand} {k : κ} {v : Value} (hK : KeyOk P kt ke) (h : MapG ke w m l) (ht : P.underlying t = some (.map kt et)) (hx : ev env x = some (.map (some m))) (hy : ev env y = some (ke k)) (hu : ev env u = some v) :
  xk P ⟨dst, .mapUpdate t x y u, ty, pos, aft, g⟩ env w (fun w' => MapG ke w' m (yy l k v) /\ Keep (fun q => q = m) w w' /\ ∀ q, q = m -> (q = m \/ w.heap.size <= q) /\ q < w'.heap.size) := by
 have hlt := h.lt
 obtain ⟨w', h1, h2, h3, h4⟩ := zcI hK h ht k v
 refine ⟨w', ?_, h2, h3, fun q hq => ⟨.inl hq, by omega⟩⟩
 intro n a ha
 simp [execOp, ha.eval hx, ha.eval hy, ha.eval hu, h1]
end
abbrev MapP (ke : κ -> Value) (m : Nat) (l : List (κ × Value)) : HE := .res (fun q => q = m) (fun w => MapG ke w m l)
omit [DecidableEq κ] in
theorem MapP.loc {m : Nat} {l : List (κ × Value)} : (MapP ke m l).loc := fun _ _ _ h hk hT => h.keep hk (hT m h.lt rfl)
end
open Go.RowKit Go.ChangeMaps
section
variable {κ : Type} [DecidableEq κ] {ke : κ -> Value}
theorem zeX {l : List (κ × Value)} {k : κ} {v : Value} (h : jj l k = some v) : yy l k v = l := by
 induction l with
 | nil => simp [jj] at h
 | cons x r ih =>
  obtain ⟨a, u⟩ := x
  simp only [jj] at h
  simp only [yy]
  split at h
  . rename_i e; subst e; cases h; rw [zno rfl]
  . rename_i e; rw [znn e, ih h]
theorem zc0 {l : List (κ × Value)} {k : κ} {u v : Value} : yy (yy l k u) k v = yy l k v := by
 induction l with
 | nil => simp [yy]
 | cons x r ih =>
  obtain ⟨a, c⟩ := x
  simp only [yy]
  by_cases e : k = a
  . rw [zno e, zno e]; simp [yy]
  . rw [znn e, znn e]; simp only [yy]; rw [znn e, ih]
def MapB (ke : κ -> Value) (w : World) (m : Nat) (l : List (κ × Value)) : Prop :=
 ∃ (es : Array MapEntry) (clock : Nat), w.heap[m]? = some (.map es clock) /\ es.toList.map (fun e => (e.key, e.val)) = l.map (fun p => (ke p.1, p.2)) /\ (l.map (·.1)).Nodup /\ (∀ e ∈ es.toList, e.born < clock) /\ (es.toList.map (·.born)).Nodup
def MapBE (ke : κ -> Value) (w : World) (m : Nat) (l : List (κ × Value)) (k : κ) (st : Nat) : Prop :=
 ∃ (es : Array MapEntry) (clock i : Nat) (e : MapEntry) (v : Value), w.heap[m]? = some (.map es clock) /\ es.toList.map (fun e => (e.key, e.val)) = l.map (fun p => (ke p.1, p.2)) /\ (l.map (·.1)).Nodup /\ (∀ e ∈ es.toList, e.born < clock) /\ (es.toList.map (·.born)).Nodup /\
  es.toList[i]? = some e /\ e.born = st /\ lkg l k = some (i, v)
omit [DecidableEq κ] in
theorem MapB.g {w : World} {m : Nat} {l : List (κ × Value)} (h : MapB ke w m l) : MapG ke w m l := by
 obtain ⟨es, c, h1, h2, h3, _⟩ := h
 exact ⟨es, c, h1, h2, h3⟩
theorem MapBE.g {w : World} {m st : Nat} {k : κ} {l : List (κ × Value)} (h : MapBE ke w m l k st) : MapG ke w m l := by
 obtain ⟨es, c, i, e, v, h1, h2, h3, _⟩ := h
 exact ⟨es, c, h1, h2, h3⟩
abbrev MapBP (ke : κ -> Value) (m : Nat) (l : List (κ × Value)) : HE := .res (fun q => q = m) (fun w => MapB ke w m l)
abbrev MapBEP (ke : κ -> Value) (m : Nat) (l : List (κ × Value)) (k : κ) (st : Nat) : HE := .res (fun q => q = m) (fun w => MapBE ke w m l k st)
omit [DecidableEq κ] in
theorem MapBP.loc {m : Nat} {l : List (κ × Value)} : (MapBP ke m l).loc := fun w w' T h hk hT => by
 have h : MapB ke w m l := h
 obtain ⟨es, c, h1, r⟩ := h
 have hlt := (Array.getElem?_eq_some_iff.1 h1).1
 exact ⟨es, c, by rw [hk.block m hlt (hT m hlt O)]; exact h1, r⟩
theorem MapBEP.loc {m st : Nat} {k : κ} {l : List (κ × Value)} : (MapBEP ke m l k st).loc := fun w w' T h hk hT => by
 have h : MapBE ke w m l k st := h
 obtain ⟨es, c, i, e, v, h1, r⟩ := h
 have hlt := (Array.getElem?_eq_some_iff.1 h1).1
 exact ⟨es, c, i, e, v, by rw [hk.block m hlt (hT m hlt O)]; exact h1, r⟩
section
variable {P : Program} {env : Env} {w : World} {dst : Option Tmp} {ty : TypeId} {pos : String} {aft : Array Edge} {g : Option (Nat × Bool)} {t kt et : TypeId} {m : Nat} {l : List (κ × Value)}
omit [DecidableEq κ] in
theorem zmV : zJ P ⟨dst, .makeMap t none, ty, pos, aft, g⟩ env w (fun u w' => ∃ b, u = .map (some b) /\ MapB ke w' b [] /\ Ext w w' /\ ∀ q, q = b -> w.heap.size <= q /\ q < w'.heap.size) := by
 refine ⟨.map (some w.heap.size), w.alloc (.map #[] 0), ?_, _, rfl, ⟨#[], 0, (MapKept.heap_alloc w _).1, rfl, List.Pairwise.nil, fun e h => (by cases h), List.Pairwise.nil⟩, Keep.alloc w _, fun q hq => by subst hq; simp⟩
 intro n a ha
 have h : (Instr.makeMap t none).run P w = .ok (.map (some w.heap.size)) (w.alloc (.map #[] 0)) := by simp [Instr.makeMap, Result.andThen]
 simp [execOp, h]
theorem zmW {x y : Operand} {k : κ} {z : Value} (hK : KeyOk P kt ke) (h : MapB ke w m l) (ht : P.underlying t = some (.map kt et)) (hz : ∀ w, (zeroValue et).run P w = .ok z w) (hx : ev env x = some (.map (some m))) (hy : ev env y = some (ke k)) :
  zJ P ⟨dst, .mapEntry t x y, ty, pos, aft, g⟩ env w (fun u w' => ∃ st : Nat, u = .tuple #[(jj l k).getD z, .int .i64 st] /\ MapBE ke w' m (yy l k ((jj l k).getD z)) k st /\ Keep (fun q => q = m) w w' /\ ∀ q, q = m -> (q = m \/ w.heap.size <= q) /\ q < w'.heap.size) := by
 obtain ⟨es, c, h1, h2, hn, hb, hbn⟩ := h
 have hlt := (Array.getElem?_eq_some_iff.1 h1).1
 have h7 := hK.find k _ _ w hn h2
 have hlen : es.toList.length = l.length := by have := congrArg List.length h2; simpa using this
 have zi := zeW l k
 cases h8 : lkg l k with
 | none =>
  rw [h8] at h7 zi
  have zi : jj l k = none := zi
  have hset := zdb z h8
  have hrun : (Instr.mapEntry t (.map (some m)) (ke k)).run P w = .ok (.tuple #[z, .int .i64 c]) (setBlock w m (.map (es.push ⟨ke k, z, c⟩) (c + 1))) := by
   simp [Instr.mapEntry, run_underlying ht, MapKept.run_getObj_map h1, hK.check, h7, hz, MapKept.run_setObj_map _ h1, Result.andThen, setBlock, goInt]
  refine ⟨.tuple #[z, .int .i64 c], setBlock w m (.map (es.push ⟨ke k, z, c⟩) (c + 1)), fun n a ha => ?_, c, by rw [zi] <;> rfl, ⟨_, _, es.toList.length, ⟨ke k, z, c⟩, z, (MapKept.heap_set h1).1, ?_, qr hn, ?_, ?_, ?_, rfl, ?_⟩, zz h1, fun q hq => ⟨.inl hq, by rw [hq]; simp [setBlock]; exact hlt⟩⟩
  . simp [execOp, ha.eval hx, ha.eval hy, hrun]
  . rw [zi]; show _ = (yy l k z).map _; rw [<- hset]; simp [h2]
  ·
   intro e he
   simp only [Array.toList_push, znw, znv] at he
   rcases he with he | rfl
   . have := hb e he; omega
   . exact Nat.lt_succ_self c
  ·
   simp only [Array.toList_push, List.map_append, List.map_cons, List.map_nil]
   rw [List.nodup_append]
   refine ⟨hbn, List.pairwise_singleton _ _, fun a ha b hb' e => ?_⟩
   obtain ⟨x', hx', rfl⟩ := List.mem_map.1 ha
   have := hb x' hx'
   rw [znv.1 hb'] at e
   omega
  . simp
  ·
   rw [zi]
   show lkg (yy l k z) k = _
   rw [<- hset]
   refine zgX (by have := qr (k := k) (v := z) hn; rwa [<- hset] at this) ?_
   rw [hlen, znE (znC _), Nat.sub_self]
   rfl
 | some p =>
  rw [h8] at h7 zi
  have zi : jj l k = some p.2 := zi
  obtain ⟨h9, h10⟩ := zb5 p.2 h8
  have hp := (znr.1 h9).1
  obtain ⟨e0, he0⟩ : ∃ e0, es.toList[p.1]? = some e0 := ⟨_, znd (by omega)⟩
  have hkey : e0.key = ke k /\ e0.val = p.2 := by
   have := congrArg (fun L => L[p.1]?) h2
   simp only [znu, he0, h9, Option.map_some, Option.some.injEq, Prod.mk.injEq] at this
   exact this
  have he0' : es[p.1]? = some e0 := by simpa using he0
  have hrun : (Instr.mapEntry t (.map (some m)) (ke k)).run P w = .ok (.tuple #[p.2, .int .i64 e0.born]) (setBlock w m (.map (es.modify p.1 fun e => { e with key := ke k }) c)) := by
   simp [Instr.mapEntry, run_underlying ht, MapKept.run_getObj_map h1, hK.check, h7, he0', hkey.1, Instr.keyThatStays, hK.stays, MapKept.run_setObj_map _ h1, Result.andThen, setBlock, goInt]
  have hmod : (es.modify p.1 fun e => { e with key := ke k }).toList = es.toList := by
   rw [Array.toList_modify]
   apply List.ext_getElem?
   intro j
   rw [List.getElem?_modify]
   by_cases hj : p.1 = j
   . subst hj; rw [he0]; simp [<- hkey.1]
   . cases es.toList[j]? <;> simp [hj]
  have hsame : yy l k ((jj l k).getD z) = l := by rw [zi]; exact zeX zi
  refine ⟨.tuple #[p.2, .int .i64 e0.born], setBlock w m (.map (es.modify p.1 fun e => { e with key := ke k }) c), fun n a ha => ?_, e0.born, by rw [zi] <;> rfl, ?_, zz h1, fun q hq => ⟨.inl hq, by rw [hq]; simp [setBlock]; exact hlt⟩⟩
  . simp [execOp, ha.eval hx, ha.eval hy, hrun]
  ·
   rw [hsame]
   exact ⟨_, c, p.1, e0, p.2, (MapKept.heap_set h1).1, by rw [hmod]; exact h2, hn, by rw [hmod]; exact hb, by rw [hmod]; exact hbn, by rw [hmod]; exact he0, rfl, h8⟩
theorem zmX {x y : Operand} {k : κ} {z v : Value} (hK : KeyOk P kt ke) (h : MapB ke w m l) (hv : (jj l k).getD z = v) (ht : P.underlying t = some (.map kt et)) (hz : ∀ w, (zeroValue et).run P w = .ok z w) (hx : ev env x = some (.map (some m))) (hy : ev env y = some (ke k)) :
  zJ P ⟨dst, .mapEntry t x y, ty, pos, aft, g⟩ env w (fun u w' => ∃ st : Nat, u = .tuple #[v, .int .i64 st] /\ MapBE ke w' m (yy l k v) k st /\ Keep (fun q => q = m) w w' /\ ∀ q, q = m -> (q = m \/ w.heap.size <= q) /\ q < w'.heap.size) := by
 subst hv
 exact zmW hK h ht hz hx hy
theorem zmY {x y : Operand} {k : κ} {z v : Value} (hK : KeyOk P kt ke) (h : MapG ke w m l) (hv : (jj l k).getD z = v) (ht : P.underlying t = some (.map kt et)) (hz : ∀ w, (zeroValue et).run P w = .ok z w) (hx : ev env x = some (.map (some m))) (hy : ev env y = some (ke k)) :
  zI P ⟨dst, .lookup t x y false, ty, pos, aft, g⟩ env w v w := by
 subst hv
 exact zmS hK h ht hz hx hy
theorem zmZ {x y u : Operand} {k : κ} {st : Nat} {v : Value} (h : MapBE ke w m l k st) (hx : ev env x = some (.map (some m))) (hy : ev env y = some (.int .i64 st)) (hu : ev env u = some v) :
  xk P ⟨dst, .entryStore t x y u, ty, pos, aft, g⟩ env w (fun w' => MapB ke w' m (yy l k v) /\ Keep (fun q => q = m) w w' /\ ∀ q, q = m -> (q = m \/ w.heap.size <= q) /\ q < w'.heap.size) := by
 obtain ⟨es, c, i, e, v0, h1, h2, h5, h3, h4, h6, rfl, h8⟩ := h
 have hlt := (Array.getElem?_eq_some_iff.1 h1).1
 have hi := (znr.1 h6).1
 have hfind : es.findIdx? (fun x => (x.born : Int) == (e.born : Int)) = some i := by
  rw [show es = es.toList.toArray from by simp, List.findIdx?_toArray, List.findIdx?_eq_some_iff_getElem]
  refine ⟨hi, by rw [(znr.1 h6).2]; simp, fun j hj => ?_⟩
  have := List.nodup_iff_pairwise_ne.1 h4
  rw [List.pairwise_iff_getElem] at this
  have h9 := this j i (by rw [znx]; omega) (by rw [znx]; exact hi) hj
  rw [List.getElem_map, List.getElem_map, (znr.1 h6).2] at h9
  intro h10
  have h11 : (es.toList[j].born : Int) = e.born := eq_of_beq h10
  exact h9 (by omega)
 have hrun : (Instr.entryStore t (.map (some m)) (.int .i64 e.born) v).run P w = .ok () (setBlock w m (.map (es.modify i fun x => { x with val := v }) c)) := by
  simp [Instr.entryStore, MapKept.run_getObj_map h1, asInt, asIntOf, hfind, MapKept.run_setObj_map _ h1, Result.andThen, setBlock]
 obtain ⟨h9, h10⟩ := zb5 v h8
 have hkey : e.key = ke k := by
  have := congrArg (fun L => L[i]?) h2
  simp only [znu, h6, h9, Option.map_some, Option.some.injEq, Prod.mk.injEq] at this
  exact this.1
 refine ⟨setBlock w m (.map (es.modify i fun x => { x with val := v }) c), fun n a ha => ?_, ⟨_, c, (MapKept.heap_set h1).1, ?_, qr h5, ?_, ?_⟩, zz h1, fun q hq => ⟨.inl hq, by rw [hq]; simp [setBlock]; exact hlt⟩⟩
 . simp [execOp, ha.eval hx, ha.eval hy, ha.eval hu, hrun]
 . rw [<- h10, Array.toList_modify, jx _ _ (ke k, v) _ _ (fun x hx => by rw [h6] at hx; cases hx; simp [hkey]), h2]; simp only [List.map_set]
 ·
  intro x hx'
  rw [Array.toList_modify] at hx'
  obtain ⟨j, hj⟩ := List.mem_iff_getElem?.1 hx'
  rw [List.getElem?_modify] at hj
  obtain ⟨e1, he1, rfl⟩ := Option.map_eq_some_iff.1 hj
  have := h3 e1 (zne he1)
  split <;> exact this
 ·
  have : (es.modify i fun x => { x with val := v }).toList.map (·.born) = es.toList.map (·.born) := by
   rw [Array.toList_modify]
   apply List.ext_getElem?
   intro j
   rw [znu, znu, List.getElem?_modify]
   cases es.toList[j]? <;> simp
   split <;> rfl
  rw [this]; exact h4
end
end
section
variable {P : Program} {n : Nat} {Q : Exit -> Act -> World -> Prop} {ks : List Fr} {env : Env} {A : Tgs} {H Hs : Hp} {Bs B0 : zH} {ops : Array Oper} {L : List Nat} {fuel : Nat} {listed : Array Bool}
variable {d d2 : Nat} {op op2 : Op} {ty ty2 : TypeId} {ps ps2 : String} {aft aft2 : Array Edge} {g : Option (Nat × Bool)} {v : Value}
theorem zn0 (i i2 k j : Nat) {β : Type} {e : HE} {E' : β -> HE} {r : β -> Value} (hi : (ops[i]?, ops[i2]?) = (some ⟨some d, op, ty, ps, aft, none⟩, some ⟨some d2, op2, ty2, ps2, aft2, none⟩)) (hr : Region.ready .any ops listed = [i, i2]) (hn : (Nat.blt d n, Nat.blt d2 n, zi H k, xV H k, xP (Hs.map (·.1)), xm k (Hs.map (·.1))) = (true, true, some e, none, true, true)) (hB : Bs.drop j = B0)
  (hE : ∀ x, (E' x).loc /\ ∀ b, ¬ (E' x).fz b) (hm : ∀ w, VI Bs H w -> zI P ⟨some d, op, ty, ps, aft, none⟩ env w v w)
  (hm2 : ∀ w, VI Bs H w -> zJ P ⟨some d2, op2, ty2, ps2, aft2, none⟩ env w (fun u w' => ∃ x, u = r x /\ (E' x).holds w' /\ Keep e.S w w' /\ ∀ q, (E' x).S q -> (e.S q \/ w.heap.size <= q) /\ q < w'.heap.size))
  (h : VD P n Q ks ops Hs B0 L fuel (listed.setIfInBounds i true) ((d, v) :: env) ((d, none) :: A) H Bs)
  (h2 : ∀ x, VD P n Q ks ops Hs B0 L fuel (listed.setIfInBounds i2 true) ((d2, r x) :: env) ((d2, none) :: A) (hset H k (E' x)) Bs) : VD P n Q ks ops Hs B0 L (fuel + 1) listed env A H Bs := by
 simp only [Prod.mk.injEq] at hi hn
 subst hB
 obtain ⟨hi1, hi2⟩ := hi
 obtain ⟨hb1, hb2, h3, h4, h5, h6⟩ := hn
 intro hH hA w hI
 refine zku i i2 (R := fun u w' => u = v /\ w' = w) (Rj := fun u w' => ∃ x, u = r x /\ (E' x).holds w' /\ Keep e.S w w' /\ ∀ q, (E' x).S q -> (e.S q \/ w.heap.size <= q) /\ q < w'.heap.size) hi1 hi2 hr O O hb1 O O hb2 (.inl ⟨v, w, hm w hI, rfl, rfl⟩) (.inl (hm2 w hI)) ?_ ?_
 ·
  rintro _ _ ⟨rfl, rfl⟩
  exact ⟨fun _ => (hI.drop j).pick hH h5, h hH hA.none _ hI⟩
 ·
  rintro _ w1 ⟨x, rfl, hh, hk, hS⟩
  have hI' := hI.set h3 hk hh (hE x).1 (hE x).2 hS
  have hH' : Has Hs (hset H k (E' x)) := hH.set h3 h6
  exact ⟨fun _ => (hI'.drop j).pick hH' h5, h2 x hH' (TgOk.none (hA.res h3 h4)) w1 hI'⟩
theorem zn1 (i k j : Nat) {β : Type} {e : HE} {E' : β -> HE} {r : β -> Value} (hi : ops[i]? = some ⟨some d, op, ty, ps, aft, g⟩) (hr : Region.ready .any ops listed = [i]) (hn : (Nat.blt d n, gd ops env g, zi H k, xV H k, xP (Hs.map (·.1)), xm k (Hs.map (·.1))) = (true, some true, some e, none, true, true)) (hB : Bs.drop j = B0)
  (hE : ∀ x, (E' x).loc /\ ∀ b, ¬ (E' x).fz b) (hm : ∀ w, VI Bs H w -> zJ P ⟨some d, op, ty, ps, aft, g⟩ env w (fun u w' => ∃ x, u = r x /\ (E' x).holds w' /\ Keep e.S w w' /\ ∀ q, (E' x).S q -> (e.S q \/ w.heap.size <= q) /\ q < w'.heap.size))
  (h : ∀ x, VD P n Q ks ops Hs B0 L fuel (listed.setIfInBounds i true) ((d, r x) :: env) ((d, none) :: A) (hset H k (E' x)) Bs) : VD P n Q ks ops Hs B0 L (fuel + 1) listed env A H Bs := by
 simp only [Prod.mk.injEq] at hn
 subst hB
 obtain ⟨h1, h2, h3, h4, h5, h6⟩ := hn
 refine fun hH hA w hI => zlX i hi hr h1 h2 (.inl (hm w hI)) ?_
 rintro _ w' ⟨x, rfl, hh, hk, hS⟩
 have hI' := hI.set h3 hk hh (hE x).1 (hE x).2 hS
 have hH' : Has Hs (hset H k (E' x)) := hH.set h3 h6
 exact ⟨(hI'.drop j).pick hH' h5, h x hH' (TgOk.none (hA.res h3 h4)) w' hI'⟩
theorem zms (i k j : Nat) {e e' : HE} (hi : ops[i]? = some ⟨none, op, ty, ps, aft, g⟩) (hr : Region.ready .any ops listed = [i]) (hn : (gd ops env g, zi H k, xV H k, xP (Hs.map (·.1)), xm k (Hs.map (·.1))) = (some true, some e, none, true, true)) (hB : Bs.drop j = B0) (hl : e'.loc) (hz : ∀ b, ¬ e'.fz b)
  (hm : ∀ w, VI Bs H w -> xk P ⟨none, op, ty, ps, aft, g⟩ env w (fun w' => e'.holds w' /\ Keep e.S w w' /\ ∀ q, e'.S q -> (e.S q \/ w.heap.size <= q) /\ q < w'.heap.size))
  (h : VD P n Q ks ops Hs B0 L fuel (listed.setIfInBounds i true) env A (hset H k e') Bs) : VD P n Q ks ops Hs B0 L (fuel + 1) listed env A H Bs := by
 simp only [Prod.mk.injEq] at hn
 subst hB
 obtain ⟨h1, h3, h4, h5, h6⟩ := hn
 refine fun hH hA w hI => zlY i hi hr h1 (hm w hI) ?_
 rintro w' ⟨hh, hk, hS⟩
 have hI' := hI.set h3 hk hh hl hz hS
 have hH' : Has Hs (hset H k e') := hH.set h3 h6
 exact ⟨(hI'.drop j).pick hH' h5, h hH' (hA.res h3 h4) w' hI'⟩
end
end Go.GL
namespace Go.Proofs.YtaenledoagbddaaGreatDoor
open Go.GL Go.WideMaps Go.ChangeMaps
abbrev zgY := { p : Int × Int // (0 <= p.1 /\ p.1 < 1000000000) /\ 0 <= p.2 /\ p.2 < 1000000000 }
def za4 (k : zgY) : Value := .agg #[.int .i64 k.1.1, .int .i64 k.1.2]
theorem zgk (k : zgY) : ∃ l, keyOf Tryz.prog 110 (za4 k) = some l := by
 obtain ⟨⟨a, b⟩, ⟨h1, h2⟩, h3, h4⟩ := k
 dsimp only at h1 h2 h3 h4
 have hkt : Tryz.prog.keyType 110 = true := by kernel_rfl
 have hsz : ∃ m, Tryz.prog.types.size = m + 1 := ⟨Tryz.prog.types.size - 1, by kernel_rfl⟩
 have hc : Tryz.prog.cellsOf 110 = 2 := by kernel_rfl
 have hci : Tryz.prog.cellsOf 3 = 1 := by kernel_rfl
 have wa : (Lit.int .i64 a).wf = true := by simp [Lit.wf]; rw [show IntKind.i64.min = -9223372036854775808 from rfl]; omega
 have wb : (Lit.int .i64 b).wf = true := by simp [Lit.wf]; rw [show IntKind.i64.min = -9223372036854775808 from rfl]; omega
 obtain ⟨m, hm⟩ := hsz
 refine ⟨.string (keyBytes [.int .i64 a, .int .i64 b]), ?_⟩
 unfold keyOf za4
 simp only [tu110]
 rw [zno (by simp [hkt, Value.formed, hc]), hm]
 unfold Program.keyLits
 simp only [tu110, Value.cells]
 rw [zno (by rw [hc]; exact ⟨rfl, by kernel_rfl⟩)]
 simp [hci, Program.keyLits, wa, wb]
theorem zgl {a b : zgY} (h : za4 a = za4 b) : a = b := by
 have h := congrArg (fun v => match v with | Value.agg c => c.toList | _ => []) h
 simp [za4] at h
 exact Subtype.ext (Prod.ext h.1 h.2)
theorem zdO : laidOutB Tryz.prog = true := by kernel_rfl
theorem za5 : KeyOk Tryz.prog 110 za4 :=
 zmQ (deep_law_laid zdO (m := 2) (by omega) (of_decide_eq_true (by kernel_rfl)) (by kernel_rfl) (by rw [tu110])) zgk (fun _ _ => zgl) (fun k => by simp [za4, Instr.sameBits])
end Go.Proofs.YtaenledoagbddaaGreatDoor
namespace Go.GL
section
variable {P : Program} {env : Env} {w : World} {dst : Option Tmp} {ty : TypeId} {pos : String} {aft : Array Edge} {g : Option (Nat × Bool)}
theorem M.bs0 {t e : TypeId} {k : Nat} (hu : ∀ w, (underlying t).run P w = .ok (.slice e) w) (hs : ∀ w, (sizeOf e).run P w = .ok k w) :
  zJ P ⟨dst, .buildSlice t 0 #[], ty, pos, aft, g⟩ env w (fun u w' => ∃ b, u = .slice (some ⟨b, 0, none⟩) 0 0 /\ New w [] e b w') := by
 refine ⟨.slice (some ⟨w.heap.size, 0, none⟩) 0 0, w.alloc (.cells #[] e), ?_, _, rfl, New.mk w [] e⟩
 intro n a ha
 have h0 : Array.range 0 = #[] := Array.eq_empty_of_size_eq_zero (by simp)
 simp [execOp, Instr.buildSlice, hu, hs, newRow, Instr.fill, h0]
end
end Go.GL
namespace Go.Proofs.YtaenledoagbddaaGreatDoor
open Go.GL
def zhy (f : Fl) (s : Int) : List Int := if zo 1 f.vars s = 0 then (zU (zg 1 f.vars) s).1 else []
def spN (f : Fl) : Nat := ((zn 1 f.vars).getD 0).toNat
structure ValidA (a : Ac) : Prop where
 mode : a.mode = 0 \/ a.mode = 1
 b1 : 1 <= a.budget
 b2 : a.budget <= 1048576
 s1 : 1 <= a.spent
 s2 : a.spent <= a.budget
 l1 : 1 <= a.left.length
 l2 : a.left.length <= 4096
 rng : ∀ x ∈ a.left, 0 <= x /\ x < 4096
 asc : a.left.Pairwise (· < ·)
instance (a : Ac) : Decidable (ValidA a) :=
 if h : (a.mode = 0 \/ a.mode = 1) /\ 1 <= a.budget /\ a.budget <= 1048576 /\ 1 <= a.spent /\ a.spent <= a.budget /\ 1 <= a.left.length /\ a.left.length <= 4096 /\ (∀ x ∈ a.left, 0 <= x /\ x < 4096) /\ a.left.Pairwise (· < ·) then
  isTrue ⟨h.1, h.2.1, h.2.2.1, h.2.2.2.1, h.2.2.2.2.1, h.2.2.2.2.2.1, h.2.2.2.2.2.2.1, h.2.2.2.2.2.2.2.1, h.2.2.2.2.2.2.2.2⟩
 else isFalse fun g => h ⟨g.1, g.2, g.3, g.4, g.5, g.6, g.7, g.8, g.9⟩
def zgZ (f : Fl) (l : List Int) : Prop := ∀ r ∈ l, 0 <= r /\ r < (spN f : Int)
instance (f : Fl) (l : List Int) : Decidable (zgZ f l) := by unfold zgZ; infer_instance
abbrev Qu := Int × List Int
theorem RFl.wide {D D' : Nat -> Prop} {w : World} {f : Fl} {v1 v2 v3 : Value} (h : RFl D w f v1 v2 v3) (hD : ∀ q, D q -> D' q) : RFl D' w f v1 v2 v3 := ⟨h.vars.wide yZ hD, h.hatches.wide yE hD, h.body.wide ze hD⟩
def zfD (vs : List Vr) (s p r : Int) : Int := if zo 1 vs s ≠ 0 then zo 1 vs s else if zo 2 vs p ≠ 0 then zo 2 vs p else zo 3 vs r
theorem zhz {k : Int} {vs : List Vr} (hg : ∀ v ∈ vs, ym (v.low, v.high)) (h : (zn k vs).isSome = true) : zo k vs 0 = 0 := by
 obtain ⟨m, hm⟩ := Option.isSome_iff_exists.1 h
 have := yh k vs 1 m hg (by omega) (by omega) hm
 unfold zo
 rw [zno h, hm]
 simp only [Option.getD_some]
 rw [znn (by omega)]
end Go.Proofs.YtaenledoagbddaaGreatDoor
namespace Go.GL
theorem zn2 {P : Program} {env : Env} {w : World} {dst : Option Tmp} {ty : TypeId} {pos : String} {aft : Array Edge} {g : Option (Nat × Bool)} {pt it e : TypeId} {x y : Operand} {b c : Nat} {l : List UInt8} (hp : P.underlying pt = some (.pointer e)) (hc : P.cellsOf e = 1) (hx : ev env x = some (.pointer (some ⟨b, 0, none⟩))) (hy : ev env y = some (.int .i64 l.length)) (h0 : l ≠ []) (hown : w.ownsRow 0 e 1 (.slice (some ⟨b, 0, none⟩) l.length c) l.length (Lib.byteCells l)) :
  zJ P ⟨dst, .call ⟨.builtin .unsafeString, #[x, y], #[pt, it]⟩, ty, pos, aft, g⟩ env w (fun u w' => u = .string ⟨l.toArray⟩ /\ HE.holds w' (.res (fun q => q = b) (fun _ => True)) /\ Keep (HE.S (.row e 1 (.slice (some ⟨b, 0, none⟩) l.length c) l.length (Lib.byteCells l))) w w' /\ ∀ q, HE.S (.res (fun q => q = b) (fun _ => True)) q -> (HE.S (.row e 1 (.slice (some ⟨b, 0, none⟩) l.length c) l.length (Lib.byteCells l)) q \/ w.heap.size <= q) /\ q < w'.heap.size) := by
 obtain ⟨u, w', hr, rfl, hk⟩ := M.unsafeString (dst := dst) (ty := ty) (pos := pos) (aft := aft) (g := g) (it := it) hp hc hx hy h0 hown
 refine ⟨_, w', hr, rfl, trivial, hk.mono fun q _ hq => by show some b = some q; rw [hq], fun q hq => ?_⟩
 have hq : q = b := hq
 subst hq
 exact ⟨.inl rfl, Nat.lt_of_lt_of_le (xl hown O) hk.size⟩
end Go.GL
namespace Go.Proofs.YtaenledoagbddaaGreatDoor
open Go.GL
theorem zc1 (p : Value) (b bq cq : Nat) (l : List UInt8) (h0 : l ≠ []) (W : World) (hB : Blk W b [p, .slice (some ⟨bq, 0, none⟩) l.length cq] 162) (hR : W.ownsRow 0 5 1 (.slice (some ⟨bq, 0, none⟩) l.length cq) l.length (Lib.byteCells l)) (hne : (Value.slice (some ⟨bq, 0, none⟩) l.length cq).ownBlock ≠ some b) :
  Calls Tryz.prog 128 #[.pointer (some ⟨b, 0, none⟩)] W (Ret fun r w' => r = .string ⟨l.toArray⟩ /\ Blk w' b [p, .slice (some ⟨bq, 0, none⟩) l.length cq] 162 /\ Keep (fun q => q = b \/ some bq = some q) W w') := by
 have hl0 := List.length_pos_iff.2 h0
 have hcap := (jp hR).choose_spec.2.1
 refine zlt Tryz.func128 O Tryz.ntmps128 O (zmi [(900, .own b [p, .slice (some ⟨bq, 0, none⟩) l.length cq] 162), (901, .row 5 1 (.slice (some ⟨bq, 0, none⟩) l.length cq) l.length (Lib.byteCells l))] (zbZ (k1 := 900) (k2 := 901) hB hR hne).1 (zbZ (k1 := 900) (k2 := 901) hB hR hne).2 ?_)
 refine zlK 0 900 0 O O ?_
 refine Vs 6 O ?_
 refine Vw [900] [] O ?_
 refine Vd [0, 1, 2, 3, 5, 6, 7, 8, 9] 0 (by kernel_rfl) O O O ?_
 refine zlm 4 0 O (by kernel_rfl) O O (fun w hI => zmC O (by omega)) ?_
 refine zmy 10 901 0 (e' := .res (fun q => q = bq) (fun _ => True)) (r := .string ⟨l.toArray⟩) O (by kernel_rfl) O O (fun _ _ _ _ _ _ => trivial) (fun _ h => h) (fun w hI => zn2 (e := 5) (c := cq) (l := l) Tryz.underlying196 (by kernel_rfl) O O h0 (hI.at 901 O)) ?_
 refine Vd [11] 0 (by kernel_rfl) O O O ?_
 refine zkr (by kernel_rfl) ?_
 refine Vs 2 O ?_
 refine zjH Tryz.results128 O (fun w hI => ⟨_, rfl, rfl, hI.at 900 rfl, hI.k0.mono (fun q _ h => ziS h)⟩)
theorem zb6 (p : Value) (b : Nat) (W : World) (hB : Blk W b [p, .slice none 0 0] 162) :
  Calls Tryz.prog 128 #[.pointer (some ⟨b, 0, none⟩)] W (Ret fun r w' => r = .string ⟨[].toArray⟩ /\ Blk w' b [p, .slice none 0 0] 162 /\ Keep (fun q => q = b) W w') := by
 refine zlt Tryz.func128 O Tryz.ntmps128 O (zmi [(900, .own b [p, .slice none 0 0] 162)] (fun x hx => by rw [znv] at hx; subst hx; exact ⟨hB, trivial, fun _ h => h, fun q hq => by have hq : q = b := hq; rw [hq]; exact hB.lt⟩) (List.pairwise_singleton _ _) ?_)
 refine zlK 0 900 0 O O ?_
 refine Vs 6 O ?_
 refine Vw [900] [] O ?_
 refine Vd [0, 1, 2, 3, 5, 6, 7, 8, 9] 0 (by kernel_rfl) O O O ?_
 refine zlm 4 0 O (by kernel_rfl) O O (fun w hI => zmD O) ?_
 refine zlm 10 0 O (by kernel_rfl) O O (fun w hI => zmE O O) ?_
 refine Vd [11] 0 (by kernel_rfl) O O O ?_
 refine zkr (by kernel_rfl) ?_
 refine Vs 2 O ?_
 refine zjH Tryz.results128 O (fun w hI => ⟨_, rfl, rfl, hI.at 900 rfl, hI.k0.mono (fun q _ ⟨x, hx, hq⟩ => by rw [znv] at hx; subst hx; exact hq)⟩)
theorem zh0 {H : Hp} {k1 k2 b : Nat} {v p p' v' : Value} {m : Nat} {bs : List Value} {w w' : World} (h0 : zi H k1 = some (.own b [p, v] 162)) (h1 : zi H k2 = some (.row 5 1 v m bs)) (hB : Blk w' b [p', v'] 162) (hk : Keep (fun q => q = b \/ v.ownBlock = some q) w w') : Hands H [k1, k2] [(k1, .own b [p', v'] 162)] w w' := by
 have i0 : ∀ q, q = b -> InS H [k1, k2] q := fun q hq => ⟨_, zf h0, by simp [zaI, Nat.beq_refl], hq⟩
 have i1 : ∀ q, v.ownBlock = some q -> InS H [k1, k2] q := fun q hq => ⟨_, zf h1, by simp only [zaI]; cases Nat.beq k1 k2 <;> simp [Nat.beq_refl], hq⟩
 refine ⟨hk.mono fun q _ hq => hq.elim (i0 q) (i1 q), fun x hx => ?_, List.pairwise_singleton _ _⟩
 rw [znv] at hx
 subst hx
 exact ⟨hB, trivial, fun _ h => h, fun q hq => ⟨.inl (i0 q hq), by have hq : q = b := hq; rw [hq]; exact hB.lt⟩⟩
theorem zeY {Bs : zH} {H : Hp} {k1 k2 b : Nat} {v p : Value} {l : List UInt8} {w : World} (hI : VI Bs H w) (h0 : zi H k1 = some (.own b [p, v] 162)) (h1 : zi H k2 = some (.row 5 1 v l.length (Lib.byteCells l))) (hne : Nat.beq k1 k2 = false) (hv : l = [] -> v = .slice none 0 0) :
  Calls Tryz.prog 128 #[.pointer (some ⟨b, 0, none⟩)] w (Ret fun r w' => ∃ _x : Unit, r = .string ⟨l.toArray⟩ /\ Hands H [k1, k2] [(k1, .own b [p, v] 162)] w w') := by
 have hB : Blk w b [p, v] 162 := hI.at k1 h0
 have hR : w.ownsRow 0 5 1 v l.length (Lib.byteCells l) := hI.at k2 h1
 have hap : v.ownBlock ≠ some b := fun h => zk hI.apart h0 h1 hne b rfl h
 by_cases hl : l = []
 ·
  obtain rfl := hv hl
  subst hl
  refine (zb6 p b w hB).mono ?_
  rintro e w' ⟨_, rfl, rfl, h2, h3⟩
  exact ⟨_, rfl, (), rfl, zh0 h0 h1 h2 (h3.mono fun q _ hq => .inl hq)⟩
 ·
  have hpos := List.length_pos_iff.2 hl
  obtain ⟨g, cap, rfl⟩ : ∃ g cap, v = .slice (some ⟨g, 0, none⟩) l.length cap := by
   rcases hR.2 with ⟨_, h⟩ | ⟨g, cap, cur, hv, _⟩
   . omega
   . exact ⟨g, cap, hv⟩
  refine (zc1 p b g cap l hl w hB hR hap).mono ?_
  rintro e w' ⟨_, rfl, rfl, h2, h3⟩
  exact ⟨_, rfl, (), rfl, zh0 h0 h1 h2 h3⟩
theorem zgm {Bs : zH} {H : Hp} {k1 k2 b m : Nat} {v p : Value} {bs : List Value} {s : ByteArray} {w : World} (hI : VI Bs H w) (h0 : zi H k1 = some (.own b [p, v] 162)) (h1 : zi H k2 = some (.row 5 1 v m bs)) (hne : Nat.beq k1 k2 = false) (hp : p = .pointer none \/ p = .pointer (some ⟨b, 0, none⟩)) (hs : 0 < s.size) (hlen : m + s.size <= 140737488355328) :
  Calls Tryz.prog 125 #[.pointer (some ⟨b, 0, none⟩), .string s] w (Ret fun r w' => ∃ v', r = .tuple #[.int .i64 s.size, .nilIface] /\ Hands H [k1, k2] (zi7 k1 k2 b (.pointer (some ⟨b, 0, none⟩)) v' (m + s.size) (bs ++ Lib.strCells s)) w w') := by
 have hB : Blk w b [p, v] 162 := hI.at k1 h0
 have hR : w.ownsRow 0 5 1 v m bs := hI.at k2 h1
 have hm : bs.length = m := by have := hR.1; omega
 have hap : v.ownBlock ≠ some b := fun h => zk hI.apart h0 h1 hne b rfl h
 refine (zcH p v b bs s hp w hB (by rw [hm]; exact hR) hap hs (by omega)).mono ?_
 rintro e w' ⟨_, rfl, rfl, v', h2, h3, h4, h5, h6⟩
 rw [hm] at h3
 have i0 : ∀ q, q = b -> InS H [k1, k2] q := fun q hq => ⟨_, zf h0, by simp [zaI, Nat.beq_refl], hq⟩
 have i1 : ∀ q, v.ownBlock = some q -> InS H [k1, k2] q := fun q hq => ⟨_, zf h1, by simp only [zaI]; rw [hne]; simp [Nat.beq_refl], hq⟩
 obtain ⟨l1, l2⟩ := zbZ (k1 := k1) (k2 := k2) h2 h3 h4
 refine ⟨_, rfl, v', rfl, h5.mono fun q _ hq => hq.elim (i0 q) (i1 q), fun x hx => ?_, l2⟩
 obtain ⟨g1, g2, g3, g4⟩ := l1 x hx
 refine ⟨g1, g2, g3, fun q hq => ⟨?_, g4 q hq⟩⟩
 simp only [znt, List.not_mem_nil, or_false] at hx
 rcases hx with rfl | rfl
 . exact .inl (i0 q hq)
 . exact (h6 q hq).imp (i1 q) id
structure ObB (o : List Int × Int) : Prop where
 len : o.1.length <= 100000
 outs : ∀ x ∈ o.1, -1048576 <= x /\ x <= 1048576
 t0 : 0 <= o.2
 t1 : o.2 <= 1000000000000
abbrev zfE (σ : Sg) : Prop := ∀ x ∈ σ.outs, -1048576 <= x /\ x <= 1048576
theorem zeZ {f : Fl} {hs : List Int} {s : St} {σ : Sg} (hg : ∀ v ∈ f.vars, ym (v.low, v.high)) (ho : StepOk f s) (hV : InV f.vars σ.vals) (h : zfE σ) : zfE (qC f hs s σ) := by
 unfold qC
 split
 . exact h
 split
 ·
  intro x hx
  rcases znw.1 hx with hx | hx
  . exact h x hx
  ·
   rw [znv] at hx
   subst hx
   obtain ⟨r, hr⟩ := Option.isSome_iff_exists.1 ho.ranged
   have h1 := zey hg hV s.term ho.formed r hr
   have h2 := ja hg s.term ho.formed r hr
   unfold ym at h2
   omega
 split
 . exact h
 split
 . exact h
 . exact h
theorem zc2 {f : Fl} {body : Sg -> Sg} {s : St} (ho : StepOk f s) {b : Nat} (hb : ∀ N σ, SgB f N σ -> SgB f (N + b) (body σ)) (hO : ∀ N σ, SgB f N σ -> zfE σ -> zfE (body σ)) : ∀ (k N : Nat) (σ : Sg), SgB f N σ -> zfE σ -> zfE (xH body s.cost s.term k σ)
 | 0, N, σ, _, h => h
 | k + 1, N, σ, hB, h => by
  unfold xH
  have h1 := hB.cost ho
  split
  . exact h
  . exact zc2 ho hb hO k _ _ (hb _ _ h1) (hO _ _ h1 h)
theorem zhA {f : Fl} {hs : List Int} (hg : ∀ v ∈ f.vars, ym (v.low, v.high)) (l : List St) : PreOk f l -> ∀ N σ, SgB f N σ -> zfE σ -> zfE (exL f hs l σ) := by
 induction l using zkX with
 | h l ih =>
 intro hp
 have key : ∀ r : List St, (∀ x ∈ r, x ∈ l) -> ∀ N σ, SgB f N σ -> zfE σ -> zfE (exL f hs r σ) := by
  intro r
  induction r with
  | nil => intro _ N σ _ h; exact h
  | cons x r ihr =>
   intro hm N σ hB h
   have hpx := hp.kids (hm x (znh ..))
   obtain ⟨⟨ho, hse, hn4⟩, hp1, hp2⟩ := hpx
   obtain ⟨i1, i2⟩ := ih x (hm x (znh ..))
   rw [exL]
   have hx1 : PreOk f [x] := fun s hs => hp s (by
    obtain ⟨a, b, rfl⟩ := List.append_of_mem (hm x (znh ..))
    rw [qz, show x :: b = [x] ++ b from rfl, qz]
    simp [hs])
   have hB' := kV (hs := hs) hg [x] hx1 N σ hB
   have hxx : exL f hs [x] σ = exS f hs x σ := rfl
   rw [hxx] at hB'
   refine ihr (fun y hy => hm y (zng _ hy)) _ _ hB' ?_
   rw [jg]
   split
   ·
    split
    . exact i1 hp1 _ _ (hB.cost ho) h
    . exact i2 hp2 _ _ (hB.cost ho) h
   ·
    split
    . exact zc2 ho (kV hg x.thn hp1) (i1 hp1) _ _ _ hB h
    . exact zeZ hg ho hB.inv h
 exact key l (fun x h => h)
theorem zgn {α : Type} {k : Nat} {R : Rel α} {D : Nat -> Prop} {w : World} {n c : Nat} {l : List α} (h : SlR k R D w (.slice none n c) l) : l = [] := by
 cases l with
 | nil => rfl
 | cons x r =>
  obtain ⟨ao, cap, h1, _, _, h4⟩ := h
  obtain ⟨b, o, cs, h5, _⟩ := h4 0 x rfl
  cases h1
  cases h5
theorem zf0 (l : List Int) (hlen : l.length <= 17592186044416) (v : Value) (D : Nat -> Prop) (W : World) (hl : SlR 1 zt D W v l) : Calls Tryz.prog 124 #[v] W (Ret fun r w' => SlR 1 zt (fun b => W.heap.size <= b) w' r l /\ Ext W w') := by
 obtain ⟨ao, co, rfl⟩ := hl.form
 refine zlt Tryz.func124 O Tryz.ntmps124 O (zlE ?_)
 refine Vs 9 O ?_
 refine zll O (fun w hI => zkI tu27 O) ?_
 cases ao
 ·
  obtain rfl := zgn hl
  refine Vs 2 O ?_
  refine V.bool O (fun h => ?_) (fun h => ?_)
  ·
   refine Vs 7 O ?_
   refine zjH Tryz.results124 O (fun w hI => ⟨_, rfl, SlR.nil, hI.k0⟩)
  . cases h
 ·
  refine Vs 2 O ?_
  refine V.bool O (fun h => ?_) (fun h => ?_)
  . cases h
  ·
   refine Vs 4 O ?_
   refine V.bs0 5 tR27 ts3 O (fun b5 => ?_)
   refine Vs 1 O ?_
   refine zm8 5 (fun x => [zd x]) (fun _ => rfl) (by simp [Value.oneCell']) zaZ tu27 Tryz.el3 O (by decide) O (fun w hI => ⟨_, Tr1 hI.k0 hl⟩) (by omega) (by omega) (fun u5 => ?_)
   refine zm2 5 O (e' := .row 3 1 u5 l.length (l.map zd)) (by rw [Nat.zero_add, List.nil_append, <- List.map_eq_flatMap]) ?_
   refine Vs 4 O ?_
   refine zjH Tryz.results124 O (fun w hI => ⟨_, rfl, zkx zd (fun _ _ => rfl) (hI.at 5 O) (fun b hb => hI.own 5 0 O O b hb), hI.k0⟩)
abbrev Cl2 := { c : List Value // c.length = 2 /\ ∀ u ∈ c, u.oneCell' = true }
def RCl : Rel Cl2 := fun _ _ x cs => cs = x.1
theorem zf1 : zF RCl := fun _ _ _ _ _ _ _ _ h => h
instance : StC RCl := ⟨zf1⟩
end Go.Proofs.YtaenledoagbddaaGreatDoor
namespace Go.GL
open Go.Sort Go.Proofs
theorem zgo {w w' : World} (h : Ext w w') : ∃ q os, w' = grow (w.drewN q) os := by
 refine ⟨w'.drawn - w.drawn, w'.heap.extract w.heap.size w'.heap.size, ?_⟩
 have hd := h.drawn
 have hh : w'.heap = w.heap ++ w'.heap.extract w.heap.size w'.heap.size := by
  apply Array.ext_getElem?
  intro i
  by_cases hi : i < w.heap.size
  ·
   rw [Array.getElem?_append_left hi]
   exact h.block i hi (fun h => h)
  ·
   rw [Array.getElem?_append_right (by omega), Array.getElem?_extract]
   by_cases hi2 : i < w'.heap.size
   . rw [zno (by omega), show w.heap.size + (i - w.heap.size) = i from by omega]
   . rw [znn (by omega), Array.getElem?_eq_none (by omega)]
 have : ∀ (a b : World), a.heap = b.heap -> a.tape = b.tape -> a.drawn = b.drawn -> a.os = b.os -> a.output = b.output -> a = b := by
  intro a b h1 h2 h3 h4 h5
  cases a; cases b
  simp at h1 h2 h3 h4 h5
  subst h1 h2 h3 h4 h5
  rfl
 refine this _ _ hh h.tape ?_ h.os h.output
 show w'.drawn = w.drawn + (w'.drawn - w.drawn)
 omega
section
variable {α : Type} [Inhabited α] {enc : α -> List Value} {k : Nat}
theorem zcJ {l : List α} {d : Array α} (h : PermIn 0 l.toArray.size l.toArray d) : d.toList.Perm l := by
 obtain ⟨h1, _, h3⟩ := h
 have e1 : l.toArray.extract 0 l.toArray.size = l.toArray := by simp
 have e2 : d.extract 0 l.toArray.size = d := by rw [<- h1]; simp
 rw [e1, e2] at h3
 exact h3
theorem zb7 {lt : α -> α -> Bool} {d : Array α} {n : Nat} (hn : d.size = n) (h : SortedIn lt 0 n d) : d.toList.Pairwise (fun a b => lt b a = false) := by
 subst hn
 rw [List.pairwise_iff_getElem]
 intro i j hi hj hij
 have := h i j (zns _) hij (by simpa using hj)
 rw [getElem!_pos _ i (by simpa using hi), getElem!_pos _ j (by simpa using hj)] at this
 simpa using this
end
end Go.GL
namespace Go.Proofs
open Go.Shelf
def Tryz.laysSlF06_ren : Go.Shelf.Ren := ⟨fun | 6 => 90 | 15 => 130 | 14 => 136 | 28 => 167 | 29 => 168 | 20 => 184 | 21 => 185 | 22 => 186 | 23 => 187 | 24 => 188 | 25 => 189 | 26 => 190 | 27 => 191 | 46 => 218 | 47 => 210 | 48 => 211 | 49 => 219 | 50 => 220 | 57 => 233 | n => n, fun | 22 => 37 | 24 => 55 | 25 => 112 | 3 => 3 | 39 => 172 | 0 => 0 | 53 => 205 | 55 => 207 | 4 => 4 | 46 => 199 | 45 => 198 | 50 => 108 | 5 => 5 | 9 => 9 | 66 => 234 | 70 => 238 | 76 => 251 | 77 => 180 | n => n, fun | n => n⟩
theorem Tryz.laysSlF06 : Go.Proofs.SlLaysF0.n6 Tryz.prog Tryz.laysSlF06_ren := {
 mixed := by kernel_rfl
 f6 := ⟨Tryz.f90.name, by decide, Tryz.func90.trans (congrArg some (by kernel_rfl))⟩
 f14 := ⟨Tryz.f136.name, by decide, Tryz.func136.trans (congrArg some (by kernel_rfl))⟩
 f15 := Tryz.func130.trans (congrArg some (by kernel_rfl))
 f20 := ⟨Tryz.f184.name, by decide, Tryz.func184.trans (congrArg some (by kernel_rfl))⟩
 f21 := ⟨Tryz.f185.name, by decide, Tryz.func185.trans (congrArg some (by kernel_rfl))⟩
 f22 := ⟨Tryz.f186.name, by decide, Tryz.func186.trans (congrArg some (by kernel_rfl))⟩
 f23 := ⟨Tryz.f187.name, by decide, Tryz.func187.trans (congrArg some (by kernel_rfl))⟩
 f24 := ⟨Tryz.f188.name, by decide, Tryz.func188.trans (congrArg some (by kernel_rfl))⟩
 f25 := ⟨Tryz.f189.name, by decide, Tryz.func189.trans (congrArg some (by kernel_rfl))⟩
 f26 := ⟨Tryz.f190.name, by decide, Tryz.func190.trans (congrArg some (by kernel_rfl))⟩
 f27 := ⟨Tryz.f191.name, by decide, Tryz.func191.trans (congrArg some (by kernel_rfl))⟩
 f28 := Tryz.func167.trans (congrArg some (by kernel_rfl))
 f29 := Tryz.func168.trans (congrArg some (by kernel_rfl))
 f46 := ⟨Tryz.f218.name, by decide, Tryz.func218.trans (congrArg some (by kernel_rfl))⟩
 f47 := Tryz.func210.trans (congrArg some (by kernel_rfl))
 f48 := Tryz.func211.trans (congrArg some (by kernel_rfl))
 f49 := ⟨Tryz.f219.name, by decide, Tryz.func219.trans (congrArg some (by kernel_rfl))⟩
 f50 := ⟨Tryz.f220.name, by decide, Tryz.func220.trans (congrArg some (by kernel_rfl))⟩
 f57 := ⟨Tryz.f233.name, by decide, Tryz.func233.trans (congrArg some (by kernel_rfl))⟩
 t0 := tu0
 a0 := tg0
 z0 := ts0
 v0 := tz0
 t3 := tu3
 a3 := tg3
 z3 := ts3
 v3 := tz3
 t4 := tu4
 a4 := tg4
 z4 := ts4
 v4 := tz4
 t5 := tu5
 a5 := tg5
 z5 := ts5
 v5 := tz5
 t9 := tu9
 a9 := tg9
 z9 := ts9
 v9 := tz9
 t22 := tu37
 a22 := Tryz.isAgg37
 z22 := Tryz.sizeOf37
 v22 := Tryz.zeroValue37
 t25 := Tryz.underlying112
 a25 := Tryz.isAgg112
 z25 := Tryz.sizeOf112
 v25 := Tryz.zeroValue112
 t39 := tu172
 a39 := Tryz.isAgg172
 z39 := ts172
 v39 := tz172
 t45 := tu198
 a45 := Tryz.isAgg198
 z45 := Tryz.sizeOf198
 v45 := Tryz.zeroValue198
 t46 := tu199
 a46 := Tryz.isAgg199
 z46 := Tryz.sizeOf199
 v46 := Tryz.zeroValue199
 t50 := tu108
 a50 := Tryz.isAgg108
 z50 := Tryz.sizeOf108
 v50 := Tryz.zeroValue108
 t53 := tu205
 a53 := Tryz.isAgg205
 z53 := ts205
 v53 := tz205
 t55 := tu207
 a55 := Tryz.isAgg207
 z55 := ts207
 v55 := tz207
 t66 := tu234
 a66 := Tryz.isAgg234
 z66 := ts234
 v66 := Tryz.zeroValue234
 t70 := tu238
 a70 := Tryz.isAgg238
 z70 := Tryz.sizeOf238
 v70 := Tryz.zeroValue238
 t76 := tu251
 a76 := Tryz.isAgg251
 z76 := Tryz.sizeOf251
 v76 := Tryz.zeroValue251
 t77 := tu180
 a77 := Tryz.isAgg180
 z77 := Tryz.sizeOf180
 v77 := Tryz.zeroValue180 }
open Go.RowKit Go.Lib Go.Sort in
theorem Tryz.slices_SortFunc {α : Type} [Inhabited α] (k : Nat) (aE : ∀ w, (isAgg 55).run Tryz.prog w = .ok true w) (zE : ∀ w, (Go.sizeOf 55).run Tryz.prog w = .ok k w) (enc : α -> List Value) (hk : ∀ x, (enc x).length = k) (h1 : ∀ x, ∀ v ∈ enc x, v.oneCell' = true) (cf : α -> α -> Int) (hO : SWO (ltOf cf)) (g : Nat) (cb : Array Value) (blk off cap : Nat) (d : Array α) (w : World) (eg : ∀ args w, (callFunc g args).run Tryz.prog w = .ok (.enter g args) w) (hcmp : CmpLays Tryz.prog g cb enc k cf blk off d.size w) (hH : HoldsK enc k w blk off d) (hblk : blk < w.heap.size) (hsz : d.size < 4611686018427387904) :
  Calls Tryz.prog 90 #[.slice (some ⟨blk, off, none⟩) d.size cap, .func (.func g) #[] cb] w fun e w' =>
   e = .returned (.tuple #[]) /\ ∃ d' n os, PermIn 0 d.size d d' /\ SortedIn (ltOf cf) 0 d.size d' /\ w' = sortWorldK enc k w blk off n d' os := AnyQ.slices_SortFunc Tryz.laysSlF06 k aE zE enc hk h1 cf hO g cb blk off cap d w eg hcmp hH hblk hsz
open Go.RowKit Go.Lib Go.Sort in
theorem Tryz.slices_SortFunc_none {α : Type} [Inhabited α] (p : Option Addr) (cap : Nat) (fv : Value) (w : World) :
  Calls Tryz.prog 90 #[.slice p 0 cap, fv] w fun e w' => e = .returned (.tuple #[]) /\ w' = w := AnyF.slices_SortFunc_none Tryz.laysSlF06 p cap fv w
end Go.Proofs
namespace Go.Proofs.YtaenledoagbddaaGreatDoor
open Go.GL
def zh1 {α : Type} (p : α -> Bool) (l : List α) : Int := if l.any p then (l.findIdx p : Nat) else -1
theorem zf2 {α : Type} {p : α -> Bool} {l : List α} {i : Nat} {x : α} (h : (l.take i).any p = false) (hx : l[i]? = some x) (hp : p x = true) : zh1 p l = i := by
 have hl := (znr.1 hx).1
 have hm := zne hx
 unfold zh1
 rw [zno (List.any_eq_true.2 ⟨x, hm, hp⟩)]
 have h1 : l.findIdx p = i := by
  rw [List.findIdx_eq hl]
  refine ⟨by rw [(znr.1 hx).2]; exact hp, fun j hj => ?_⟩
  have h2 := List.any_eq_false.1 h (l[j]'(by omega)) (zne (i := j) (by rw [znJ, zno hj]; exact znd _))
  simpa using h2
 rw [h1]
theorem zc3 {α : Type} {p : α -> Bool} {l : List α} (h : l.any p = false) : zh1 p l = -1 := by unfold zh1; rw [h]; rfl
theorem zdd {α : Type} {p : α -> Bool} {l : List α} : 0 <= zh1 p l ↔ l.any p = true := by
 unfold zh1
 split
 . rename_i h; exact ⟨fun _ => h, fun _ => by omega⟩
 . rename_i h; exact ⟨fun h => by omega, fun h' => absurd h' h⟩
theorem zde {α : Type} {p : α -> Bool} {l : List α} {k : Nat} {x : α} (hx : l[k]? = some x) (h : (l.take k).any p = false) (hp : p x = false) : (l.take (k + 1)).any p = false := by rw [zh hx, List.any_append, h]; simp [hp]
abbrev obE (o : Ob) (y : Option Addr × Nat × (Nat -> Prop)) : HE := DaP ROb y.2.2 o [.slice y.1 o.1.length y.2.1, .int .i64 o.2]
theorem ziZ {H : Hp} {f : FuncId} {args : Array Value} {o : Ob} {w : World} (k : Nat) (hc : Calls Tryz.prog f args w (Ret fun r w' => (∃ ov, r = .agg #[ov, .int .i64 o.2] /\ SlR 1 zt (fun b => w.heap.size <= b) w' ov o.1) /\ Ext w w')) :
  Calls Tryz.prog f args w (Ret fun r w' => ∃ y : Option Addr × Nat × (Nat -> Prop), r = .agg #[.slice y.1 o.1.length y.2.1, .int .i64 o.2] /\ Hands H [] [(k, obE o y)] w w') := by
 refine hc.mono ?_
 rintro _ w' ⟨_, rfl, ⟨ov, rfl, hd⟩, hk⟩
 obtain ⟨ao, co, rfl⟩ := hd.form
 refine ⟨_, rfl, (ao, co, fun b => w.heap.size <= b /\ b < w'.heap.size), rfl, hk.mono fun q _ h => h.elim, fun x hx => ?_, List.pairwise_singleton _ _⟩
 rw [znv] at hx
 subst hx
 exact ⟨⟨_, rfl, hd.narrow (by omega) yR⟩, DaP.loc, fun _ h => h, fun q hq => ⟨.inr hq.1, hq.2⟩⟩
theorem zj0 {F : Nat -> Prop} {w : World} {o : Ob} {ao : Option Addr} {co : Nat} (h : ROb F w o [.slice ao o.1.length co, .int .i64 o.2]) : SlR 1 zt F w (.slice ao o.1.length co) o.1 := by
 obtain ⟨v, h1, h2⟩ := h
 simp only [List.cons.injEq, and_true] at h1
 rw [h1]; exact h2
section
variable {α : Type} [DecidableEq α]
def zfF (ob : Nat -> α) (n : Nat) (o : α) : Nat := (List.range n).countP fun r => decide (ob r = o)
theorem zf3 (ob : Nat -> α) (n : Nat) (o : α) : zfF ob (n + 1) o = zfF ob n o + if ob n = o then 1 else 0 := by
 unfold zfF
 rw [List.range_succ, List.countP_append]
 simp [List.countP_cons]
theorem zhB (ob : Nat -> α) (n : Nat) (o : α) : zfF ob n o <= n := by
 have := List.countP_le_length (p := fun r => decide (ob r = o)) (l := List.range n)
 simpa [zfF] using this
def xy (R s r s' : Nat) : Nat := if s' < s then R else if s' = s then r else 0
structure OfIn (ob : Nat -> Nat -> α) (R s r : Nat) (al : List α) (cnt : Nat -> Nat -> Nat) : Prop where
 nd : al.Nodup
 mem : ∀ o, o ∈ al ↔ ∃ s' r', r' < xy R s r s' /\ ob s' r' = o
 len : al.length <= s * R + r
 ct : ∀ s' k o, al[k]? = some o -> cnt s' k = zfF (ob s') (xy R s r s') o
 zero : ∀ s' k, al.length <= k -> cnt s' k = 0
theorem ziu {R s' : Nat} : xy R 0 0 s' = 0 := by
 unfold xy
 rw [znn (by omega)]
 split <;> rfl
theorem zkB (ob : Nat -> Nat -> α) (R : Nat) : OfIn ob R 0 0 [] (fun _ _ => 0) := ⟨List.Pairwise.nil, fun o => ⟨fun h => (by cases h), fun ⟨s', r', h, _⟩ => by rw [ziu] at h; omega⟩, by simp, fun _ k o h => by simp at h, fun _ _ _ => rfl⟩
theorem OfIn.row {ob : Nat -> Nat -> α} {R s : Nat} {al : List α} {cnt : Nat -> Nat -> Nat} (h : OfIn ob R s R al cnt) : OfIn ob R (s + 1) 0 al cnt := by
 have hd : ∀ s', xy R (s + 1) 0 s' = xy R s R s' := fun s' => by
  unfold xy
  (repeat' split); all_goals omega
 refine ⟨h.nd, fun o => ?_, by have := h.len; rw [Nat.succ_mul]; omega, fun s' k o hk => ?_, h.zero⟩
 . rw [h.mem]; simp only [hd]
 . rw [hd]; exact h.ct s' k o hk
theorem jC {l : List α} {o : α} {k : Nat} (hn : l.Nodup) (hk : l[k]? = some o) : l.idxOf o = k := by
 obtain ⟨hl, e⟩ := znr.1 hk
 have := hn.idxOf_getElem k hl
 rwa [e] at this
theorem jl {R s r : Nat} (s' : Nat) : xy R s (r + 1) s' = xy R s r s' + if s' = s then 1 else 0 := by
 unfold xy
 (repeat' split); all_goals omega
theorem OfIn.next {ob : Nat -> Nat -> α} {R s r : Nat} {al : List α} {cnt : Nat -> Nat -> Nat} (h : OfIn ob R s r al cnt) {al' : List α} (hal : al' = if ob s r ∈ al then al else al ++ [ob s r]) {k : Nat} (hk : al'[k]? = some (ob s r)) {cnt' : Nat -> Nat -> Nat} (hc : ∀ s' k', cnt' s' k' = cnt s' k' + if s' = s /\ k' = k then 1 else 0) : OfIn ob R s (r + 1) al' cnt' := by
 have hnd : al'.Nodup := by
  rw [hal]
  split
  . exact h.nd
  ·
   rename_i hm
   rw [List.nodup_append]
   exact ⟨h.nd, List.pairwise_singleton _ _, fun a ha b hb e => hm (by rw [<- znv.1 hb, <- e]; exact ha)⟩
 have hmem : ∀ o, o ∈ al' ↔ o ∈ al \/ o = ob s r := fun o => by
  rw [hal]
  split
  ·
   rename_i hm
   exact ⟨.inl, fun g => g.elim id (fun e => e ▸ hm)⟩
  . rw [znw, znv]
 have hds : xy R s r s = r := by unfold xy; rw [znn (by omega), zno rfl]
 refine ⟨hnd, fun o => ?_, ?_, fun s' k' o ho => ?_, fun s' k' hk' => ?_⟩
 ·
  rw [hmem, h.mem]
  constructor
  ·
   rintro (⟨s', r', g1, g2⟩ | rfl)
   . exact ⟨s', r', by rw [jl]; omega, g2⟩
   . exact ⟨s, r, by rw [jl, hds, zno rfl]; omega, rfl⟩
  ·
   rintro ⟨s', r', g1, g2⟩
   rw [jl] at g1
   by_cases e : r' < xy R s r s'
   . exact .inl ⟨s', r', e, g2⟩
   ·
    split at g1
    ·
     rename_i es
     subst es
     rw [hds] at e g1
     obtain rfl : r' = r := by omega
     exact .inr g2.symm
    . omega
 ·
  have := h.len
  rw [hal]
  split
  . omega
  . rw [znl, zny]; omega
 ·
  have hk1 : k' = k ↔ o = ob s r := by
   constructor
   ·
    intro e
    rw [e, hk] at ho
    exact (Option.some.inj ho).symm
   ·
    intro e
    rw [<- jC hnd ho, e, jC hnd hk]
  have hold : cnt s' k' = zfF (ob s') (xy R s r s') o := by
   by_cases hl : k' < al.length
   ·
    refine h.ct s' k' o ?_
    rw [hal] at ho
    split at ho
    . exact ho
    . rwa [znD hl] at ho
   ·
    rw [h.zero s' k' (by omega)]
    have hno : o ∉ al := fun hm => by
     rw [hal] at ho
     split at ho
     . have := (znr.1 ho).1; omega
     ·
      rename_i hn
      have hlt := (znr.1 ho).1
      rw [znl, zny] at hlt
      obtain rfl : k' = al.length := by omega
      rw [znE (by omega), Nat.sub_self] at ho
      have : ob s r = o := by simpa using ho
      exact hn (this ▸ hm)
    symm
    unfold zfF
    rw [List.countP_eq_zero]
    intro r' hr' he
    exact hno ((h.mem o).2 ⟨s', r', List.mem_range.1 hr', of_decide_eq_true he⟩)
  rw [hc, hold, jl]
  by_cases es : s' = s
  ·
   subst es
   rw [zno rfl, zf3, hds]
   by_cases e : k' = k
   . rw [zno ⟨rfl, e⟩, zno (hk1.1 e).symm]
   . rw [znn (fun g => e g.2), znn (fun g => e (hk1.2 g.symm))]
  ·
   rw [znn (fun g => es g.1), znn es]
   rfl
 ·
  have hkl := (znr.1 hk).1
  have hle : al.length <= al'.length := by
   rw [hal]
   split
   . omega
   . rw [znl]; omega
  rw [hc, h.zero s' k' (by omega), znn (fun g => by omega)]
end
end Go.Proofs.YtaenledoagbddaaGreatDoor
namespace Go.GL
section
variable {P : Program} {n : Nat} {Q : Exit -> Act -> World -> Prop} {ks : List Fr} {pos : Pos} {env : Env} {A : Tgs} {H : Hp} {Bs : zH} {fn : Func} {R : Ending -> World -> Prop}
theorem zn3 {p s1 s2 : Tmp} {ty : TypeId} {k off z : Nat} {cs l : List Value} {x1 x2 : Value} (h : fn.results = #[.cell p ty, .tmp s1, .tmp s2]) (ht : ∀ w, (isAgg ty).run P w = .ok true w) (hz : ∀ w, (sizeOf ty).run P w = .ok z w)
  (hn : (tgt A p, get env s1, get env s2) = (some (k, off), some x1, some x2)) (hc : qu H k = some cs) (hs : zhf z off cs = some l) (hR : ∀ w, VI Bs H w -> R (.returned (.tuple #[.agg l.toArray, x1, x2])) w) : V P n (bodyPost P fn R) [] (.e .ret) env A H Bs := fun hA w hw => by
 simp only [Prod.mk.injEq] at hn
 obtain ⟨n1, n2, n3⟩ := hn
 obtain ⟨a, h1, h2⟩ := zaF hA hw n1 hc hs ht hz
 intro a' ha
 have g1 := ha.get p _ h1
 have g2 := ha.get s1 _ n2
 have g3 := ha.get s2 _ n3
 refine bodyPost_ret (v := .tuple #[.agg l.toArray, x1, x2]) ?_ ha.defs (hR w hw)
 simp [results, h, Array.getD_eq_getD_getElem?, g1, g2, g3, asAddr, h2]
end
end Go.GL
namespace Go.Proofs.YtaenledoagbddaaGreatDoor
open Go.GL
def zhC (f : Fl) (r : Int) : List Int := if zo 3 f.vars r = 0 then (zU (zg 3 f.vars) r).1 else []
def ziv (f : Fl) (pub : List Int) (s r : Int) : Ins := ⟨zhy f s, pub, zhC f r⟩
def zcK (f : Fl) (i : Ins) : Ob := if zD f i = 0 then ((xU f i).outs, (xU f i).time) else ([], 0)
def zf4 (t : Bool) (o : Ob) : Ob := (o.1, if t then o.2 else 0)
def obX (f : Fl) (pub : List Int) (t : Bool) (s r : Nat) : Ob := zf4 t (zcK f (ziv f pub (s : Int) (r : Int)))
theorem zdf {f : Fl} (vd : Valid f) (i : Ins) : ObB (zcK f i) := by
 unfold zcK
 split
 ·
  rename_i h
  have hst : zC f.vars i = 0 := by
   unfold zD at h
   rwa [znn (znA vd.ok)] at h
  have h1 := kV (hs := qx f i) vd.good f.body (zb0 vd) 0 _ (kW hst)
  have h2 := zhA (hs := qx f i) vd.good f.body (zb0 vd) 0 _ (kW hst) (fun x hx => by cases hx)
  have hnb := vd.nb
  have a1 := h1.ol
  have a2 := h1.t0
  have a3 := h1.t1
  exact ⟨by show (xU f i).outs.length <= _; unfold xU; omega, h2, by show 0 <= (xU f i).time; unfold xU; omega, by show (xU f i).time <= _; unfold xU; omega⟩
 . exact ⟨zns _, (fun x hx => by cases hx), Int.le_refl _, (show (0 : Int) <= 1000000000000 by decide)⟩
theorem ziw {f : Fl} (vd : Valid f) (pub : List Int) (t : Bool) (s r : Nat) : ObB (obX f pub t s r) := by
 obtain ⟨h1, h2, h3, h4⟩ := zdf vd (ziv f pub (s : Int) (r : Int))
 refine ⟨h1, h2, ?_, ?_⟩
 . unfold obX zf4; dsimp only; split <;> omega
 . unfold obX zf4; dsimp only; split <;> omega
theorem zgp {f : Fl} {i : Ins} {ov : Value} {t : Int} {B : Nat -> Prop} {w : World} (h1 : zD f i ≠ 0 -> ov = .slice none 0 0 /\ t = 0) (h2 : zD f i = 0 -> t = (xU f i).time /\ SlR 1 zt B w ov (xU f i).outs) : t = (zcK f i).2 /\ SlR 1 zt B w ov (zcK f i).1 := by
 unfold zcK
 by_cases h : zD f i = 0
 . rw [zno h]; exact h2 h
 ·
  rw [znn h]
  obtain ⟨rfl, rfl⟩ := h1 h
  exact ⟨rfl, SlR.nil⟩
theorem zc4 (vs : List Vr) (s p r : Int) (vv : Value) (D : Nat -> Prop) (W : World) (hg : ∀ v ∈ vs, ym (v.low, v.high)) (hlen : vs.length <= 1000000) (hvs : SlR 5 RVr D W vv vs) :
  Calls Tryz.prog 63 #[vv, .int .i64 s, .int .i64 p, .int .i64 r] W (Ret fun rr w' => (∃ a b c, rr = .tuple #[.agg #[a, b, c], .int .i64 (zfD vs s p r)] /\ (zfD vs s p r ≠ 0 -> a = .slice none 0 0 /\ b = .slice none 0 0 /\ c = .slice none 0 0) /\ (zfD vs s p r = 0 -> SlR 1 zt (fun q => W.heap.size <= q) w' a (zU (zg 1 vs) s).1 /\ SlR 1 zt (fun q => W.heap.size <= q) w' b (zU (zg 2 vs) p).1 /\ SlR 1 zt (fun q => W.heap.size <= q) w' c (zU (zg 3 vs) r).1)) /\ Ext W w') := by
 refine G.in4 Tryz.func63 O Tryz.ntmps63 O (zlE ?_)
 refine Vs 2 O ?_
 refine V.alloc 8 Tryz.zeroValue61 O O (fun b8 => ?_)
 refine Vs 8 O ?_
 refine zlV Tryz.call121 O (fun w hI => qh vs 1 s vv D w (by decide) hg hlen (Tr1 hI.k0 hvs)) ?_
 rintro r1 w1 w2 hI1 hk12 ⟨a, rfl, ha0, ha1⟩ hlow
 obtain ⟨aa, na, ca, rfl⟩ : ∃ aa na ca, a = .slice aa na ca := by
  by_cases h : zo 1 vs s = 0
  . obtain ⟨x, y, h⟩ := (ha1 h).form; exact ⟨x, _, y, h⟩
  . exact ⟨_, _, _, ha0 h⟩
 refine Vs 14 O ?_
 refine zjn O (fun c1 => ?_) (fun c1 => ?_)
 ·
  have hc : zfD vs s p r = zo 1 vs s := zno c1
  refine Vs 2 O ?_
  refine zm9 [Value.slice none 0 0, Value.slice none 0 0, Value.slice none 0 0] [(0, 1), (1, 1), (2, 1)] [] O O (fun _ => by kernel_rfl) ?_
  refine Vs 7 O ?_
  refine zjS tr63 tg61 ts61 O O O O (fun w hI => ⟨_, rfl, ⟨_, _, _, by rw [hc], fun _ => ⟨rfl, rfl, rfl⟩, fun h => absurd (hc ▸ h) c1⟩, hI.k1⟩)
 ·
  have ha := ha1 (znm.1 c1)
  refine Vs 7 O ?_
  refine zlV Tryz.call121 O (fun w hI => qh vs 2 p vv D w (by decide) hg hlen (Tr1 hI.k1 hvs)) ?_
  rintro r2 w3 w4 hI3 hk34 ⟨b, rfl, hb0, hb1⟩ hlow2
  obtain ⟨ab, nb, cb, rfl⟩ : ∃ aa na ca, b = .slice aa na ca := by
   by_cases h : zo 2 vs p = 0
   . obtain ⟨x, y, h⟩ := (hb1 h).form; exact ⟨x, _, y, h⟩
   . exact ⟨_, _, _, hb0 h⟩
  refine Vs 14 O ?_
  refine zjn O (fun c2 => ?_) (fun c2 => ?_)
  ·
   have hc : zfD vs s p r = zo 2 vs p := by unfold zfD; rw [znn c1, zno c2]
   refine Vs 2 O ?_
   refine zm9 [Value.slice none 0 0, Value.slice none 0 0, Value.slice none 0 0] [(0, 1), (1, 1), (2, 1)] [] O O (fun _ => by kernel_rfl) ?_
   refine Vs 7 O ?_
   refine zjS tr63 tg61 ts61 O O O O (fun w hI => ⟨_, rfl, ⟨_, _, _, by rw [hc], fun _ => ⟨rfl, rfl, rfl⟩, fun h => absurd (hc ▸ h) c2⟩, hI.k2⟩)
  ·
   have hb := hb1 (znm.1 c2)
   refine Vs 7 O ?_
   refine zlV Tryz.call121 O (fun w hI => qh vs 3 r vv D w (by decide) hg hlen (Tr1 hI.k2 hvs)) ?_
   rintro r3 w5 w6 hI5 hk56 ⟨c, rfl, hc0, hc1⟩ hlow3
   obtain ⟨ac, nc, cc, rfl⟩ : ∃ aa na ca, c = .slice aa na ca := by
    by_cases h : zo 3 vs r = 0
    . obtain ⟨x, y, h⟩ := (hc1 h).form; exact ⟨x, _, y, h⟩
    . exact ⟨_, _, _, hc0 h⟩
   have hcc : zfD vs s p r = zo 3 vs r := by unfold zfD; rw [znn c1, znn c2]
   refine Vs 14 O ?_
   refine zjn O (fun c3 => ?_) (fun c3 => ?_)
   ·
    refine Vs 2 O ?_
    refine zm9 [Value.slice none 0 0, Value.slice none 0 0, Value.slice none 0 0] [(0, 1), (1, 1), (2, 1)] [] O O (fun _ => by kernel_rfl) ?_
    refine Vs 7 O ?_
    refine zjS tr63 tg61 ts61 O O O O (fun w hI => ⟨_, rfl, ⟨_, _, _, by rw [hcc], fun _ => ⟨rfl, rfl, rfl⟩, fun h => absurd (hcc ▸ h) c3⟩, hI.k3⟩)
   ·
    have hc := hc1 (znm.1 c3)
    have e1 : W.heap.size <= w1.heap.size := hI1.k0.size
    have e3 : W.heap.size <= w3.heap.size := hI3.k1.size
    have e5 : W.heap.size <= w5.heap.size := hI5.k2.size
    refine V.dat 900 2 O O O (ha) (fun q hq _ hs => by have := hlow q hs; omega) ?_
    refine V.dat 901 1 O O O (hb) (fun q hq _ hs => by have := hlow2 q hs; omega) ?_
    refine V.dat 902 0 O O O (hc) (fun q hq _ hs => by have := hlow3 q hs; omega) ?_
    refine Vs 10 O ?_
    refine zjS tr63 tg61 ts61 O O O O (fun w hI => ⟨_, rfl, ⟨_, _, _, by rw [hcc, znm.1 c3], fun h => absurd (hcc ▸ znm.1 c3) h, fun _ => ⟨(hI.at 900 O).1.wide za (fun q hq => by omega), (hI.at 901 O).1.wide za (fun q hq => by omega), (hI.at 902 O).1.wide za (fun q hq => by omega)⟩⟩, hI.k3⟩)
theorem zcL (o : Ob) (t : Bool) (hlen : o.1.length <= 17592186044416) (ov : Value) (D : Nat -> Prop) (W : World) (ho : SlR 1 zt D W ov o.1) :
  Calls Tryz.prog 65 #[.agg #[ov, .int .i64 o.2], .bool t] W (Ret fun r w' => (∃ u, r = .agg #[u, .int .i64 (zf4 t o).2] /\ SlR 1 zt (fun b => W.heap.size <= b) w' u (zf4 t o).1) /\ Ext W w') := by
 obtain ⟨ao, co, rfl⟩ := ho.form
 refine zlu Tryz.func65 O Tryz.ntmps65 O (zlE ?_)
 refine Vs 2 O ?_
 refine V.box 2 O O (fun b2 => ?_)
 refine V.alloc 4 tz55 O O (fun b4 => ?_)
 refine Vs 6 O ?_
 refine zlV Tryz.call124 O (fun w hI => zf0 o.1 hlen _ D w (Tr1 hI.k0 ho)) ?_
 rintro r1 w1 w2 hI1 hk12 hres hlow
 obtain ⟨az, cz, rfl⟩ := hres.form
 have e1 : W.heap.size <= w1.heap.size := hI1.k0.size
 refine zm9 [Value.slice none 0 0, Value.int IntKind.i64 0] [(0, 1), (1, 1)] [(0, _)] O O (fun _ => by kernel_rfl) ?_
 refine V.alloc 5 tz55 O O (fun b5 => ?_)
 refine Vs 9 O ?_
 refine V.bool O (fun b0 => ?_) (fun b0 => ?_)
 ·
  subst b0
  refine V.dat 900 0 O O O (hres) (fun q hq _ hs => by have := hlow q hs; omega) ?_
  refine Vs 14 O ?_
  refine zjP Tryz.results65 tg55 ts55 O O O (fun w hI => ⟨_, rfl, ⟨_, rfl, (hI.at 900 O).1.wide za (fun q hq => by omega)⟩, hI.k1⟩)
 ·
  subst b0
  refine V.dat 900 0 O O O (hres) (fun q hq _ hs => by have := hlow q hs; omega) ?_
  refine Vs 9 O ?_
  refine zjP Tryz.results65 tg55 ts55 O O O (fun w hI => ⟨_, rfl, ⟨_, rfl, (hI.at 900 O).1.wide za (fun q hq => by omega)⟩, hI.k1⟩)
def zP (l : List Int) : Int := l.foldl (fun g n => (Int.gcd g n : Int)) 0
theorem zdg : ∀ (l : List Int) (g : Int), l.foldl (fun g n => (Int.gcd g n : Int)) g ∣ g /\ ∀ n ∈ l, l.foldl (fun g n => (Int.gcd g n : Int)) g ∣ n
 | [], g => ⟨Int.dvd_refl g, fun n hn => by cases hn⟩
 | x :: l, g => by
  obtain ⟨h1, h2⟩ := zdg l (Int.gcd g x : Int)
  rw [List.foldl_cons]
  refine ⟨Int.dvd_trans h1 (Int.gcd_dvd_left g x), fun n hn => ?_⟩
  rcases znt.1 hn with rfl | hn
  . exact Int.dvd_trans h1 (Int.gcd_dvd_right g n)
  . exact h2 n hn
theorem zdh {d : Int} : ∀ (l : List Int) (g : Int), d ∣ g -> (∀ n ∈ l, d ∣ n) -> d ∣ l.foldl (fun g n => (Int.gcd g n : Int)) g
 | [], _, h, _ => h
 | x :: l, g, h, hl => by
  rw [List.foldl_cons]
  exact zdh l _ (Int.dvd_coe_gcd h (hl x (znh ..))) fun n hn => hl n (zng _ hn)
theorem zf5 : ∀ (l : List Int) (g : Int), 0 <= g -> 0 <= l.foldl (fun g n => (Int.gcd g n : Int)) g
 | [], _, h => h
 | x :: l, g, _ => by
  rw [List.foldl_cons]
  exact zf5 l _ (by omega)
theorem yz (l : List Int) : 0 <= zP l := zf5 l 0 (Int.le_refl 0)
theorem ya {l : List Int} {n : Int} (h : n ∈ l) : zP l ∣ n := (zdg l 0).2 n h
theorem xo {l : List Int} {d : Int} (h : ∀ n ∈ l, d ∣ n) : d ∣ zP l := zdh l 0 (Int.dvd_zero d) h
theorem zb8 {l m : List Int} (h : ∀ d : Int, (∀ n ∈ l, d ∣ n) ↔ ∀ n ∈ m, d ∣ n) : zP l = zP m :=
 Int.dvd_antisymm (yz l) (yz m) (xo ((h _).1 fun _ hn => ya hn)) (xo ((h _).2 fun _ hn => ya hn))
theorem zb9 {l : List Int} {m : Int} (hm : 0 <= m) : zP (l.map (m * ·)) = m * zP l := by
 refine Int.dvd_antisymm (yz _) (znI hm (yz l)) ?_ (xo fun n hn => ?_)
 ·
  by_cases h0 : m = 0
  . subst h0; rw [Int.zero_mul]; exact Int.dvd_zero _
  ·
   have h1 : m ∣ zP (l.map (m * ·)) := xo fun n hn => by
    obtain ⟨x, _, rfl⟩ := List.mem_map.1 hn
    exact Int.dvd_mul_right m x
   obtain ⟨e, he⟩ := h1
   rw [he]
   refine Int.mul_dvd_mul_left m (xo fun n hn => ?_)
   have h2 := ya (List.mem_map.2 ⟨n, hn, rfl⟩ : m * n ∈ l.map (m * ·))
   rw [he] at h2
   exact Int.dvd_of_mul_dvd_mul_left h0 h2
 ·
  obtain ⟨x, hx, rfl⟩ := List.mem_map.1 hn
  exact Int.mul_dvd_mul_left m (ya hx)
def xg (c : List Int) : List Int := c.map (· / zP c)
theorem za6 (c : List Int) : (xg c).map (zP c * ·) = c := by
 unfold xg
 rw [List.map_map]
 conv => rhs; rw [<- List.map_id c]
 exact List.map_congr_left fun x hx => Int.mul_ediv_cancel' (ya hx)
theorem zhD {c : List Int} (h : zP c ≠ 0) : zP (xg c) = 1 := by
 have h1 := zb9 (l := xg c) (yz c)
 rw [za6] at h1
 have h2 : zP c * zP (xg c) = zP c * 1 := by rw [Int.mul_one]; exact h1.symm
 exact Int.eq_of_mul_eq_mul_left h h2
theorem zix {s : List Int} {m : Int} (hs : zP s = 1) (hm : 0 < m) : zP (s.map (m * ·)) = m /\ xg (s.map (m * ·)) = s := by
 have h1 : zP (s.map (m * ·)) = m := by rw [zb9 (by omega), hs, Int.mul_one]
 refine ⟨h1, ?_⟩
 unfold xg
 rw [h1, List.map_map]
 conv => rhs; rw [<- List.map_id s]
 exact List.map_congr_left fun x _ => Int.mul_ediv_cancel_left x (by omega)
def yJ (M : List (List Int × Int)) (c : List Int) : List (List Int × Int) := if zP c = 0 then M else if xg c ∈ M.map (·.1) then M.map (fun p => if p.1 = xg c then (p.1, p.2 + zP c) else p) else M ++ [(xg c, zP c)]
def yg (L : List (List Int)) : List (List Int × Int) := L.foldl yJ []
def wtC (s : List Int) (L : List (List Int)) : Int := (L.map fun c => if zP c ≠ 0 /\ xg c = s then zP c else 0).sum
theorem zba (s : List Int) (L : List (List Int)) (c : List Int) : wtC s (L ++ [c]) = wtC s L + if zP c ≠ 0 /\ xg c = s then zP c else 0 := by
 unfold wtC
 rw [List.map_append, List.sum_append]
 simp
theorem zdi {s : List Int} : ∀ {L : List (List Int)}, (∀ c ∈ L, zP c ≠ 0 -> xg c ≠ s) -> wtC s L = 0
 | [], _ => rfl
 | c :: L, h => by
  have h1 := zdi (s := s) (L := L) fun d hd => h d (zng _ hd)
  have h2 := h c (znh ..)
  unfold wtC at h1 ⊢
  rw [List.map_cons, List.sum_cons, h1, znn (fun hh => h2 hh.1 hh.2)]
  rfl
theorem zh2 {s : List Int} : ∀ (L : List (List Int)), 0 <= wtC s L
 | [] => Int.le_refl 0
 | c :: L => by
  have h1 := zh2 (s := s) L
  have h2 := yz c
  unfold wtC at h1 ⊢
  rw [List.map_cons, List.sum_cons]
  split <;> omega
theorem zf6 {s : List Int} : ∀ {L : List (List Int)}, (∃ c ∈ L, zP c ≠ 0 /\ xg c = s) -> 0 < wtC s L
 | [], h => by obtain ⟨c, hc, _⟩ := h; cases hc
 | c :: L, h => by
  have h2 := yz c
  have h3 := zh2 (s := s) L
  obtain ⟨d, hd, hd1, hd2⟩ := h
  unfold wtC at h3 ⊢
  rw [List.map_cons, List.sum_cons]
  rcases znt.1 hd with rfl | hd
  . rw [zno ⟨hd1, hd2⟩]; omega
  ·
   have h1 := zf6 (s := s) (L := L) ⟨d, hd, hd1, hd2⟩
   unfold wtC at h1
   split <;> omega
def zgq (s : List Int) (L : List (List Int)) : Prop := ∃ c ∈ L, zP c ≠ 0 /\ xg c = s
structure MSpec (L : List (List Int)) (M : List (List Int × Int)) : Prop where
 nd : (M.map (·.1)).Nodup
 mem : ∀ p, p ∈ M ↔ zgq p.1 L /\ p.2 = wtC p.1 L
theorem za7 {s : List Int} {L : List (List Int)} {c : List Int} : zgq s (L ++ [c]) ↔ zgq s L \/ (zP c ≠ 0 /\ xg c = s) := by
 unfold zgq
 constructor
 ·
  rintro ⟨d, hd, h1, h2⟩
  rcases znw.1 hd with hd | hd
  . exact .inl ⟨d, hd, h1, h2⟩
  ·
   obtain rfl := znv.1 hd
   exact .inr ⟨h1, h2⟩
 ·
  rintro (⟨d, hd, h1, h2⟩ | ⟨h1, h2⟩)
  . exact ⟨d, List.mem_append_left _ hd, h1, h2⟩
  . exact ⟨c, List.mem_append_right _ (znv.2 O), h1, h2⟩
theorem MSpec.has {L : List (List Int)} {M : List (List Int × Int)} (h : MSpec L M) {s : List Int} : s ∈ M.map (·.1) ↔ zgq s L := by
 rw [List.mem_map]
 constructor
 ·
  rintro ⟨p, hp, rfl⟩
  exact ((h.mem p).1 hp).1
 ·
  intro hs
  exact ⟨(s, wtC s L), (h.mem _).2 ⟨hs, rfl⟩, rfl⟩
theorem MSpec.step {L : List (List Int)} {M : List (List Int × Int)} (h : MSpec L M) (c : List Int) : MSpec (L ++ [c]) (yJ M c) := by
 unfold yJ
 by_cases h0 : zP c = 0
 ·
  rw [zno h0]
  refine ⟨h.nd, fun p => ?_⟩
  rw [h.mem p, zba, znn (fun g => g.1 h0), Int.add_zero, za7]
  exact ⟨fun g => ⟨.inl g.1, g.2⟩, fun g => ⟨g.1.elim id (fun k => absurd h0 k.1), g.2⟩⟩
 ·
  rw [znn h0]
  by_cases h1 : xg c ∈ M.map (·.1)
  ·
   rw [zno h1]
   have hk := h.has.1 h1
   have hm : (M.map (fun p => if p.1 = xg c then (p.1, p.2 + zP c) else p)).map (·.1) = M.map (·.1) := by
    rw [List.map_map]
    exact List.map_congr_left fun p _ => by simp only [Function.comp]; split <;> rfl
   refine ⟨by rw [hm]; exact h.nd, fun p => ?_⟩
   rw [List.mem_map, zba, za7]
   constructor
   ·
    rintro ⟨q, hq, rfl⟩
    obtain ⟨g1, g2⟩ := (h.mem q).1 hq
    by_cases e : q.1 = xg c
    ·
     rw [zno e]
     exact ⟨.inl g1, by rw [g2, zno ⟨h0, e.symm⟩]⟩
    ·
     rw [znn e]
     exact ⟨.inl g1, by rw [g2, znn (fun g => e g.2.symm), Int.add_zero]⟩
   ·
    rintro ⟨g1, g2⟩
    have g1 : zgq p.1 L := g1.elim id (fun g => g.2 ▸ hk)
    refine ⟨(p.1, wtC p.1 L), (h.mem _).2 ⟨g1, rfl⟩, ?_⟩
    by_cases e : p.1 = xg c
    ·
     rw [zno e]
     rw [zno ⟨h0, e.symm⟩] at g2
     exact Prod.ext O g2.symm
    ·
     rw [znn e]
     rw [znn (fun g => e g.2.symm), Int.add_zero] at g2
     exact Prod.ext O g2.symm
  ·
   rw [znn h1]
   have hk : ¬ zgq (xg c) L := fun g => h1 (h.has.2 g)
   have hz : wtC (xg c) L = 0 := zdi fun d hd hd0 e => hk ⟨d, hd, hd0, e⟩
   refine ⟨?_, fun p => ?_⟩
   ·
    rw [List.map_append, List.nodup_append]
    exact ⟨h.nd, List.pairwise_singleton _ _, fun x hx y hy e => h1 (by have e' : x = xg c := e.trans (znv.1 hy); rw [<- e']; exact hx)⟩
   ·
    rw [znw, znv, h.mem, zba, za7]
    constructor
    ·
     rintro (⟨g1, g2⟩ | rfl)
     . exact ⟨.inl g1, by rw [g2, znn (fun g : zP c ≠ 0 /\ xg c = p.1 => hk (g.2 ▸ g1)), Int.add_zero]⟩
     . exact ⟨.inr ⟨h0, rfl⟩, by rw [zno ⟨h0, rfl⟩, hz, Int.zero_add]⟩
    ·
     rintro ⟨g1, g2⟩
     by_cases e : p.1 = xg c
     ·
      rw [zno ⟨h0, e.symm⟩, e, hz, Int.zero_add] at g2
      exact .inr (Prod.ext e g2)
     ·
      rw [znn (fun g => e g.2.symm), Int.add_zero] at g2
      exact .inl ⟨g1.elim id (fun g => absurd g.2.symm e), g2⟩
theorem zdj : ∀ (L K : List (List Int)) (M : List (List Int × Int)), MSpec K M -> MSpec (K ++ L) (L.foldl yJ M)
 | [], K, M, h => by rw [List.append_nil]; exact h
 | c :: L, K, M, h => by
  have := zdj L (K ++ [c]) (yJ M c) (h.step c)
  rwa [List.append_assoc, List.singleton_append] at this
theorem xJ (L : List (List Int)) : MSpec L (yg L) := zdj L [] [] ⟨List.Pairwise.nil, fun p => ⟨fun h => (by cases h), fun h => by obtain ⟨⟨c, hc, _⟩, _⟩ := h; cases hc⟩⟩
theorem MSpec.nodup {L : List (List Int)} {M : List (List Int × Int)} (h : MSpec L M) : M.Nodup := by
 have := h.nd
 unfold List.Nodup at this ⊢
 rw [List.pairwise_map] at this
 exact this.imp fun g e => g (by rw [e])
theorem MSpec.good {L : List (List Int)} {M : List (List Int × Int)} (h : MSpec L M) {p : List Int × Int} (hp : p ∈ M) : zP p.1 = 1 /\ 0 < p.2 := by
 obtain ⟨h1, h2⟩ := (h.mem p).1 hp
 refine ⟨?_, by rw [h2]; exact zf6 h1⟩
 obtain ⟨c, _, hc, e⟩ := h1
 rw [<- e]
 exact zhD hc
def zu (M : List (List Int × Int)) : List (List Int) := M.map fun p => p.1.map (p.2 * ·)
def xz (L : List (List Int)) : List (List Int) := L.map fun c => c.map (· / zP L.flatten)
structure IsAbs (L out : List (List Int)) : Prop where
 perm : out.Perm (xz (zu (yg L)))
 srt : out.Pairwise (fun a b => xp b a <= 0)
theorem zaw {l m : List (List Int)} (hl : l.Pairwise (fun a b => xp b a <= 0)) (hm : m.Pairwise (fun a b => xp b a <= 0)) (h : l.Perm m) : l = m :=
 List.Perm.eq_of_pairwise (fun a b _ _ h1 h2 => xI (by have := yI a b; omega)) hl hm h
theorem IsAbs.unique {L out out' : List (List Int)} (h : IsAbs L out) (h' : IsAbs L out') : out = out' := zaw h.srt h'.srt (h.perm.trans h'.perm.symm)
theorem zcM {L : List (List Int)} : zP L.flatten = zP (L.map zP) := zb8 fun d => by
 constructor
 ·
  intro h n hn
  obtain ⟨c, hc, rfl⟩ := List.mem_map.1 hn
  exact xo fun x hx => h x (List.mem_flatten.2 ⟨c, hc, hx⟩)
 ·
  intro h n hn
  obtain ⟨c, hc, hx⟩ := List.mem_flatten.1 hn
  exact Int.dvd_trans (h _ (List.mem_map.2 ⟨c, hc, rfl⟩)) (ya hx)
theorem zc5 {L : List (List Int)} {M : List (List Int × Int)} (h : MSpec L M) : zP (zu M).flatten = zP (M.map (·.2)) := by
 rw [zcM]
 unfold zu
 rw [List.map_map]
 congr 1
 exact List.map_congr_left fun p hp => (zix (h.good hp).1 (h.good hp).2).1
theorem za8 {L : List (List Int)} {M : List (List Int × Int)} (h : MSpec L M) : xz (zu M) = M.map (fun p => p.1.map (p.2 / zP (M.map (·.2)) * ·)) := by
 unfold xz
 rw [zc5 h]
 unfold zu
 rw [List.map_map]
 refine List.map_congr_left fun p hp => ?_
 simp only [Function.comp, List.map_map]
 refine List.map_congr_left fun x _ => ?_
 simp only [Function.comp]
 have hd := ya (List.mem_map.2 ⟨p, hp, rfl⟩ : p.2 ∈ M.map (·.2))
 rw [Int.mul_comm p.2 x, Int.mul_ediv_assoc _ hd, Int.mul_comm]
theorem IsAbs.same {L L' out out' : List (List Int)} (h : IsAbs L out) (h' : IsAbs L' out') {k : Int} (hk : 0 < k) (hs : ∀ s, zgq s L ↔ zgq s L') (hw : ∀ s, wtC s L' = k * wtC s L) : out = out' := by
 have m := xJ L
 have m' := xJ L'
 have hM : (yg L').Perm ((yg L).map fun p => (p.1, k * p.2)) := by
  refine (List.perm_ext_iff_of_nodup m'.nodup ?_).2 fun p => ?_
  ·
   unfold List.Nodup
   rw [List.pairwise_map]
   refine m.nodup.imp fun g e => g ?_
   have e1 := congrArg Prod.fst e
   have e2 := congrArg Prod.snd e
   exact Prod.ext e1 (Int.eq_of_mul_eq_mul_left (by omega) e2)
  ·
   rw [m'.mem, List.mem_map, <- hs, hw]
   constructor
   ·
    rintro ⟨g1, g2⟩
    exact ⟨(p.1, wtC p.1 L), (m.mem _).2 ⟨g1, rfl⟩, Prod.ext O g2.symm⟩
   ·
    rintro ⟨q, hq, rfl⟩
    obtain ⟨g1, g2⟩ := (m.mem q).1 hq
    exact ⟨g1, by rw [g2]⟩
 have hg : zP ((yg L').map (·.2)) = k * zP ((yg L).map (·.2)) := by
  rw [<- zb9 (by omega)]
  refine zb8 fun d => ?_
  have h1 := hM.map (·.2)
  rw [List.map_map] at h1
  rw [List.map_map]
  exact ⟨fun g n hn => g n (h1.mem_iff.2 hn), fun g n hn => g n (h1.mem_iff.1 hn)⟩
 refine zaw h.srt h'.srt (h.perm.trans (List.Perm.trans ?_ h'.perm.symm))
 rw [za8 m, za8 m', hg]
 have h2 := hM.map fun p => p.1.map (p.2 / (k * zP ((yg L).map (·.2))) * ·)
 rw [List.map_map] at h2
 refine List.Perm.trans (List.Perm.of_eq ?_) h2.symm
 refine List.map_congr_left fun p _ => ?_
 simp only [Function.comp]
 rw [Int.mul_ediv_mul_of_pos _ _ hk]
def zj1 (M : List (List Int × Int)) : List (List Int × Int) := M.map fun p => (p.1, p.2 / zP (M.map (·.2)))
theorem MSpec.red {L : List (List Int)} {M : List (List Int × Int)} (h : MSpec L M) {p : List Int × Int} (hp : p ∈ zj1 M) : zP p.1 = 1 /\ 0 < p.2 := by
 obtain ⟨q, hq, rfl⟩ := List.mem_map.1 hp
 obtain ⟨h1, h2⟩ := h.good hq
 refine ⟨h1, ?_⟩
 have hd := ya (List.mem_map.2 ⟨q, hq, rfl⟩ : q.2 ∈ M.map (·.2))
 have hn := yz (M.map (·.2))
 have hz : zP (M.map (·.2)) ≠ 0 := fun e => by
  rw [e] at hd
  have := Int.zero_dvd.1 hd
  omega
 exact Int.ediv_pos_of_pos_of_dvd h2 hn hd
theorem zdP {L : List (List Int)} {M : List (List Int × Int)} (h : MSpec L M) : xz (zu M) = zu (zj1 M) := by
 rw [za8 h]
 unfold zu zj1
 rw [List.map_map]
 rfl
abbrev Mx := List (List Int)
def jP : List Int -> Int -> Int
 | [], t => t
 | n :: r, t => if n < 0 \/ 1048576 - t < n then -1 else jP r (t + n)
theorem zf7 : ∀ {l : List Int}, (∀ n ∈ l, 0 <= n) -> 0 <= l.sum
 | [], _ => Int.le_refl 0
 | n :: l, h => by
  rw [List.sum_cons]
  have := h n (znh ..)
  have := zf7 (l := l) fun x hx => h x (zng _ hx)
  omega
theorem zbb : ∀ {l : List Int} {t : Int}, (∀ n ∈ l, 0 <= n) -> t + l.sum <= 1048576 -> jP l t = t + l.sum
 | [], t, _, _ => by simp [jP]
 | n :: l, t, h, hs => by
  rw [List.sum_cons] at hs ⊢
  have h1 := h n (znh ..)
  have h2 := zf7 (l := l) fun x hx => h x (zng _ hx)
  rw [jP, znn (by omega), zbb (fun x hx => h x (zng _ hx)) (by omega)]
  omega
theorem zdk : ∀ {l : List Int} {t : Int}, 0 <= t -> t <= 1048576 -> jP l t ≠ -1 -> (∀ n ∈ l, 0 <= n) /\ t + l.sum <= 1048576
 | [], t, _, h1, _ => ⟨fun n hn => (by cases hn), by simpa using h1⟩
 | n :: l, t, h0, h1, h => by
  rw [jP] at h
  split at h
  . exact absurd O h
  ·
   rename_i hn
   obtain ⟨g1, g2⟩ := zdk (l := l) (t := t + n) (by omega) (by omega) h
   exact ⟨fun x hx => (znt.1 hx).elim (fun e => by omega) (g1 x), by rw [List.sum_cons]; omega⟩
theorem zhE {l : List Int} (h : jP l 0 ≠ -1) : jP l 0 = l.sum /\ (∀ n ∈ l, 0 <= n) /\ l.sum <= 1048576 := by
 obtain ⟨h1, h2⟩ := zdk (Int.le_refl 0) (by omega) h
 rw [Int.zero_add] at h2
 exact ⟨by rw [zbb h1 (by omega), Int.zero_add], h1, h2⟩
structure VMx (c : Mx) : Prop where
 r1 : 1 <= c.length
 r2 : c.length <= 256
 w1 : 1 <= (c.headD []).length
 w2 : (c.headD []).length <= 256
 wid : ∀ row ∈ c, row.length = (c.headD []).length
 nn : ∀ row ∈ c, ∀ n ∈ row, 0 <= n
 s1 : 1 <= (c.headD []).sum
 s2 : (c.headD []).sum <= 1048576
 sm : ∀ row ∈ c, row.sum = (c.headD []).sum
instance (c : Mx) : Decidable (VMx c) :=
 if h : 1 <= c.length /\ c.length <= 256 /\ 1 <= (c.headD []).length /\ (c.headD []).length <= 256 /\ (∀ row ∈ c, row.length = (c.headD []).length) /\ (∀ row ∈ c, ∀ n ∈ row, 0 <= n) /\ 1 <= (c.headD []).sum /\ (c.headD []).sum <= 1048576 /\ ∀ row ∈ c, row.sum = (c.headD []).sum then
  isTrue ⟨h.1, h.2.1, h.2.2.1, h.2.2.2.1, h.2.2.2.2.1, h.2.2.2.2.2.1, h.2.2.2.2.2.2.1, h.2.2.2.2.2.2.2.1, h.2.2.2.2.2.2.2.2⟩
 else isFalse fun g => h ⟨g.1, g.2, g.3, g.4, g.5, g.6, g.7, g.8, g.9⟩
theorem kg {c : Mx} (h : 1 <= c.length) : c.headD [] ∈ c := by
 cases c with
 | nil => simp at h
 | cons r c => exact znh ..
theorem vmx_prog {c : Mx} : VMx c ↔ (1 <= c.length /\ c.length <= 256) /\ (1 <= (c.headD []).length /\ (c.headD []).length <= 256 /\ 1 <= jP (c.headD []) 0) /\ ∀ row ∈ c, row.length = (c.headD []).length /\ jP row 0 = jP (c.headD []) 0 := by
 constructor
 ·
  intro h
  have hs : ∀ row ∈ c, jP row 0 = row.sum := fun row hr => by
   have h1 := h.sm row hr
   have h2 := h.s2
   rw [zbb (h.nn row hr) (by omega), Int.zero_add]
  have hh := kg h.r1
  refine ⟨⟨h.r1, h.r2⟩, ⟨h.w1, h.w2, by rw [hs _ hh]; exact h.s1⟩, fun row hr => ⟨h.wid row hr, by rw [hs row hr, hs _ hh]; exact h.sm row hr⟩⟩
 ·
  rintro ⟨⟨h1, h2⟩, ⟨h3, h4, h5⟩, h6⟩
  have hs : ∀ row ∈ c, jP row 0 = row.sum /\ (∀ n ∈ row, 0 <= n) /\ row.sum <= 1048576 := fun row hr => zhE (by rw [(h6 row hr).2]; omega)
  have hh := hs _ (kg h1)
  exact ⟨h1, h2, h3, h4, fun row hr => (h6 row hr).1, fun row hr => (hs row hr).2.1, by omega, hh.2.2, fun row hr => by rw [<- (hs row hr).1, <- hh.1]; exact (h6 row hr).2⟩
theorem vmx_ref {c : Mx} : VMx c ↔ (1 <= c.length /\ c.length <= 256 /\ 1 <= (c.headD []).length /\ (c.headD []).length <= 256) /\ ∀ row ∈ c, row.length = (c.headD []).length /\ (∀ n ∈ row, 0 <= n /\ n <= 1048576) /\ row.sum = (c.headD []).sum /\ 1 <= row.sum /\ row.sum <= 1048576 := by
 have hle : ∀ {l : List Int}, (∀ n ∈ l, 0 <= n) -> ∀ n ∈ l, n <= l.sum := by
  intro l
  induction l with
  | nil => intro _ n hn; cases hn
  | cons x l ih =>
   intro h n hn
   rw [List.sum_cons]
   have h1 := h x (znh ..)
   have h2 := zf7 (l := l) fun y hy => h y (zng _ hy)
   rcases znt.1 hn with rfl | hn
   . omega
   ·
    have := ih (fun y hy => h y (zng _ hy)) n hn
    omega
 constructor
 ·
  intro h
  refine ⟨⟨h.r1, h.r2, h.w1, h.w2⟩, fun row hr => ⟨h.wid row hr, fun n hn => ⟨h.nn row hr n hn, ?_⟩, h.sm row hr, by rw [h.sm row hr]; exact h.s1, by rw [h.sm row hr]; exact h.s2⟩⟩
  have h1 := hle (h.nn row hr) n hn
  have h2 := h.sm row hr
  have h3 := h.s2
  omega
 ·
  rintro ⟨⟨h1, h2, h3, h4⟩, h5⟩
  have hh := h5 _ (kg h1)
  exact ⟨h1, h2, h3, h4, fun row hr => (h5 row hr).1, fun row hr n hn => ((h5 row hr).2.1 n hn).1, hh.2.2.2.1, hh.2.2.2.2, fun row hr => (h5 row hr).2.2.1⟩
def jm (c : Mx) (y : Nat) : List Int := c.map fun row => row[y]?.getD 0
def zN (c : Mx) : Mx := (List.range (c.headD []).length).map (jm c)
def jD (n : Nat) (l : Mx) : Mx := (List.range n).map (jm l)
theorem qi (c : Mx) : (zN c).length = (c.headD []).length := by simp [zN]
theorem xK (c : Mx) (y : Nat) : (jm c y).length = c.length := by simp [jm]
theorem za9 {c : Mx} {col : List Int} (h : col ∈ zN c) : col.length = c.length := by
 obtain ⟨y, _, rfl⟩ := List.mem_map.1 h
 exact xK c y
theorem zc6 (n : Nat) (l : Mx) : (jD n l).length = n := by simp [jD]
theorem zf8 {n : Nat} {l : Mx} (hn : 1 <= n) (hl : ∀ col ∈ l, col.length = n) : zN (jD n l) = l := by
 have hh : ((jD n l).headD []).length = l.length := by
  obtain ⟨m, rfl⟩ : ∃ m, n = m + 1 := ⟨n - 1, by omega⟩
  simp [jD, List.range_succ_eq_map, jm]
 unfold zN
 rw [hh]
 apply List.ext_getElem?
 intro y
 rw [znu]
 by_cases hy : y < l.length
 ·
  rw [List.getElem?_range hy, znd hy]
  simp only [Option.map_some, Option.some.injEq]
  apply List.ext_getElem?
  intro x
  unfold jm jD
  rw [List.map_map, znu]
  have hc := hl _ (List.getElem_mem hy)
  by_cases hx : x < n
  ·
   rw [List.getElem?_range hx, znd (by omega)]
   simp [jm, znd hy, znd (show x < (l[y]).length by omega)]
  ·
   rw [znB (by simp; omega), znB (by omega)]
   rfl
 ·
  rw [znB (by simp; omega), znB (by omega)]
  rfl
def atC (x : Nat) (c : List Int) : Int := c[x]?.getD 0
theorem zgr (l : Mx) (x : Nat) : (jm l x).sum = (l.map (atC x)).sum := rfl
theorem zcN (m : Int) (c : List Int) (x : Nat) : atC x (c.map (m * ·)) = m * atC x c := by
 unfold atC
 rw [znu]
 cases c[x]? with
 | none => simp
 | some v => rfl
theorem zhF (c : List Int) (x : Nat) : zP c * atC x (xg c) = atC x c := by
 rw [<- zcN, za6]
theorem zhG {M : List (List Int × Int)} {k : List Int} {g : Int} (x : Nat) (hn : (M.map (·.1)).Nodup) (hk : k ∈ M.map (·.1)) :
  ((zu (M.map fun p => if p.1 = k then (p.1, p.2 + g) else p)).map (atC x)).sum = ((zu M).map (atC x)).sum + g * atC x k := by
 induction M with
 | nil => cases hk
 | cons p M ih =>
  rw [List.map_cons, List.nodup_cons] at hn
  have hno : k ∉ M.map (·.1) -> ((zu (M.map fun p => if p.1 = k then (p.1, p.2 + g) else p)).map (atC x)).sum = ((zu M).map (atC x)).sum := fun h => by
   rw [show (M.map fun p => if p.1 = k then (p.1, p.2 + g) else p) = M by
    conv => rhs; rw [<- List.map_id M]
    exact List.map_congr_left fun q hq => znn (fun e => h (List.mem_map.2 ⟨q, hq, e⟩))]
  simp only [zu, List.map_cons, List.sum_cons] at ih hno ⊢
  by_cases e : p.1 = k
  ·
   rw [zno e, hno (by rw [<- e]; exact hn.1), zcN, zcN, e, Int.add_mul]
   omega
  ·
   rw [znn e]
   rw [List.map_cons] at hk
   have hk : k ∈ M.map (·.1) := (znt.1 hk).elim (fun h => absurd h.symm e) id
   rw [ih hn.2 hk]
   omega
theorem zhH {c : List Int} (h : zP c = 0) (x : Nat) : atC x c = 0 := by
 unfold atC
 cases hx : c[x]? with
 | none => rfl
 | some v =>
  have := ya (zne hx)
  rw [h] at this
  exact Int.zero_dvd.1 this
theorem zgs {L : Mx} {M : List (List Int × Int)} (h : MSpec L M) (c : List Int) (x : Nat) : ((zu (yJ M c)).map (atC x)).sum = ((zu M).map (atC x)).sum + atC x c := by
 unfold yJ
 split
 ·
  rename_i h0
  rw [zhH h0, Int.add_zero]
 ·
  split
  ·
   rename_i h1
   rw [zhG x h.nd h1, zhF]
  ·
   unfold zu
   rw [List.map_append, List.map_append, List.sum_append]
   simp only [List.map_cons, List.map_nil, List.sum_cons, List.sum_nil, Int.add_zero]
   rw [za6]
theorem jQ (x : Nat) : ∀ (L K : Mx) (M : List (List Int × Int)), MSpec K M -> ((zu (L.foldl yJ M)).map (atC x)).sum = ((zu M).map (atC x)).sum + (L.map (atC x)).sum
 | [], K, M, _ => by simp
 | c :: L, K, M, h => by
  rw [List.foldl_cons, jQ x L (K ++ [c]) _ (h.step c), zgs h, List.map_cons, List.sum_cons]
  omega
theorem zhI (x : Nat) (L : Mx) : ((zu (yg L)).map (atC x)).sum = (L.map (atC x)).sum := by
 have h := jQ x L [] [] ⟨List.Pairwise.nil, fun p => ⟨fun h => (by cases h), fun h => by obtain ⟨⟨c, hc, _⟩, _⟩ := h; cases hc⟩⟩
 rw [show yg L = L.foldl yJ [] from rfl, h]
 simp [zu]
theorem zgt (M : List (List Int × Int)) (c : List Int) : (yJ M c).length <= M.length + 1 := by
 unfold yJ
 split
 . omega
 ·
  split
  . rw [znx]; omega
  . rw [znl]; simp
theorem jR : ∀ (L : Mx) (M : List (List Int × Int)), (L.foldl yJ M).length <= M.length + L.length
 | [], M => by simp
 | c :: L, M => by
  have h1 := jR L (yJ M c)
  have h2 := zgt M c
  rw [List.foldl_cons, znG]
  omega
theorem zf9 (L : Mx) : (yg L).length <= L.length := by
 have := jR L []
 show (L.foldl yJ []).length <= _
 simpa using this
theorem zfa (c : List Int) : (xg c).length = c.length := by simp [xg]
theorem zcO {l : List Int} {g : Int} (h : ∀ n ∈ l, g ∣ n) : g * (l.map (· / g)).sum = l.sum := by
 induction l with
 | nil => simp
 | cons n l ih =>
  rw [List.map_cons, List.sum_cons, List.sum_cons, Int.mul_add, ih fun x hx => h x (zng _ hx), Int.mul_ediv_cancel' (h n (znh ..))]
theorem zgu {l m : List Int} (h : l.Perm m) : l.sum = m.sum := by
 induction h with
 | nil => rfl
 | cons x _ ih => rw [List.sum_cons, List.sum_cons, ih]
 | swap x y l => simp only [List.sum_cons]; omega
 | trans _ _ h1 h2 => rw [h1, h2]
theorem IsAbs.row {L out : Mx} (h : IsAbs L out) (x : Nat) : zP (zu (yg L)).flatten * (out.map (atC x)).sum = (L.map (atC x)).sum := by
 rw [<- zhI x L, zgu (h.perm.map (atC x))]
 unfold xz
 rw [List.map_map]
 rw [<- zcO (g := zP (zu (yg L)).flatten) (l := (zu (yg L)).map (atC x)) fun n hn => by
  obtain ⟨c, hc, rfl⟩ := List.mem_map.1 hn
  unfold atC
  cases hx : c[x]? with
  | none => exact Int.dvd_zero _
  | some v => exact ya (List.mem_flatten.2 ⟨c, hc, zne hx⟩)]
 rw [List.map_map]
 congr 2
 refine List.map_congr_left fun c _ => ?_
 simp only [Function.comp, atC, znu]
 cases c[x]? with
 | none => simp
 | some v => rfl
theorem IsAbs.col {L out : Mx} (h : IsAbs L out) {n : Nat} (hL : ∀ c ∈ L, c.length = n /\ ∀ v ∈ c, 0 <= v) {c : List Int} (hc : c ∈ out) : c.length = n /\ ∀ v ∈ c, 0 <= v := by
 have hc := h.perm.mem_iff.1 hc
 rw [zdP (xJ L)] at hc
 obtain ⟨p, hp, rfl⟩ := List.mem_map.1 hc
 obtain ⟨q, hq, rfl⟩ := List.mem_map.1 hp
 obtain ⟨⟨d, hd, hd0, hde⟩, _⟩ := ((xJ L).mem q).1 hq
 obtain ⟨h1, h2⟩ := hL d hd
 have hr := (xJ L).red hp
 refine ⟨by rw [znx]; show q.1.length = n; rw [<- hde, zfa]; exact h1, fun v hv => ?_⟩
 obtain ⟨u, hu, rfl⟩ := List.mem_map.1 hv
 refine znI (by have := hr.2; omega) ?_
 rw [show q.1 = xg d from hde.symm] at hu
 obtain ⟨w, hw, rfl⟩ := List.mem_map.1 hu
 exact Int.ediv_nonneg (h2 w hw) (yz d)
theorem ziy {c : Mx} {x : Nat} (hv : ∀ row ∈ c, row.length = (c.headD []).length) (hx : x < c.length) : ((zN c).map (atC x)) = c[x] := by
 have hr := hv _ (List.getElem_mem hx)
 apply List.ext_getElem?
 intro y
 unfold zN
 rw [List.map_map, znu]
 by_cases hy : y < (c.headD []).length
 ·
  rw [List.getElem?_range hy, znd (by omega)]
  simp [atC, jm, znd hx, znd (show y < c[x].length by omega)]
 ·
  rw [znB (by rw [List.length_range]; omega), znB (by omega)]
  rfl
theorem zfb {c : Mx} (h : VMx c) {col : List Int} (hc : col ∈ zN c) : col.length = c.length /\ ∀ v ∈ col, 0 <= v := by
 refine ⟨za9 hc, fun v hv => ?_⟩
 obtain ⟨y, _, rfl⟩ := List.mem_map.1 hc
 obtain ⟨row, hr, rfl⟩ := List.mem_map.1 hv
 cases hy : row[y]? with
 | none => exact Int.le_refl 0
 | some v => exact h.nn row hr v (zne hy)
theorem zn4 {c out : Mx} (hv : VMx c) (h : IsAbs (zN c) out) : VMx (jD c.length out) /\ zN (jD c.length out) = out := by
 have hcol : ∀ col ∈ out, col.length = c.length /\ ∀ v ∈ col, 0 <= v := fun col hc => h.col (fun d hd => zfb hv hd) hc
 have ht := zf8 hv.r1 fun col hc => (hcol col hc).1
 have hsum : ∀ x, x < c.length -> zP (zu (yg (zN c))).flatten * (jm out x).sum = (c.headD []).sum := fun x hx => by
  rw [zgr, h.row, ziy hv.wid hx]
  exact hv.sm _ (List.getElem_mem hx)
 have hG : 0 < zP (zu (yg (zN c))).flatten := by
  have h1 := yz (zu (yg (zN c))).flatten
  have h2 := hsum 0 hv.r1
  have h3 := hv.s1
  rcases Int.lt_or_eq_of_le h1 with h4 | h4
  . exact h4
  . rw [<- h4, Int.zero_mul] at h2; omega
 have hle : ∀ x, x < c.length -> 1 <= (jm out x).sum /\ (jm out x).sum <= (c.headD []).sum := fun x hx => by
  have h2 := hsum x hx
  have h3 := hv.s1
  have h4 : 0 < (jm out x).sum := Int.pos_of_mul_pos_left (by rw [Int.mul_comm, h2]; omega) hG
  refine ⟨h4, ?_⟩
  rw [<- h2]
  have := Int.mul_le_mul_of_nonneg_right (show (1 : Int) <= zP (zu (yg (zN c))).flatten by omega) (show 0 <= (jm out x).sum by omega)
  omega
 have heq : ∀ x y, x < c.length -> y < c.length -> (jm out x).sum = (jm out y).sum := fun x y hx hy =>
  Int.eq_of_mul_eq_mul_left (by omega) ((hsum x hx).trans (hsum y hy).symm)
 have hhd : (jD c.length out).headD [] = jm out 0 := by
  obtain ⟨m, hm⟩ : ∃ m, c.length = m + 1 := ⟨c.length - 1, by have := hv.r1; omega⟩
  rw [hm]
  simp [jD, List.range_succ_eq_map]
 have hwid : out.length <= (c.headD []).length := by
  rw [h.perm.length_eq]
  have := zf9 (zN c)
  rw [qi] at this
  simpa [xz, zu] using this
 have hne : 1 <= out.length := by
  cases out with
  | nil => have := (hle 0 hv.r1).1; simp [jm] at this
  | cons _ _ => simp
 refine ⟨⟨by rw [zc6]; exact hv.r1, by rw [zc6]; exact hv.r2, by rw [hhd, xK]; exact hne, by rw [hhd, xK]; have := hv.w2; omega, fun row hr => ?_, fun row hr n hn => ?_, by rw [hhd]; exact (hle 0 hv.r1).1, by rw [hhd]; have := (hle 0 hv.r1).2; have := hv.s2; omega, fun row hr => ?_⟩, ht⟩
 ·
  obtain ⟨x, _, rfl⟩ := List.mem_map.1 hr
  rw [hhd, xK, xK]
 ·
  obtain ⟨x, _, rfl⟩ := List.mem_map.1 hr
  obtain ⟨col, hc, rfl⟩ := List.mem_map.1 hn
  cases hx : col[x]? with
  | none => exact Int.le_refl 0
  | some v => exact (hcol col hc).2 v (zne hx)
 ·
  obtain ⟨x, hx, rfl⟩ := List.mem_map.1 hr
  rw [hhd]
  exact heq x 0 (List.mem_range.1 hx) hv.r1
def zv : List Int -> List Int -> List Int
 | seen, [] => seen
 | seen, l :: r => zv (if l ∈ seen then seen else seen ++ [l]) r
theorem firsts_mem : ∀ {l seen : List Int} {x : Int}, x ∈ zv seen l ↔ x ∈ seen \/ x ∈ l
 | [], seen, x => by simp [zv]
 | y :: l, seen, x => by
  rw [zv, firsts_mem, znt]
  by_cases h : y ∈ seen
  ·
   rw [zno h]
   exact ⟨fun g => g.elim .inl (fun g => .inr (.inr g)), fun g => g.elim .inl (fun g => g.elim (fun e => .inl (e ▸ h)) .inr)⟩
  . rw [znn h, znw, znv, or_assoc]
theorem xh (x : Int) : ∀ (l seen : List Int), zv seen (l ++ [x]) = if x ∈ zv seen l then zv seen l else zv seen l ++ [x]
 | [], seen => by rw [List.nil_append, zv, zv, zv]
 | y :: l, seen => by rw [List.cons_append, zv, xh x l, zv]
def yp (l : List Int) : List Int := l.map fun x => ((zv [] l).idxOf x : Int)
theorem zhJ {a b : List Int} {x : Int} (h : x ∈ a) : (a ++ b).idxOf x = a.idxOf x := by
 rw [List.idxOf_append, zno h]
theorem zaa (l : List Int) (x : Int) : yp (l ++ [x]) = yp l ++ [((zv [] (l ++ [x])).idxOf x : Int)] := by
 unfold yp
 rw [List.map_append]
 congr 1
 refine List.map_congr_left fun y hy => ?_
 rw [xh]
 split
 . rfl
 . rw [zhJ (firsts_mem.2 (.inr hy))]
theorem zdQ (l : List Int) : (yp l).length = l.length := by simp [yp]
def nP (p : List Int) : Int := p.foldl (fun n c => max n (c + 1)) 0
theorem zhK (p : List Int) (c : Int) : nP (p ++ [c]) = max (nP p) (c + 1) := by simp [nP, List.foldl_append]
def ziT (p : List Int) : Prop := ∀ i c, p[i]? = some c -> 0 <= c /\ c <= nP (p.take i)
theorem zfc {p : List Int} {c : Int} : ziT (p ++ [c]) ↔ ziT p /\ 0 <= c /\ c <= nP p := by
 unfold ziT
 constructor
 ·
  intro h
  refine ⟨fun i x hx => ?_, ?_⟩
  ·
   have hi := (znr.1 hx).1
   have := h i x (by rw [znD hi]; exact hx)
   rwa [List.take_append_of_le_length (by omega)] at this
  ·
   have := h p.length c (by simp)
   rwa [List.take_append_of_le_length (by omega), zni] at this
 ·
  rintro ⟨h, h1, h2⟩ i x hx
  by_cases hi : i < p.length
  ·
   rw [znD hi] at hx
   rw [List.take_append_of_le_length (by omega)]
   exact h i x hx
  ·
   have hl := (znr.1 hx).1
   rw [znl, zny] at hl
   obtain rfl : i = p.length := by omega
   rw [znE (by omega), Nat.sub_self] at hx
   obtain rfl : c = x := by simpa using hx
   rw [List.take_append_of_le_length (by omega), zni]
   exact ⟨h1, h2⟩
def zc7 (n : Nat) : List Int := (List.range n).map fun i : Nat => (i : Int)
theorem mem_upTo {n : Nat} {x : Int} : x ∈ zc7 n ↔ 0 <= x /\ x < (n : Int) := by
 unfold zc7
 rw [List.mem_map]
 constructor
 ·
  rintro ⟨i, hi, rfl⟩
  rw [List.mem_range] at hi
  omega
 ·
  intro h
  exact ⟨x.toNat, List.mem_range.2 (by omega), by omega⟩
theorem zbc (n : Nat) : (zc7 n).length = n := by simp [zc7]
theorem zax : ∀ (k : Nat) (l : List Int), l.length = k -> ziT (yp l) /\ nP (yp l) = (zv [] l).length
 | 0, l, hk => by
  obtain rfl : l = [] := List.length_eq_zero_iff.1 hk
  exact ⟨fun i c h => by simp [yp] at h, rfl⟩
 | k + 1, l, hk => by
  obtain ⟨q, x, rfl⟩ : ∃ q c, l = q ++ [c] := ⟨l.dropLast, l.getLast (by intro e; rw [e] at hk; simp at hk), (List.dropLast_concat_getLast _).symm⟩
  obtain ⟨h1, h2⟩ := zax k q (by simpa using hk)
  rw [zaa, zfc, zhK, h2, xh]
  by_cases hx : x ∈ zv [] q
  ·
   have := List.idxOf_lt_length_of_mem hx
   rw [zno hx]
   exact ⟨⟨h1, by omega, by omega⟩, by omega⟩
  ·
   have e : (zv [] q ++ [x]).idxOf x = (zv [] q).length := by
    rw [List.idxOf_append, znn hx]; simp
   rw [znn hx, e, znl, zny]
   exact ⟨⟨h1, by omega, by omega⟩, by omega⟩
def zfG (c : Mx) : Prop := ∀ row ∈ c, (row.filter fun n => decide (0 < n)).length = 1
instance (c : Mx) : Decidable (zfG c) := by unfold zfG; infer_instance
def ziz (row : List Int) : Int := ((row.findIdx fun n => decide (0 < n) : Nat) : Int)
def zbd (c : Mx) : List Int := c.map ziz
def spC (s : List Int) : ByteArray := ⟨(yq 32 s).toArray⟩
theorem zhL {a b : List Int} (h : spC a = spC b) : a = b := zbz (c := 32) (by decide) (by
 have := congrArg (fun x : ByteArray => x.data.toList) h
 simpa [spC] using this)
def IxIn (L : List (ByteArray × Value)) (K : List (List Int)) : Prop := ∀ s, jj L (spC s) = if s ∈ K then some (.int .i64 ((K.idxOf s : Nat) : Int)) else none
theorem zkC : IxIn [] [] := fun _ => rfl
theorem IxIn.add {L : List (ByteArray × Value)} {K : List (List Int)} (h : IxIn L K) {k : List Int} (hk : k ∉ K) : IxIn (yy L (spC k) (.int .i64 (K.length : Int))) (K ++ [k]) := fun s => by
 rw [jk]
 by_cases e : spC s = spC k
 ·
  obtain rfl := zhL e
  rw [zno rfl, zno (by simp), List.idxOf_append, znn hk]
  simp
 ·
  have hsk : s ≠ k := fun e2 => e (by rw [e2])
  rw [znn e, h s]
  by_cases hs : s ∈ K
  . rw [zno hs, zno (List.mem_append_left _ hs), List.idxOf_append, zno hs]
  . rw [znn hs, znn (by simp [hs, hsk])]
theorem qH {f : Fl} (vd : Valid f) : (∃ m, zn 1 f.vars = some m) /\ (∃ m, zn 2 f.vars = some m) /\ ∃ m, zn 3 f.vars = some m := by
 have h := (zO vd.ok).2.1
 unfold zx at h
 split at h
 . rename_i h1; exact absurd h h1
 split at h
 . cases h
 ·
  rename_i h2
  unfold xD at h2
  cases h3 : zn 1 f.vars <;> cases h4 : zn 2 f.vars <;> cases h5 : zn 3 f.vars <;> simp [h3, h4, h5] at h2 ⊢
def rnN (f : Fl) : Nat := ((zn 3 f.vars).getD 0).toNat
theorem zh3 {f : Fl} (vd : Valid f) : (zn 1 f.vars).getD 0 = (spN f : Int) /\ 1 <= spN f /\ spN f <= 4096 := by
 obtain ⟨⟨m, h⟩, _⟩ := qH vd
 have h1 := yh 1 f.vars 1 m vd.good (by omega) (by omega) h
 unfold spN
 rw [h, Option.getD_some]
 omega
theorem zh4 {f : Fl} (vd : Valid f) : (zn 3 f.vars).getD 0 = (rnN f : Int) /\ 1 <= rnN f /\ rnN f <= 4096 := by
 obtain ⟨_, _, m, h⟩ := qH vd
 have h1 := yh 3 f.vars 1 m vd.good (by omega) (by omega) h
 unfold rnN
 rw [h, Option.getD_some]
 omega
theorem zhM {f : Fl} (vd : Valid f) {s r : Nat} (hs : s < spN f) (hr : r < rnN f) : zo 1 f.vars s = 0 /\ zo 2 f.vars 0 = 0 /\ zo 3 f.vars r = 0 := by
 obtain ⟨⟨m1, h1⟩, ⟨m2, h2⟩, m3, h3⟩ := qH vd
 have a1 := (zh3 vd).1
 have a3 := (zh4 vd).1
 refine ⟨?_, zhz vd.good (by rw [h2]; rfl), ?_⟩
 ·
  unfold zo
  rw [zno (by rw [h1]; rfl), znn (by omega)]
 ·
  unfold zo
  rw [zno (by rw [h3]; rfl), znn (by omega)]
def zj2 (f : Fl) (pub : List Int) (t : Bool) (s : Nat) : List Ob := (List.range (rnN f)).map (obX f pub t s)
def zi8 (f : Fl) (pub : List Int) (t : Bool) : List Ob := zdN ((List.range (spN f)).flatMap (zj2 f pub t))
def mxO (f : Fl) (pub : List Int) (t : Bool) : Mx := (List.range (spN f)).map fun s => (zi8 f pub t).map fun o => ((zfF (obX f pub t s) (rnN f) o : Nat) : Int)
def xi (f : Fl) (pub : List Int) (t : Bool) : Int :=
 if yi f ≠ 0 then yi f else if (qg 2 f.vars pub).2 ≠ 0 then (if (qg 2 f.vars pub).2 = 2 then 1 else (qg 2 f.vars pub).2) else if 256 < spN f then 4 else if 256 < (zi8 f pub t).length then 4 else 0
theorem zhN {f : Fl} {pub : List Int} {t : Bool} {al : List Ob} {cnt : Nat -> Nat -> Nat} (h : OfIn (obX f pub t) (rnN f) (spN f) 0 al cnt) : (∀ o, o ∈ al ↔ o ∈ (List.range (spN f)).flatMap (zj2 f pub t)) /\ ∀ s, s < spN f -> ∀ k o, al[k]? = some o -> cnt s k = zfF (obX f pub t s) (rnN f) o := by
 refine ⟨fun o => ?_, fun s hs k o hk => ?_⟩
 ·
  rw [h.mem, List.mem_flatMap]
  constructor
  ·
   rintro ⟨s', r', h1, h2⟩
   unfold xy at h1
   by_cases hs : s' < spN f
   ·
    rw [zno hs] at h1
    exact ⟨s', List.mem_range.2 hs, List.mem_map.2 ⟨r', List.mem_range.2 h1, h2⟩⟩
   ·
    rw [znn hs] at h1
    split at h1 <;> omega
  ·
   rintro ⟨s', h1, h2⟩
   obtain ⟨r', h3, h4⟩ := List.mem_map.1 h2
   refine ⟨s', r', ?_, h4⟩
   unfold xy
   rw [zno (List.mem_range.1 h1)]
   exact List.mem_range.1 h3
 ·
  rw [h.ct s k o hk]
  unfold xy
  rw [zno hs]
def zc8 (s k : Nat) (hs : s < 1000000000) (hk : k < 1000000000) : zgY := ⟨((s : Int), (k : Int)), ⟨by omega, by omega⟩, by omega, by omega⟩
def CntIn (L : List (zgY × Value)) (cnt : Nat -> Nat -> Nat) : Prop := ∀ s k (hs : s < 1000000000) (hk : k < 1000000000), (jj L (zc8 s k hs hk)).getD (.int .i64 0) = .int .i64 ((cnt s k : Nat) : Int)
theorem zkD : CntIn [] (fun _ _ => 0) := fun _ _ _ _ => rfl
theorem CntIn.add {L : List (zgY × Value)} {cnt : Nat -> Nat -> Nat} (h : CntIn L cnt) {s k : Nat} (hs : s < 1000000000) (hk : k < 1000000000) : CntIn (yy L (zc8 s k hs hk) (.int .i64 ((cnt s k : Nat) + 1 : Int))) (fun s' k' => cnt s' k' + if s' = s /\ k' = k then 1 else 0) := fun s' k' hs' hk' => by
 rw [jk]
 by_cases e : s' = s /\ k' = k
 ·
  obtain ⟨rfl, rfl⟩ := e
  rw [zno rfl]
  simp
 ·
  rw [znn, h s' k' hs' hk']
  ·
   dsimp only
   rw [znn e]
   simp
  ·
   intro e2
   have := congrArg Subtype.val e2
   simp only [zc8, Prod.mk.injEq] at this
   exact e ⟨by omega, by omega⟩
def spO (o : Ob) : List Int := o.2 :: o.1
theorem zfd {o p : Ob} (h : spO o = spO p) : o = p := by
 unfold spO at h
 simp only [List.cons.injEq] at h
 exact Prod.ext h.2 h.1
theorem spO_mem {o : Ob} {al : List Ob} : spO o ∈ al.map spO ↔ o ∈ al := by
 constructor
 ·
  intro h
  obtain ⟨p, hp, e⟩ := List.mem_map.1 h
  rwa [<- zfd e]
 . exact fun h => List.mem_map.2 ⟨o, h, rfl⟩
theorem zhO {o : Ob} {al : List Ob} (h : o ∈ al) : (al.map spO).idxOf (spO o) < al.length /\ al[(al.map spO).idxOf (spO o)]? = some o := by
 have h1 := List.idxOf_lt_length_iff.2 (spO_mem.2 h)
 have h2 : (al.map spO)[(al.map spO).idxOf (spO o)]? = some (spO o) := by rw [znd h1, List.getElem_idxOf]
 rw [znx] at h1
 refine ⟨h1, ?_⟩
 rw [znu] at h2
 obtain ⟨p, hp, e⟩ := Option.map_eq_some_iff.1 h2
 rw [hp, zfd e]
end Go.Proofs.YtaenledoagbddaaGreatDoor
namespace Go.GL
open Go.Sort Go.Proofs Go.RowKit
section
variable {β : Type} [Inhabited β] {enc : β -> Value}
theorem xL {w : World} {b : Nat} {l : List β} {sp : List Value} {e : TypeId} (hb : Blk w b (l.map enc ++ sp) e) (d : Array β) (hs : d.size = l.length) (m : Nat) (os : Array Obj) :
  Blk (sortWorld enc w b 0 m d os) b (d.toList.map enc ++ sp) e /\ Keep (fun q => q = b) w (sortWorld enc w b 0 m d os) := by
 unfold sortWorld
 have hblk := hb.lt
 have hsz : (putRow enc (Go.Sort.ahead w m) b 0 d).heap.size = w.heap.size := by simp []
 have hat : ∀ i, i < w.heap.size -> (grow (putRow enc (Go.Sort.ahead w m) b 0 d) os).heap[i]? = (putRow enc (Go.Sort.ahead w m) b 0 d).heap[i]? := by
  intro i hi
  show ((putRow enc (Go.Sort.ahead w m) b 0 d).heap ++ os)[i]? = _
  rw [Array.getElem?_append_left (by rw [hsz]; exact hi)]
 refine ⟨?_, rfl, rfl, rfl, Nat.le_add_right _ _, ?_, ?_⟩
 ·
  unfold Blk at *
  rw [hat b hblk]
  show (w.heap.modify b _)[b]? = _
  rw [Array.getElem?_modify, zno rfl, hb]
  simp only [Option.map_some, onCells]
  congr 2
  apply Array.ext_getElem?
  intro j
  simp only [putCells, Array.getElem?_mapIdx, List.getElem?_toArray]
  by_cases hj : j < d.size
  ·
   rw [znD (by simpa [<- hs] using hj), znD (by simpa using hj)]
   rw [znd (by simpa [<- hs] using hj)]
   simp [hj]
  ·
   rw [znE (by simp; omega), znE (by simp; omega)]
   have hj' : ¬ j < l.length := by omega
   simp [hs, hj']
 ·
  show w.heap.size <= ((putRow enc (Go.Sort.ahead w m) b 0 d).heap ++ os).size
  rw [Array.size_append, hsz]; omega
 ·
  intro i hi hne
  rw [hat i hi]
  show (w.heap.modify b _)[i]? = _
  rw [Array.getElem?_modify, znn (fun h => hne h.symm)]
theorem zfe {w : World} {b : Nat} {l : List β} {sp : List Value} {e : TypeId} (hb : Blk w b (l.map enc ++ sp) e) : Holds enc w b 0 l.toArray := by
 intro j hj
 have hj' : j < l.length := by simpa using hj
 refine ⟨?_, hb.frozen⟩
 refine hb.cells j _ ?_
 rw [znD (by simpa using hj'), znu, znd hj']
 simp [hj']
end
section
variable {P : Program} {f6 g : FuncId} {cb : Array Value} {α : Type} {R : Rel α} [hst : StC R] {e : TypeId} {cf : α -> α -> Int} {l : List α} {v : Value} {F : Nat -> Prop} {w : World}
abbrev El1 (R : Rel α) (F : Nat -> Prop) (w : World) := { x : α × Value // R F w x.1 [x.2] }
abbrev zi9 {R : Rel α} {F : Nat -> Prop} {w : World} (x : El1 R F w) : Value := x.1.2
omit hst in
theorem zdl {F : Nat -> Prop} {w : World} : ∀ (l : List α) (xs : List Value), xs.length = l.length * 1 -> (∀ (i : Nat) x, l[i]? = some x -> R F w x ((xs.drop (i * 1)).take 1)) -> ∃ es : List (El1 R F w), es.map (fun e => e.1.1) = l /\ es.map zi9 = xs
 | [], [], _, _ => ⟨[], rfl, rfl⟩
 | [], _ :: _, h, _ => by simp at h
 | x :: l, [], h, _ => by simp at h
 | x :: l, a :: xs, h, hR => by
  have h1 := hR 0 x rfl
  rw [Nat.zero_mul, List.drop_zero, List.take_succ_cons, List.take_zero] at h1
  obtain ⟨es, h3, h4⟩ := zdl l xs (by simp at h; omega) (fun i y hy => by
   have := hR (i + 1) y (by simpa using hy)
   rw [Nat.succ_mul] at this
   simpa using this)
  exact ⟨⟨(x, a), h1⟩ :: es, by simp [h3], by simp [h4]⟩
omit hst in
theorem zff {F : Nat -> Prop} {w w' : World} (hk : ∀ x cs, R F w x cs -> R F w' x cs) : ∀ (es : List (El1 R F w)) (i : Nat) (x : α), (es.map (fun e => e.1.1))[i]? = some x -> R F w' x (((es.map zi9).drop (i * 1)).take 1)
 | [], i, x, h => by simp at h
 | e :: es, 0, x, h => by
  simp only [List.map_cons, List.getElem?_cons_zero, Option.some.injEq] at h
  subst h
  exact hk _ _ e.2
 | e :: es, i + 1, x, h => by
  simp only [List.map_cons, List.getElem?_cons_succ] at h
  have := zff hk es i x h
  rw [Nat.succ_mul]
  simpa using this
def zdm (P : Program) (f6 : FuncId) : Prop := (∀ {β : Type} [Inhabited β] (enc : β -> Value) (_ : OneCell enc) (cf : β -> β -> Int) (_ : SWO (ltOf cf)) (g : Nat) (cb : Array Value) (blk off cap : Nat) (d : Array β) (w : World) (_ : ∀ args w, (callFunc g args).run P w = .ok (.enter g args) w) (_ : CmpLays1 P g cb enc cf blk off d.size w) (_ : Holds enc w blk off d) (_ : blk < w.heap.size) (_ : d.size < 4611686018427387904),
  Calls P f6 #[.slice (some ⟨blk, off, none⟩) d.size cap, .func (.func g) #[] cb] w fun e w' => e = .returned (.tuple #[]) /\ ∃ d' n os, PermIn 0 d.size d d' /\ SortedIn (ltOf cf) 0 d.size d' /\ w' = sortWorld enc w blk off n d' os) /\
 ∀ (p : Option Addr) (cap : Nat) (fv : Value) (w : World), Calls P f6 #[.slice p 0 cap, fv] w fun e w' => e = .returned (.tuple #[]) /\ w' = w
theorem zgv (hS : zdm P f6) (h1 : ∀ D w x cs, R D w x cs -> ∃ u, cs = [u] /\ u.oneCell' = true) (hf : ∀ args w, (callFunc g args).run P w = .ok (.enter g args) w) (hO : SWO (ltOf cf)) (hlen : l.length <= 1048576) (hown : OwH e 1 R F w v l)
  (hcf : ∀ (x y : α) (u u' : Value) (W : World), Keep (fun q => v.ownBlock = some q) w W -> R F W x [u] -> R F W y [u'] -> Calls P g (#[u, u'] ++ cb) W (Ret fun r w' => r = .int .i64 (cf x y) /\ Ext W w')) :
  Calls P f6 #[v, .func (.func g) #[] cb] w (Ret fun u w' => u = .tuple #[] /\ ∃ l' : List α, l'.Perm l /\ l'.Pairwise (fun a b => ¬ cf b a < 0) /\ OwH e 1 R F w' v l' /\ Keep (fun q => v.ownBlock = some q) w w') := by
 by_cases h0 : l = []
 ·
  subst h0
  obtain ⟨ao, c, rfl, _⟩ := hown.form
  refine (hS.2 ao c (.func (.func g) #[] cb) w).mono ?_
  rintro e w' ⟨rfl, rfl⟩
  exact ⟨_, rfl, rfl, [], List.Perm.refl _, List.Pairwise.nil, hown, Keep.refl _ _⟩
 obtain ⟨⟨xs, hx1, hx2⟩, hF⟩ := hown
 obtain ⟨es, he1, he2⟩ := zdl l xs hx1.1 hx2
 subst he2
 have hel : es.length = l.length := by rw [<- he1, znx]
 have hes : es ≠ [] := fun h => h0 (by rw [<- he1, h]; rfl)
 obtain ⟨b, cap, sp, rfl, _, hnc, hcm, hB, hcl⟩ := ze5 hx1 hes
 haveI : Inhabited (El1 R F w) := ⟨es.head hes⟩
 have hFg : ∀ q, F q -> q ≠ b := fun q hq e => (hF q hq).2 (by rw [e]; rfl)
 have hswo : SWO (ltOf fun x y : El1 R F w => cf x.1.1 y.1.1) := ⟨fun x => hO.1 x.1.1, fun x y z => hO.2 x.1.1 y.1.1 z.1.1, fun x y z => hO.3 x.1.1 y.1.1 z.1.1⟩
 have hkeep : ∀ (d : Array (El1 R F w)) (m : Nat) (os : Array Obj), d.size = es.length -> Keep (fun q => (Value.slice (some ⟨b, 0, none⟩) l.length cap).ownBlock = some q) w (sortWorld zi9 w b 0 m d os) := fun d m os hd => (xL hB d hd m os).2.mono (fun q _ h => by rw [h]; rfl)
 have hstc : ∀ (d : Array (El1 R F w)) (m : Nat) (os : Array Obj), d.size = es.length -> ∀ x cs, R F w x cs -> R F (sortWorld zi9 w b 0 m d os) x cs := fun d m os hd x cs hs =>
  hst.s F F w _ (fun _ h => h) (fun q hq hlt => (xL hB d hd m os).2.block q hlt (hFg q hq)) x cs hs
 have hcon := hS.1 zi9 (fun x => by obtain ⟨u, h2, h3⟩ := h1 _ _ _ _ x.2; cases h2; exact h3) (fun x y => cf x.1.1 y.1.1) hswo g cb b 0 cap es.toArray w hf
  (fun m os dk hd x y => by
   have hd' : dk.size = es.length := by simpa using hd
   refine (hcf x.1.1 y.1.1 _ _ _ (hkeep dk m os hd') (hstc dk m os hd' _ _ x.2) (hstc dk m os hd' _ _ y.2)).mono ?_
   rintro e w' ⟨v, rfl, rfl, hk⟩
   exact ⟨rfl, zgo hk⟩)
  (zfe hB) hB.lt (by simp only [List.size_toArray]; omega)
 rw [show es.toArray.size = l.length from by simpa using hel] at hcon
 refine hcon.mono ?_
 rintro e w' ⟨rfl, d', q, os, hp, hs, rfl⟩
 have hds : d'.size = es.length := by have := hp.1; simpa using this
 have hw := xL hB d' hds q os
 have hperm : d'.toList.Perm es := zcJ (by rw [show es.toArray.size = l.length from by simpa using hel]; exact hp)
 have hdl : d'.toList.length = l.length := by rw [hperm.length_eq, hel]
 refine ⟨_, rfl, rfl, d'.toList.map (fun e => e.1.1), ?_, ?_, ⟨⟨d'.toList.map zi9, ?_, ?_⟩, fun q hq => ⟨Nat.lt_of_lt_of_le (hF q hq).1 hw.2.size, (hF q hq).2⟩⟩, hkeep d' q os hds⟩
 ·
  have := hperm.map (fun e => e.1.1)
  rwa [he1] at this
 ·
  rw [List.pairwise_map]
  refine (zb7 (by rw [hds, hel]) hs).imp ?_
  intro a b h
  unfold ltOf at h
  simpa using h
 ·
  have h4 := ze6 hw.1 (cap := cap) (by rw [<- hcl, znl, znl, znx, znx, hperm.length_eq]) hcm
  rw [hdl] at h4
  rw [znx, hdl]
  exact h4
 . exact zff (hstc d' q os hds) d'.toList
theorem zfg {H : Hp} {Bs : zH} {k : Nat} (hS : zdm P f6) (h1 : ∀ D w x cs, R D w x cs -> ∃ u, cs = [u] /\ u.oneCell' = true) (hf : ∀ args w, (callFunc g args).run P w = .ok (.enter g args) w) (hO : SWO (ltOf cf)) (hI : VI Bs H w) (h0 : zi H k = some (OwP e 1 R F v l)) (hlen : l.length <= 1048576)
  (hcf : ∀ (x y : α) (u u' : Value) (W : World), Keep (fun q => v.ownBlock = some q) w W -> R F W x [u] -> R F W y [u'] -> Calls P g (#[u, u'] ++ cb) W (Ret fun r w' => r = .int .i64 (cf x y) /\ Ext W w')) :
  Calls P f6 #[v, .func (.func g) #[] cb] w (Ret fun r w' => ∃ l' : List α, (r = .tuple #[] /\ l'.Perm l /\ l'.Pairwise (fun a b => ¬ cf b a < 0)) /\ HE.holds w' (OwP e 1 R F v l') /\ Keep (HE.S (OwP e 1 R F v l)) w w' /\ ∀ q, HE.S (OwP e 1 R F v l') q -> (HE.S (OwP e 1 R F v l) q \/ w.heap.size <= q) /\ q < w'.heap.size) := by
 refine (zgv hS h1 hf hO hlen (hI.at k h0) hcf).mono ?_
 rintro _ w' ⟨_, rfl, rfl, l', h1, h2, h3, h4⟩
 refine ⟨_, rfl, l', ⟨rfl, h1, h2⟩, h3, h4.mono fun q _ hq => .inl hq, fun q hq => ⟨.inl hq, ?_⟩⟩
 exact Nat.lt_of_lt_of_le (hI.low _ (zf h0) q hq) h4.size
end
end Go.GL
namespace Go.Proofs
open Go.Shelf
def Tryz.laysSlF6B_ren : Go.Shelf.Ren := ⟨fun | 6 => 67 | 15 => 130 | 14 => 129 | 28 => 167 | 29 => 168 | 20 => 159 | 21 => 160 | 22 => 161 | 23 => 162 | 24 => 163 | 25 => 164 | 26 => 165 | 27 => 166 | 46 => 209 | 47 => 210 | 48 => 211 | 49 => 212 | 50 => 213 | 57 => 229 | n => n, fun | 22 => 27 | 24 => 3 | 25 => 113 | 3 => 3 | 39 => 172 | 0 => 0 | 53 => 205 | 55 => 207 | 4 => 4 | 46 => 199 | 45 => 198 | 50 => 108 | 5 => 5 | 9 => 9 | 66 => 234 | 70 => 238 | 76 => 251 | 77 => 180 | n => n, fun | n => n⟩
theorem Tryz.laysSlF6B : Go.Proofs.SlLaysF.n6 Tryz.prog Tryz.laysSlF6B_ren := {
 mixed := by kernel_rfl
 f6 := ⟨Tryz.f67.name, by decide, Tryz.func67.trans (congrArg some (by kernel_rfl))⟩
 f14 := ⟨Tryz.f129.name, by decide, Tryz.func129.trans (congrArg some (by kernel_rfl))⟩
 f15 := Tryz.func130.trans (congrArg some (by kernel_rfl))
 f20 := ⟨Tryz.f159.name, by decide, Tryz.func159.trans (congrArg some (by kernel_rfl))⟩
 f21 := ⟨Tryz.f160.name, by decide, Tryz.func160.trans (congrArg some (by kernel_rfl))⟩
 f22 := ⟨Tryz.f161.name, by decide, Tryz.func161.trans (congrArg some (by kernel_rfl))⟩
 f23 := ⟨Tryz.f162.name, by decide, Tryz.func162.trans (congrArg some (by kernel_rfl))⟩
 f24 := ⟨Tryz.f163.name, by decide, Tryz.func163.trans (congrArg some (by kernel_rfl))⟩
 f25 := ⟨Tryz.f164.name, by decide, Tryz.func164.trans (congrArg some (by kernel_rfl))⟩
 f26 := ⟨Tryz.f165.name, by decide, Tryz.func165.trans (congrArg some (by kernel_rfl))⟩
 f27 := ⟨Tryz.f166.name, by decide, Tryz.func166.trans (congrArg some (by kernel_rfl))⟩
 f28 := Tryz.func167.trans (congrArg some (by kernel_rfl))
 f29 := Tryz.func168.trans (congrArg some (by kernel_rfl))
 f46 := ⟨Tryz.f209.name, by decide, Tryz.func209.trans (congrArg some (by kernel_rfl))⟩
 f47 := Tryz.func210.trans (congrArg some (by kernel_rfl))
 f48 := Tryz.func211.trans (congrArg some (by kernel_rfl))
 f49 := ⟨Tryz.f212.name, by decide, Tryz.func212.trans (congrArg some (by kernel_rfl))⟩
 f50 := ⟨Tryz.f213.name, by decide, Tryz.func213.trans (congrArg some (by kernel_rfl))⟩
 f57 := ⟨Tryz.f229.name, by decide, Tryz.func229.trans (congrArg some (by kernel_rfl))⟩
 t0 := tu0
 a0 := tg0
 z0 := ts0
 v0 := tz0
 t3 := tu3
 a3 := tg3
 z3 := ts3
 v3 := tz3
 t4 := tu4
 a4 := tg4
 z4 := ts4
 v4 := tz4
 t5 := tu5
 a5 := tg5
 z5 := ts5
 v5 := tz5
 t9 := tu9
 a9 := tg9
 z9 := ts9
 v9 := tz9
 t22 := tu27
 a22 := tg27
 z22 := ts27
 v22 := tz27
 a24 := tg3
 z24 := ts3
 t25 := Tryz.underlying113
 a25 := Tryz.isAgg113
 z25 := Tryz.sizeOf113
 v25 := Tryz.zeroValue113
 t39 := tu172
 a39 := Tryz.isAgg172
 z39 := ts172
 v39 := tz172
 t45 := tu198
 a45 := Tryz.isAgg198
 z45 := Tryz.sizeOf198
 v45 := Tryz.zeroValue198
 t46 := tu199
 a46 := Tryz.isAgg199
 z46 := Tryz.sizeOf199
 v46 := Tryz.zeroValue199
 t50 := tu108
 a50 := Tryz.isAgg108
 z50 := Tryz.sizeOf108
 v50 := Tryz.zeroValue108
 t53 := tu205
 a53 := Tryz.isAgg205
 z53 := ts205
 v53 := tz205
 t55 := tu207
 a55 := Tryz.isAgg207
 z55 := ts207
 v55 := tz207
 t66 := tu234
 a66 := Tryz.isAgg234
 z66 := ts234
 v66 := Tryz.zeroValue234
 t70 := tu238
 a70 := Tryz.isAgg238
 z70 := Tryz.sizeOf238
 v70 := Tryz.zeroValue238
 t76 := tu251
 a76 := Tryz.isAgg251
 z76 := Tryz.sizeOf251
 v76 := Tryz.zeroValue251
 t77 := tu180
 a77 := Tryz.isAgg180
 z77 := Tryz.sizeOf180
 v77 := Tryz.zeroValue180 }
open Go.RowKit Go.Lib Go.Sort in
theorem Tryz.slices_SortFuncB {α : Type} [Inhabited α] (enc : α -> Value) (h1 : OneCell enc) (cf : α -> α -> Int) (hO : SWO (ltOf cf)) (g : Nat) (cb : Array Value) (blk off cap : Nat) (d : Array α) (w : World) (eg : ∀ args w, (callFunc g args).run Tryz.prog w = .ok (.enter g args) w) (hcmp : CmpLays1 Tryz.prog g cb enc cf blk off d.size w) (hH : Holds enc w blk off d) (hblk : blk < w.heap.size) (hsz : d.size < 4611686018427387904) :
  Calls Tryz.prog 67 #[.slice (some ⟨blk, off, none⟩) d.size cap, .func (.func g) #[] cb] w fun e w' =>
   e = .returned (.tuple #[]) /\ ∃ d' n os, PermIn 0 d.size d d' /\ SortedIn (ltOf cf) 0 d.size d' /\ w' = sortWorld enc w blk off n d' os := Any.slices_SortFunc Tryz.laysSlF6B enc h1 cf hO g cb blk off cap d w eg hcmp hH hblk hsz
open Go.RowKit Go.Lib Go.Sort in
theorem Tryz.slices_SortFuncB_none (p : Option Addr) (cap : Nat) (fv : Value) (w : World) :
  Calls Tryz.prog 67 #[.slice p 0 cap, fv] w fun e w' => e = .returned (.tuple #[]) /\ w' = w := AnyF.slices_SortFunc_none { Tryz.laysSlF6B with } p cap fv w
end Go.Proofs
namespace Go.Proofs.YtaenledoagbddaaGreatDoor
open Go.GL
def atO (al : List Ob) (x : Int) : Ob := (al[x.toNat]?).getD ([], 0)
theorem zfh {al : List Ob} {k : Nat} {o : Ob} (h : al[k]? = some o) : atO al (k : Int) = o := by unfold atO; rw [znz, h]; rfl
theorem ziA (al : List Ob) (x y : Nat) (hx : x < al.length) (hy : y < al.length) (v : Value) (D : Nat -> Prop) (b : Nat) (W : World) (hB : Cells W b 0 [v]) (hl : SlR 2 ROb D W v al) : Calls Tryz.prog 68 #[.int .i64 x, .int .i64 y, .pointer (some ⟨b, 0, none⟩)] W (Ret fun r w' => r = .int .i64 (yj (atO al x) (atO al y)) /\ Ext W w') := by
 obtain ⟨av, cv, rfl⟩ := hl.form
 refine zlv Tryz.func68 O Tryz.ntmps68 O (zlE ?_)
 refine zm1 900 0 O O (fun h => h) hB ?_
 refine zlK 2 900 0 O O ?_
 refine Vs 6 O ?_
 obtain ⟨ox, he_ox, hm_ox⟩ := gE_ al (x) (by omega)
 obtain ⟨b_ox, o_ox, c_ox, ha_ox, _, hc_ox, hR_ox⟩ := hl.at he_ox
 obtain ⟨v1_ox, rfl, hs_ox⟩ := hR_ox
 obtain ⟨a1_ox, n1_ox, rfl⟩ := hs_ox.form
 refine zm0 1000 0 O O hc_ox ?_
 obtain ⟨oy, he_oy, hm_oy⟩ := gE_ al (y) (by omega)
 obtain ⟨b_oy, o_oy, c_oy, ha_oy, _, hc_oy, hR_oy⟩ := hl.at he_oy
 obtain ⟨v1_oy, rfl, hs_oy⟩ := hR_oy
 obtain ⟨a1_oy, n1_oy, rfl⟩ := hs_oy.form
 refine zm0 2000 0 O O hc_oy ?_
 refine Vw [900, 1000, 2000] [] O ?_
 refine Vd [0, 1, 4, 5] 0 (by kernel_rfl) O O O ?_
 refine VD.ix 2 1000 tR37 ts55 O (by kernel_rfl) O ha_ox (by omega) (x) (by omega) O ?_
 refine Vd [3] 0 (by kernel_rfl) O O O ?_
 refine VD.ix 6 2000 tR37 ts55 O (by kernel_rfl) O ha_oy (by omega) (y) (by omega) O ?_
 refine Vd [7] 0 (by kernel_rfl) O O O ?_
 refine zlU 8 0 Tryz.call69 O (by kernel_rfl) O O (fun w hI => zal ox oy _ _ D D w (Tr1 hI.k0 hs_ox) (Tr1 hI.k0 hs_oy)) ?_
 refine Vd [9] 0 (by kernel_rfl) O O O ?_
 refine zkr (by kernel_rfl) ?_
 refine Vs 2 O ?_
 refine zjH Tryz.results68 O (fun w hI => ⟨_, rfl, by rw [zfh he_ox, zfh he_oy], hI.k0⟩)
def zia (n : Nat) : Rel Int := fun _ _ x cs => cs = [.int .i64 x] /\ 0 <= x /\ x < (n : Int)
instance (n : Nat) : StC (zia n) := ⟨fun _ _ _ _ _ _ _ _ h => h⟩
theorem zhP {n : Nat} {w : World} {v : Value} {l : List Int} (h : w.ownsRow 0 3 1 v l.length (l.map zd)) (hl : ∀ x ∈ l, 0 <= x /\ x < (n : Int)) : OwH 3 1 (zia n) (fun _ => False) w v l :=
 ⟨⟨_, h, fun i x hx => ⟨by rw [Nat.mul_one, yC (show (l.map zd)[i]? = some (zd x) by rw [znu, hx]; rfl)]; rfl, hl x (zne hx)⟩⟩, fun _ h => h.elim⟩
theorem zfi {n : Nat} {F : Nat -> Prop} {w : World} {v : Value} {l : List Int} (h : OwH 3 1 (zia n) F w v l) : w.ownsRow 0 3 1 v l.length (l.map zd) /\ ∀ x ∈ l, 0 <= x /\ x < (n : Int) := by
 obtain ⟨⟨xs, h1, h2⟩, _⟩ := h
 have hxl := h1.1
 have : xs = l.map zd := by
  apply List.ext_getElem?
  intro i
  by_cases hi : i < l.length
  ·
   obtain ⟨x, hx⟩ : ∃ x, l[i]? = some x := ⟨_, znd hi⟩
   obtain ⟨h3, _⟩ := h2 i x hx
   rw [Nat.mul_one] at h3
   have h4 := congrArg (fun z => z[0]?) h3
   simp only [znJ, List.getElem?_drop, Nat.add_zero] at h4
   rw [znu, hx]
   simpa using h4
  . rw [znB (by omega), znB (by rw [znx]; omega)]
 rw [this] at h1
 refine ⟨h1, fun x hx => ?_⟩
 obtain ⟨i, hi⟩ := List.mem_iff_getElem?.1 hx
 exact (h2 i x hi).2
theorem zj3 (al : List Ob) : Go.Sort.SWO (Go.Proofs.ltOf fun x y : Int => yj (atO al x) (atO al y)) := by
 have hlt : ∀ x y : Int, Go.Proofs.ltOf (fun x y : Int => yj (atO al x) (atO al y)) x y = true ↔ yj (atO al x) (atO al y) < 0 := fun x y => by unfold Go.Proofs.ltOf; rw [decide_eq_true_eq]
 have hlf : ∀ x y : Int, Go.Proofs.ltOf (fun x y : Int => yj (atO al x) (atO al y)) x y = false ↔ ¬ yj (atO al x) (atO al y) < 0 := fun x y => by rw [<- hlt, Bool.not_eq_true]
 refine ⟨fun x => ?_, fun x y z => ?_, fun x y z => ?_⟩
 . rw [hlf, jB]; omega
 . rw [hlt, hlt, hlt]; exact qG
 ·
  rw [hlf, hlf, hlf]
  intro h1 h2 h3
  have a1 := yW (atO al x) (atO al y)
  have a2 := yW (atO al y) (atO al z)
  have a3 := yW (atO al x) (atO al z)
  rcases Int.lt_or_le (yj (atO al y) (atO al x)) 0 with b | b
  . have := qG b h3; omega
  ·
   have e : atO al x = atO al y := za0 (by omega)
   rw [e] at h3; exact h2 h3
theorem ziB : zdm Tryz.prog 67 := ⟨fun enc h1 cf hO g cb blk off cap d w eg hcmp hH hblk hsz => Tryz.slices_SortFuncB enc h1 cf hO g cb blk off cap d w eg hcmp hH hblk hsz, fun p cap fv w => Tryz.slices_SortFuncB_none p cap fv w⟩
theorem zdn (l : List Int) (v : Value) (D : Nat -> Prop) (W : World) (hl : SlR 1 zt D W v l) : Calls Tryz.prog 85 #[v] W (Ret fun r w' => r = .int .i64 (jP l 0) /\ Ext W w') := by
 obtain ⟨av, cv, rfl⟩ := hl.form
 have hmx := hl.max
 refine zlt Tryz.func85 O Tryz.ntmps85 O (zlE ?_)
 refine Vs 19 O ?_
 refine zm3 (σ := Nat × Int) [6, 7] [] [] O (fun e ⟨i, t⟩ => (8, .int .i64 i) :: (3, .int .i64 t) :: e) (fun e ⟨i, t⟩ => e) (fun ⟨i, t⟩ => i <= l.length /\ 0 <= t /\ t <= 1048576 /\ jP (l.drop i) t = jP l 0) (fun ⟨i, t⟩ => l.length - i) ((0, 0)) (zl4 O) (zl5 O) (fun _ => rfl) (fun _ => rfl) (fun _ => rfl) (⟨zns _, Int.le_refl 0, by omega, rfl⟩) ?_
 rintro ⟨i, t⟩ ⟨hi, h0, h1, heq⟩
 show V _ _ _ _ _ ((8, .int .i64 i) :: (3, .int .i64 t) :: _) _ (_) _
 refine Vs 6 O ?_
 refine zjn O (fun hlt => ?_) (fun hlt => ?_)
 ·
  refine Vs 6 O ?_
  obtain ⟨x, he_x, hm_x⟩ := gE_ l (i) (by omega)
  obtain ⟨b_x, o_x, c_x, ha_x, _, hc_x, hR_x⟩ := hl.at he_x
  obtain rfl := hR_x
  refine zm0 1000 0 O O hc_x ?_
  refine V.ix 1000 tR27 ts3 O ha_x (by omega) (_) (rfl) O ?_
  rw [yC he_x, jP] at heq
  refine Vs 10 O ?_
  refine zlh 14 O (fun g0 => ?_) (fun g0 => ?_)
  ·
   rw [zno (.inl g0)] at heq
   refine Vs 20 O ?_
   refine zjH Tryz.results85 O (fun w hI => ⟨_, rfl, by rw [<- heq], hI.k0⟩)
  ·
   refine Va 7 O (by omega) ?_
   refine zjn O (fun g1 => ?_) (fun g1 => ?_)
   ·
    rw [zno (.inr (by omega))] at heq
    refine Vs 12 O ?_
    refine zjH Tryz.results85 O (fun w hI => ⟨_, rfl, by rw [<- heq], hI.k0⟩)
   ·
    rw [znn (by omega)] at heq
    refine Va 14 O (by omega) ?_
    refine zjy (⟨i + 1, t + x⟩) (zl4 O) (zl5 O) (⟨by omega, by omega, by omega, heq⟩) (by first | omega | (dsimp only; omega)) 0 O O
 ·
  obtain rfl : i = l.length := by omega
  rw [List.drop_length, jP] at heq
  refine Vs 12 O ?_
  refine zjH Tryz.results85 O (fun w hI => ⟨_, rfl, by rw [<- heq], hI.k0⟩)
def xM (l : List Int) : Int := if (l.filter fun n => decide (0 < n)).length = 1 then ziz l else -1
theorem zfj {l : List Int} {x : Int} (h : ¬ 0 < x) : ((l ++ [x]).filter fun n => decide (0 < n)).length = (l.filter fun n => decide (0 < n)).length /\ xM (l ++ [x]) = xM l := by
 have h1 : ((l ++ [x]).filter fun n => decide (0 < n)) = l.filter fun n => decide (0 < n) := by rw [List.filter_append]; simp [h]
 refine ⟨by rw [h1], ?_⟩
 unfold xM
 rw [h1]
 split
 ·
  rename_i h2
  unfold ziz
  have h3 : (l.findIdx fun n => decide (0 < n)) < l.length := by
   obtain ⟨y, hy⟩ := List.exists_mem_of_length_pos (show 0 < (l.filter fun n => decide (0 < n)).length by omega)
   obtain ⟨h4, h5⟩ := List.mem_filter.1 hy
   exact List.findIdx_lt_length_of_exists ⟨y, h4, h5⟩
  rw [List.findIdx_append, zno h3]
 . rfl
theorem zgw {l : List Int} {x : Int} (h : 0 < x) (hn : (l.filter fun n => decide (0 < n)).length = 0) : ((l ++ [x]).filter fun n => decide (0 < n)).length = 1 /\ xM (l ++ [x]) = (l.length : Int) := by
 have h1 : ((l ++ [x]).filter fun n => decide (0 < n)).length = 1 := by rw [List.filter_append, znl, hn]; simp [h]
 refine ⟨h1, ?_⟩
 unfold xM
 rw [zno h1]
 unfold ziz
 have h2 : ∀ y ∈ l, ¬ 0 < y := fun y hy hp => by
  have : y ∈ l.filter fun n => decide (0 < n) := List.mem_filter.2 ⟨hy, znp hp⟩
  rw [List.length_eq_zero_iff.1 hn] at this
  cases this
 have h3 : (l.findIdx fun n => decide (0 < n)) = l.length := List.findIdx_eq_length.2 fun y hy => by simpa using h2 y hy
 rw [List.findIdx_append, znn (by omega)]
 simp [h]
theorem zgx {l m : List Int} {x : Int} (h : 0 < x) (hn : (l.filter fun n => decide (0 < n)).length = 1) : xM (l ++ x :: m) = -1 := by
 unfold xM
 rw [znn]
 rw [List.filter_append, znl, hn, List.filter_cons_of_pos (by simpa using h), znG]
 omega
theorem zc9 (l : List Int) (v : Value) (D : Nat -> Prop) (W : World) (hl : SlR 1 zt D W v l) : Calls Tryz.prog 81 #[v] W (Ret fun r w' => r = .int .i64 (xM l) /\ Ext W w') := by
 obtain ⟨av, cv, rfl⟩ := hl.form
 have hmx := hl.max
 refine zlt Tryz.func81 O Tryz.ntmps81 O (zlE ?_)
 refine Vs 19 O ?_
 refine zm3 (σ := Nat × Int) [6, 7] [] [] O (fun e ⟨i, t⟩ => (8, .int .i64 i) :: (3, .int .i64 t) :: e) (fun e ⟨i, t⟩ => e) (fun ⟨i, t⟩ => i <= l.length /\ t = xM (l.take i) /\ (((l.take i).filter fun n => decide (0 < n)).length = 0 /\ t = -1 \/ ((l.take i).filter fun n => decide (0 < n)).length = 1 /\ 0 <= t)) (fun ⟨i, t⟩ => l.length - i) ((0, -1)) (zl4 O) (zl5 O) (fun _ => rfl) (fun _ => rfl) (fun _ => rfl) (⟨zns _, rfl, .inl ⟨rfl, rfl⟩⟩) ?_
 rintro ⟨i, t⟩ ⟨hi, ht, hc⟩
 show V _ _ _ _ _ ((8, .int .i64 i) :: (3, .int .i64 t) :: _) _ (_) _
 refine Vs 6 O ?_
 refine zjn O (fun hlt => ?_) (fun hlt => ?_)
 ·
  refine Vs 7 O ?_
  obtain ⟨x, he_x, hm_x⟩ := gE_ l (i) (by omega)
  obtain ⟨b_x, o_x, c_x, ha_x, _, hc_x, hR_x⟩ := hl.at he_x
  obtain rfl := hR_x
  refine zm0 1000 0 O O hc_x ?_
  refine V.ix 1000 tR27 ts3 O ha_x (by omega) (_) (rfl) O ?_
  have htk := zh he_x
  have hl2 : (l.take i).length = i := by rw [znH]; omega
  refine Vs 11 O ?_
  refine zjn O (fun g0 => ?_) (fun g0 => ?_)
  ·
   refine Vs 7 O ?_
   refine zjn O (fun g1 => ?_) (fun g1 => ?_)
   ·
    have h1 : ((l.take i).filter fun n => decide (0 < n)).length = 1 := by omega
    have hr : xM l = -1 := by
     have := zgx (m := l.drop (i + 1)) g0 h1
     rwa [<- yC he_x, List.take_append_drop] at this
    refine Vs 12 O ?_
    refine zjH Tryz.results81 O (fun w hI => ⟨_, rfl, by rw [hr], hI.k0⟩)
   ·
    have h1 : ((l.take i).filter fun n => decide (0 < n)).length = 0 := by omega
    obtain ⟨h2, h3⟩ := zgw g0 h1
    rw [<- htk, hl2] at h3
    rw [<- htk] at h2
    refine Va 12 O (by omega) ?_
    refine zjy (⟨i + 1, (i : Int)⟩) (zl4 O) (zl5 O) (⟨by omega, h3.symm, .inr ⟨h2, by omega⟩⟩) (by first | omega | (dsimp only; omega)) 0 O O
  ·
   obtain ⟨h2, h3⟩ := zfj (l := l.take i) g0
   rw [<- htk] at h2 h3
   refine Va 7 O (by omega) ?_
   refine zjy (⟨i + 1, t⟩) (zl4 O) (zl5 O) (⟨by omega, by rw [h3]; exact ht, by rw [h2]; exact hc⟩) (by first | omega | (dsimp only; omega)) 0 O O
 ·
  obtain rfl : i = l.length := by omega
  rw [zni] at ht
  refine Vs 12 O ?_
  refine zjH Tryz.results81 O (fun w hI => ⟨_, rfl, by rw [ht], hI.k0⟩)
theorem zgy (a b : Int) (ha : 0 <= a) : Int.gcd a b = Int.gcd b (a.tmod b) := by
 rw [Int.tmod_eq_emod_of_nonneg ha]
 conv => lhs; rw [<- Int.mul_ediv_add_emod a b]
 rw [Int.gcd_comm]
 simp
theorem zay (l : List Int) (v : Value) (D : Nat -> Prop) (W : World) (hl : SlR 1 zt D W v l) (hn : ∀ x ∈ l, 0 <= x /\ x <= 9223372036854775807) : Calls Tryz.prog 71 #[v] W (Ret fun r w' => r = .int .i64 (zP l) /\ Ext W w') := by
 obtain ⟨av, cv, rfl⟩ := hl.form
 have hmx := hl.max
 refine zlt Tryz.func71 O Tryz.ntmps71 O (zlE ?_)
 refine Vs 19 O ?_
 refine zm3 (σ := Nat × Int) [6, 7] [] [] O (fun e ⟨i, g⟩ => (8, .int .i64 i) :: (3, .int .i64 g) :: e) (fun e ⟨i, g⟩ => e) (fun ⟨i, g⟩ => i <= l.length /\ 0 <= g /\ g <= 9223372036854775807 /\ (l.drop i).foldl (fun g n => (Int.gcd g n : Int)) g = zP l) (fun ⟨i, g⟩ => l.length - i) ((0, 0)) (zl4 O) (zl5 O) (fun _ => rfl) (fun _ => rfl) (fun _ => rfl) (⟨zns _, Int.le_refl 0, by omega, rfl⟩) ?_
 rintro ⟨i, g⟩ ⟨hi, h0, h1, heq⟩
 show V _ _ _ _ _ ((8, .int .i64 i) :: (3, .int .i64 g) :: _) _ (_) _
 refine Vs 6 O ?_
 refine zjn O (fun hlt => ?_) (fun hlt => ?_)
 ·
  refine Vs 6 O ?_
  obtain ⟨x, he_x, hm_x⟩ := gE_ l (i) (by omega)
  obtain ⟨b_x, o_x, c_x, ha_x, _, hc_x, hR_x⟩ := hl.at he_x
  obtain rfl := hR_x
  refine zm0 1000 0 O O hc_x ?_
  refine V.ix 1000 tR27 ts3 O ha_x (by omega) (_) (rfl) O ?_
  have hx := hn x hm_x
  rw [yC he_x, List.foldl_cons] at heq
  refine Vs 5 O ?_
  refine zm3 (σ := Int × Int) [6, 7, 8] [] [] O (fun e ⟨d, n⟩ => (3, .int .i64 d) :: (5, .int .i64 n) :: e) (fun e ⟨d, n⟩ => e) (fun ⟨d, n⟩ => 0 <= d /\ 0 <= n /\ d <= 9223372036854775807 /\ n <= 9223372036854775807 /\ Int.gcd d n = Int.gcd g x) (fun ⟨d, n⟩ => n.toNat) ((g, x)) (zl4 O) (zl5 O) (fun _ => rfl) (fun _ => rfl) (fun _ => rfl) (⟨h0, hx.1, h1, hx.2, rfl⟩) ?_
  rintro ⟨d, n⟩ ⟨k0, k1, k2, k3, k4⟩
  show V _ _ _ _ _ ((3, .int .i64 d) :: (5, .int .i64 n) :: _) _ (_) _
  refine Vs 7 O ?_
  refine zjn O (fun z => ?_) (fun z => ?_)
  ·
   have e1 := Int.tmod_lt_of_pos d (show 0 < n by omega)
   have e2 := Int.tmod_nonneg n k0
   have e3 := zgy d n k0
   refine Vs 3 O ?_
   refine Vq (by kernel_rfl) ?_
   refine Vs 3 O ?_
   refine zmb O (fun w hI => R.rem O O (by omega) (by omega)) ?_
   refine Vs 4 O ?_
   refine zjy (⟨n, d.tmod n⟩) (zl4 O) (zl5 O) (⟨k1, e2, k3, by omega, by rw [<- e3]; exact k4⟩) (by first | omega | (dsimp only; omega)) 0 O O
  ·
   obtain rfl : n = 0 := by omega
   have hd : ((Int.gcd g x : Nat) : Int) = d := by rw [<- k4, Int.gcd_zero_right]; omega
   rw [hd] at heq
   refine Va 10 O (by omega) ?_
   refine zjy (⟨i + 1, d⟩) (zl4 O) (zl5 O) (⟨by omega, k0, k2, heq⟩) (by first | omega | (dsimp only; omega)) 0 O O
 ·
  obtain rfl : i = l.length := by omega
  rw [List.drop_length] at heq
  have heq : g = zP l := heq
  refine Vs 12 O ?_
  refine zjH Tryz.results71 O (fun w hI => ⟨_, rfl, by rw [<- heq], hI.k0⟩)
end Go.Proofs.YtaenledoagbddaaGreatDoor
namespace Go.GL
structure MI where
 i : Nat
 o : Oper
 d : Nat
 dp : List Nat
 q : Bool
 Φ : (Nat -> Value) -> Value -> Hp -> Prop
abbrev MK := Nat × Nat × List Nat × Bool
def MI.key (x : MI) : MK := (x.i, x.d, x.dp, x.q)
def zfk (x : MK) (J : List MK) : Bool := x.2.2.1.all fun m => J.all fun y => !Nat.beq y.2.1 m
def zgz (i : Nat) (J : List MK) : List MK := J.filter fun y => !Nat.beq y.1 i
def zh5 (ops : Array Oper) (l : Array Bool) (x : MK) : Bool := x.2.2.2 && (Region.noSelect ops && Region.free .any ops l x.1 && (Region.ready .any ops l).contains x.1)
def zgA (i : Nat) : List MK -> Option MK
 | [] => none
 | y :: r => cond (Nat.beq y.1 i) (some y) (zgA i r)
def jS (ops : Array Oper) (L3 : Array Bool) : Nat -> List MK -> Array Bool -> Bool
 | 0, J, l => J.isEmpty && (l == L3)
 | k + 1, J, l => match J.find? (zh5 ops l) with
  | some x => zfk x J && jS ops L3 k (zgz x.1 J) (l.setIfInBounds x.1 true)
  | none => !(Region.ready .any ops l).isEmpty && (Region.ready .any ops l).all fun j => match zgA j J with
   | some x => !x.2.2.2 && zfk x J && jS ops L3 k (zgz x.1 J) (l.setIfInBounds x.1 true)
   | none => false
theorem zca {i : Nat} : ∀ {J : List MK} {x : MK}, zgA i J = some x -> x ∈ J /\ x.1 = i
 | [], _, h => by cases h
 | y :: r, x, h => by
  simp only [zgA] at h
  cases hb : Nat.beq y.1 i with
  | true => rw [hb] at h; cases h; exact ⟨znh .., znk hb⟩
  | false => rw [hb] at h; obtain ⟨h1, h2⟩ := zca h; exact ⟨zng _ h1, h2⟩
structure Dn (w w' : World) (hx : Hp) (lo hi : Nat) : Prop where
 p0 : w.heap.size <= lo
 le : lo <= hi
 p1 : hi <= w'.heap.size
 ok : ∀ z ∈ hx, z.2.holds w' /\ z.2.loc /\ (∀ b, ¬ z.2.fz b) /\ ∀ q, z.2.S q -> lo <= q /\ q < hi
 apart : hx.Pairwise (fun x y => ∀ q, x.2.S q -> ¬ y.2.S q)
theorem Dn.ext {w w' w2 : World} {hx : Hp} {lo hi : Nat} (h : Dn w w' hx lo hi) (hk : Ext w' w2) : Dn w w2 hx lo hi :=
 ⟨h.p0, h.le, znj h.p1 hk.size, fun z hz => by
  obtain ⟨h1, h2, h3, h4⟩ := h.ok z hz
  exact ⟨HE.keep h1 h2 hk (fun _ _ h => h) (fun _ _ h => h), h2, h3, h4⟩, h.apart⟩
theorem zab {w w' : World} {hx : Hp} (h : Hands [] [] hx w w') : Ext w w' := h.keep.mono fun q _ ⟨x, hx, _⟩ => by cases hx
theorem Dn.of {w a a' : World} {hx : Hp} (hk : Ext w a) (h : Hands [] [] hx a a') : Dn w a' hx a.heap.size a'.heap.size :=
 ⟨hk.size, (zab h).size, znC _, fun z hz => by
  obtain ⟨h1, h2, h3, h4⟩ := h.ok z hz
  refine ⟨h1, h2, h3, fun q hq => ⟨?_, (h4 q hq).2⟩⟩
  rcases (h4 q hq).1 with ⟨x, hx, _⟩ | h5
  . cases hx
  ·
   exact h5, h.apart⟩
theorem zcb : ∀ H : Hp, zW [] H = H
 | [] => rfl
 | x :: r => by show x :: zW [] r = x :: r; rw [zcb r]
theorem zfl {Bs : zH} {H : Hp} {w w' : World} {hn : Nat -> Hp} {lo hi : Nat -> Nat} (hI : VI Bs H w) (hk : Ext w w') (K : List Nat) (hnd : K.Nodup) (hd : ∀ m ∈ K, Dn w w' (hn m) (lo m) (hi m)) (hap : ∀ m ∈ K, ∀ m' ∈ K, m ≠ m' -> hi m <= lo m' \/ hi m' <= lo m) : VI Bs (K.flatMap hn ++ H) w' := by
 have hh : Hands H [] (K.flatMap hn) w w' := by
  refine ⟨hk.mono fun q _ h => h.elim, fun z hz => ?_, ?_⟩
  ·
   obtain ⟨m, hm, hz⟩ := List.mem_flatMap.1 hz
   obtain ⟨h1, h2, h3, h4⟩ := (hd m hm).ok z hz
   exact ⟨h1, h2, h3, fun q hq => ⟨.inr (znj (hd m hm).p0 (h4 q hq).1), Nat.lt_of_lt_of_le (h4 q hq).2 (hd m hm).p1⟩⟩
  ·
   clear hI
   induction K with
   | nil => exact List.Pairwise.nil
   | cons m r ih =>
    rw [List.nodup_cons] at hnd
    rw [List.flatMap_cons]
    refine List.pairwise_append.2 ⟨(hd m (znh ..)).apart, ih hnd.2 (fun x hx => hd x (zng _ hx)) (fun x hx y hy => hap x (zng _ hx) y (zng _ hy)), fun x hx y hy q hq hq' => ?_⟩
    obtain ⟨m', hm', hy⟩ := List.mem_flatMap.1 hy
    have g1 := ((hd m (znh ..)).ok x hx).2.2.2 q hq
    have g2 := ((hd m' (zng _ hm')).ok y hy).2.2.2 q hq'
    rcases hap m (znh ..) m' (zng _ hm') (fun e => hnd.1 (e ▸ hm')) with h | h <;> omega
 have := hI.hands hh
 rw [zcb] at this
 exact this
theorem zfm {env : Env} {val : Nat -> Value} : ∀ (D : List Nat) (m : Nat) (v : Value), get (D.map (fun d => (d, val d)) ++ env) m = some v -> (m ∈ D /\ v = val m) \/ get env m = some v
 | [], _, _, h => .inr h
 | d :: r, m, v, h => by
  rw [List.map_cons, List.cons_append] at h
  simp only [GL.get] at h
  cases hb : Nat.beq d m with
  | true =>
   rw [hb] at h
   have e := znk hb
   subst e
   exact .inl ⟨znh .., (Option.some.inj h).symm⟩
  | false =>
   rw [hb] at h
   rcases zfm r m v h with ⟨h1, h2⟩ | h1
   . exact .inl ⟨zng _ h1, h2⟩
   . exact .inr h1
section
variable {P : Program} {n : Nat} {Q : Exit -> Act -> World -> Prop} {ks : List Fr} {env : Env} {A : Tgs} {H Hs : Hp} {Bs B0 : zH} {ops : Array Oper} {L : List Nat} {fuel : Nat} {listed : Array Bool}
abbrev MI.Ds (I : List MI) (x : MI) (val : Nat -> Value) (hn : Nat -> Hp) : Prop := ∀ y ∈ I, y.d ∈ x.dp -> y.Φ val (val y.d) (hn y.d)
theorem zhQ {I : List MI} {x : MI} {J : List MI} (_ : (I.map (·.d)).Nodup) (_ : ∀ y ∈ J, y ∈ I) (h : zfk x.key (J.map MI.key) = true) {y : MI} (_ : y ∈ I) (hd : y.d ∈ x.dp) : y ∉ J := by
 intro hyJ
 unfold zfk at h
 rw [List.all_eq_true] at h
 have := h y.d hd
 rw [List.all_eq_true] at this
 have := this y.key (List.mem_map.2 ⟨y, hyJ, rfl⟩)
 simp [MI.key, Nat.beq_refl] at this
theorem zmK (j : Nat) (I : List MI) (L3 : Array Bool) (hI : ∀ x ∈ I, ops[x.i]? = some x.o /\ x.o.guard = none /\ x.o.dst = some x.d /\ Nat.blt x.d n = true /\ get env x.d = none /\ ∀ m ∈ x.dp, m ∈ I.map (·.d))
  (hnd : (I.map (·.d)).Nodup) (hni : (I.map (·.i)).Nodup) (hdp : ∀ x ∈ I, x.dp.Nodup) (hr : jS ops L3 I.length (I.map MI.key) listed = true) (hB : Bs.drop j = B0) (hu : xP (Hs.map (·.1)) = true)
  (hΦ : ∀ x ∈ I, ∀ val val' v hx, (∀ m ∈ x.dp, val m = val' m) -> x.Φ val v hx -> x.Φ val' v hx)
  (hc : ∀ x ∈ I, x.q = false -> ∀ val hn, x.Ds I val hn -> ∀ w, VI Bs (x.dp.flatMap hn ++ H) w -> Does P x.o (x.dp.map (fun m => (m, val m)) ++ env) w (fun v w' => ∃ hx, x.Φ val v hx /\ Hands [] [] hx w w'))
  (hq : ∀ x ∈ I, x.q = true -> ∀ val hn, x.Ds I val hn -> ∃ v, x.Φ val v [] /\ ∀ w, zI P x.o (x.dp.map (fun m => (m, val m)) ++ env) w v w)
  (h : ∀ val hn, (∀ x ∈ I, x.Φ val (val x.d) (hn x.d)) -> Hs.map (fun y => zi ((I.map (·.d)).flatMap hn ++ H) y.1) = Hs.map (fun y => some y.2) /\ VD P n Q ks ops Hs B0 L fuel L3 (I.map (fun x => (x.d, val x.d)) ++ env) [] ((I.map (·.d)).flatMap hn ++ H) Bs) :
  VD P n Q ks ops Hs B0 L (fuel + I.length) listed env A H Bs := by
 subst hB
 intro hH _ w hw
 have key : ∀ (k : Nat) (J : List MI) (listed : Array Bool) (env' : Env) (w' : World) (val : Nat -> Value) (hn : Nat -> Hp) (lo hi : Nat -> Nat), (∀ x ∈ J, x ∈ I) -> jS ops L3 k (J.map MI.key) listed = true -> Ext w w' -> Sub env env' ->
   (∀ x ∈ I, x ∉ J -> get env' x.d = some (val x.d) /\ x.Φ val (val x.d) (hn x.d) /\ Dn w w' (hn x.d) (lo x.d) (hi x.d) /\ ∀ m ∈ x.dp, ∀ y ∈ I, y.d = m -> y ∉ J) -> (∀ x ∈ I, x ∉ J -> ∀ y ∈ I, y ∉ J -> x.d ≠ y.d -> hi x.d <= lo y.d \/ hi y.d <= lo x.d) ->
   WD P n ops (QK P Q ks) (VI (Bs.drop j) Hs) L (fuel + k) listed env' w' := by
  intro k
  induction k with
  | zero =>
   intro J listed env' w' val hn lo hi hJ ho hE hsub hdone hap
   rw [jS, Bool.and_eq_true, List.isEmpty_iff, List.map_eq_nil_iff] at ho
   obtain ⟨rfl, ho⟩ := ho
   have e : listed = L3 := by simpa using ho
   rw [e]
   have hall : ∀ x ∈ I, x ∉ ([] : List MI) := fun x _ => by simp
   obtain ⟨g1, g2⟩ := h val hn fun x hx => (hdone x hx (hall x hx)).2.1
   have hVI : VI Bs ((I.map (·.d)).flatMap hn ++ H) w' := zfl hw hE _ hnd (fun m hm => by
    obtain ⟨x, hx, rfl⟩ := List.mem_map.1 hm
    exact (hdone x hx (hall x hx)).2.2.1) (fun m hm m' hm' hne => by
    obtain ⟨x, hx, rfl⟩ := List.mem_map.1 hm
    obtain ⟨y, hy, rfl⟩ := List.mem_map.1 hm'
    exact hap x hx (hall x hx) y hy (hall y hy) hne)
   refine (g2 (zl5 g1) TgOk.nil w' hVI).sub ?_
   intro m v hv
   have hv' : get (I.map (fun x => (x.d, val x.d)) ++ env) m = some v := hv
   rw [show (I.map fun x => (x.d, val x.d)) = (I.map (·.d)).map (fun d => (d, val d)) by rw [List.map_map]; rfl] at hv'
   rcases zfm _ m v hv' with ⟨h1, h2⟩ | h1
   ·
    obtain ⟨x, hx, rfl⟩ := List.mem_map.1 h1
    rw [h2]; exact (hdone x hx (hall x hx)).1
   . exact hsub m v h1
  | succ k ih =>
   intro J listed env' w' val hn lo hi hJ ho hE hsub hdone hap
   have one : ∀ x ∈ J, zfk x.key (J.map MI.key) = true -> jS ops L3 k (zgz x.i (J.map MI.key)) (listed.setIfInBounds x.i true) = true ->
     (Sub (x.dp.map (fun m => (m, val m)) ++ env) env' /\ x.Ds I val hn /\ VI Bs (x.dp.flatMap hn ++ H) w') /\
     ∀ v w2 hx, x.Φ val v hx -> Hands [] [] hx w' w2 -> WD P n ops (QK P Q ks) (VI (Bs.drop j) Hs) L (fuel + k) (listed.setIfInBounds x.i true) ((x.d, v) :: env') w2 := by
    intro x hx hmd hmo
    have hxI := hJ x hx
    have hdn : ∀ m ∈ x.dp, ∃ y ∈ I, y.d = m /\ y ∉ J := fun m hm => by
     obtain ⟨y, hy, e⟩ := List.mem_map.1 ((hI x hxI).2.2.2.2.2 m hm)
     exact ⟨y, hy, e, zhQ hnd hJ hmd hy (by rw [e]; exact hm)⟩
    refine ⟨⟨?_, fun y hy hd => (hdone y hy (zhQ hnd hJ hmd hy hd)).2.1, zfl (lo := lo) (hi := hi) hw hE _ (hdp x hxI) (fun m hm => ?_) (fun m hm m' hm' hne => ?_)⟩, ?_⟩
    ·
     intro m v hv
     rcases zfm _ m v hv with ⟨h1, h2⟩ | h1
     ·
      obtain ⟨y, hy, e, hyJ⟩ := hdn m h1
      rw [h2, <- e]; exact (hdone y hy hyJ).1
     . exact hsub m v h1
    ·
     obtain ⟨y, hy, e, hyJ⟩ := hdn m hm
     rw [<- e]; exact (hdone y hy hyJ).2.2.1
    ·
     obtain ⟨y, hy, e, hyJ⟩ := hdn m hm
     obtain ⟨z, hz, e', hzJ⟩ := hdn m' hm'
     rw [<- e, <- e']; exact hap y hy hyJ z hz hzJ (by rw [e, e']; exact hne)
    ·
     intro v w2 hx2 hv hh
     have k2 := zab hh
     have hne : ∀ y ∈ I, y ∉ J -> y.d ≠ x.d := fun y hy hyJ e => hyJ (by rw [qa hnd hy hxI e]; exact hx)
     have hmem : ∀ z ∈ I, z ∉ J.filter (fun y => !Nat.beq y.i x.i) -> z = x \/ z ∉ J := by
      intro z hz hz2
      by_cases hzJ : z ∈ J
      ·
       left
       cases e : Nat.beq z.i x.i with
       | true => exact qa hni hz hxI (znk e)
       | false => exact absurd (List.mem_filter.2 ⟨hzJ, by simp [e]⟩) hz2
      . exact .inr hzJ
     have hval : ∀ z ∈ I, (z = x \/ z ∉ J) -> ∀ m ∈ z.dp, val m = (if m = x.d then v else val m) := by
      intro z hz hzc m hm
      by_cases e : m = x.d
      ·
       exfalso
       rcases hzc with rfl | hzJ
       ·
        obtain ⟨y, hy, e', hyJ⟩ := hdn m hm
        exact hne y hy hyJ (e'.trans e)
       . exact (hdone z hz hzJ).2.2.2 m hm x hxI e.symm hx
      . rw [znn e]
     refine ih (J.filter (fun y => !Nat.beq y.i x.i)) (listed.setIfInBounds x.i true) ((x.d, v) :: env') w2 (fun m => if m = x.d then v else val m) (fun m => if m = x.d then hx2 else hn m) (fun m => if m = x.d then w'.heap.size else lo m) (fun m => if m = x.d then w2.heap.size else hi m) (fun z hz => hJ z (List.mem_filter.1 hz).1) ?_ (hE.ext k2) ?_ ?_ ?_
     ·
      have := hmo
      unfold zgz at this
      rw [List.filter_map] at this
      exact this
     ·
      intro m u hu2
      simp only [GL.get]
      cases hb : Nat.beq x.d m with
      | true =>
       have e := znk hb
       rw [<- e, (hI x hxI).2.2.2.2.1] at hu2
       cases hu2
      | false => exact hsub m u hu2
     ·
      intro z hz hz2
      have hzc := hmem z hz hz2
      have hdz : ∀ m ∈ z.dp, ∀ y ∈ I, y.d = m -> y ∉ J.filter (fun y => !Nat.beq y.i x.i) := by
       intro m hm y hy e hyf
       have hyJ := (List.mem_filter.1 hyf).1
       rcases hzc with rfl | hzJ
       . exact zhQ hnd hJ hmd hy (by rw [e]; exact hm) hyJ
       . exact (hdone z hz hzJ).2.2.2 m hm y hy e hyJ
      rcases hzc with rfl | hzJ
      ·
       refine ⟨by simp [GL.get, Nat.beq_refl], ?_, ?_, hdz⟩
       ·
        simp only [if_true]
        exact hΦ _ hxI _ _ _ _ (hval _ hxI (.inl O)) hv
       ·
        simp only [if_true]
        exact Dn.of hE hh
      ·
       have hzd := hne z hz hzJ
       simp only [hzd, if_false]
       obtain ⟨g1, g2, g3, g4⟩ := hdone z hz hzJ
       refine ⟨?_, hΦ z hz _ _ _ _ (hval z hz (.inr hzJ)) g2, g3.ext k2, hdz⟩
       simp only [GL.get]
       cases hb : Nat.beq x.d z.d with
       | true => exact absurd (znk hb).symm hzd
       | false => exact g1
     ·
      intro z hz hz2 y hy hy2 hzy
      rcases hmem z hz hz2 with rfl | hzJ <;> rcases hmem y hy hy2 with rfl | hyJ
      . exact absurd O hzy
      ·
       simp only [hne y hy hyJ, if_false, if_true]
       exact .inr (hdone y hy hyJ).2.2.1.p1
      ·
       simp only [hne z hz hzJ, if_false, if_true]
       exact .inl (hdone z hz hzJ).2.2.1.p1
      ·
       simp only [hne z hz hzJ, hne y hy hyJ, if_false]
       exact hap z hz hzJ y hy hyJ hzy
   have hfind : ∀ y ∈ J.map MI.key, ∃ x ∈ J, x.key = y := fun y hy => by
    obtain ⟨x, hx, e⟩ := List.mem_map.1 hy
    exact ⟨x, hx, e⟩
   rw [jS] at ho
   split at ho
   ·
    rename_i y hy
    obtain ⟨x, hx, rfl⟩ := hfind y (List.mem_of_find?_eq_some hy)
    have hqx := List.find?_some hy
    unfold zh5 at hqx
    rw [Bool.and_eq_true] at hqx
    rw [Bool.and_eq_true] at ho
    obtain ⟨⟨g1, g2, _⟩, g3⟩ := one x hx ho.1 ho.2
    obtain ⟨q1, q2, q3, q4, _⟩ := hI x (hJ x hx)
    obtain ⟨v, hv, hrun⟩ := hq x (hJ x hx) hqx.1 val hn g2
    exact zlw x.i q1 hqx.2 q3 q4 (.inl ⟨fun a _ => by simp [Region.wanted, q2], fun w3 m a ha => hrun w3 m a (ha.sub g1)⟩) (g3 v w' [] hv ⟨Keep.refl _ _, fun z hz => (by cases hz), List.Pairwise.nil⟩)
   ·
    intro a ha
    rw [Bool.and_eq_true, List.all_eq_true] at ho
    refine ⟨fun h0 => (by rw [h0] at ho; simp at ho), fun i hi => ?_⟩
    have h1 := ho.2 i hi
    split at h1
    ·
     rename_i y hy
     obtain ⟨h2, h3⟩ := zca hy
     obtain ⟨x, hx, rfl⟩ := hfind y h2
     have h3 : x.i = i := h3
     subst h3
     rw [Bool.and_eq_true, Bool.and_eq_true, Bool.not_eq_true'] at h1
     obtain ⟨⟨g1, g2, g4⟩, g3⟩ := one x hx h1.1.2 h1.2
     obtain ⟨q1, q2, q3, q4, _⟩ := hI x (hJ x hx)
     refine zeh q1 q2 q3 ha ((hc x (hJ x hx) h1.1.1 val hn g2 w' g4).sub g1) ?_
     rintro v w2 ⟨hx2, hv, hh⟩
     have k2 := zab hh
     exact ⟨fun _ _ => ((hw.ext (hE.ext k2)).drop j).pick hH hu, g3 v w2 hx2 hv hh _ (ha.put q4)⟩
    . cases h1
 exact key I.length I listed env w (fun _ => undef) (fun _ => []) (fun _ => 0) (fun _ => 0) (fun x hx => hx) hr (Keep.refl _ _) (Sub.refl _) (fun x hx h => absurd hx h) (fun x hx h => absurd hx h)
theorem zn5 (A1 : Tgs) (hA1 : A1.map (fun p => zcf env p.1) = A1.map (fun p => qP H p.2)) (hA2 : A1.all (fun p => (qP H p.2).isSome) = true) (h : VD P n Q ks ops Hs B0 L fuel listed env A1 H Bs) : VD P n Q ks ops Hs B0 L fuel listed env A H Bs := fun hH _ w hI => h hH (zl6 hA1 hA2) w hI
end
abbrev Ph := (Nat -> Value) -> Value -> Hp -> Prop
abbrev Psi := Nat -> Ph
def psi : List (Nat × Ph) -> Psi
 | [], _ => fun _ _ _ => False
 | (k, f) :: r, m => match Nat.beq k m with
  | true => f
  | false => psi r m
def zac (Ψ : Psi) (val : Nat -> Value) (hn : Nat -> Hp) : List Nat -> Prop
 | [] => True
 | m :: r => Ψ m val (val m) (hn m) /\ zac Ψ val hn r
def zfn (val : Nat -> Value) : List Nat -> Env -> Env
 | [], env => env
 | m :: r, env => (m, val m) :: zfn val r env
def hpD (hn : Nat -> Hp) : List Nat -> Hp -> Hp
 | [], H => H
 | m :: r, H => hn m ++ hpD hn r H
theorem zad (val : Nat -> Value) (env : Env) : ∀ D : List Nat, zfn val D env = D.map (fun m => (m, val m)) ++ env
 | [] => rfl
 | m :: r => by rw [zfn, zad val env r]; rfl
theorem zdo (hn : Nat -> Hp) (H : Hp) : ∀ D : List Nat, hpD hn D H = D.flatMap hn ++ H
 | [] => rfl
 | m :: r => by rw [hpD, zdo hn H r, List.flatMap_cons, List.append_assoc]
theorem dpAll_iff {Ψ : Psi} {val : Nat -> Value} {hn : Nat -> Hp} : ∀ {D : List Nat}, zac Ψ val hn D ↔ ∀ m ∈ D, Ψ m val (val m) (hn m)
 | [] => by simp [zac]
 | m :: r => by simp only [zac, List.forall_mem_cons]; rw [dpAll_iff]
def zaz : List Nat -> Bool
 | [] => true
 | x :: r => r.all (fun y => !Nat.beq x y) && zaz r
theorem jn : ∀ {l : List Nat}, zaz l = true -> l.Nodup
 | [], _ => List.Pairwise.nil
 | x :: r, h => by
  rw [zaz, Bool.and_eq_true, List.all_eq_true] at h
  refine List.nodup_cons.2 ⟨fun hx => ?_, jn h.2⟩
  have := h.1 x hx
  simp [Nat.beq_refl] at this
def ziC (I : List MK) (env : Env) : Bool := zaz (I.map (·.2.1)) && zaz (I.map (·.1)) && I.all fun x => (get env x.2.1).isNone && zaz x.2.2.1 && x.2.2.1.all fun m => (I.map (·.2.1)).any fun y => Nat.beq y m
section
variable {P : Program} {n : Nat} {Q : Exit -> Act -> World -> Prop} {ks : List Fr} {env : Env} {A : Tgs} {H Hs : Hp} {Bs B0 : zH} {ops : Array Oper} {L : List Nat} {fuel : Nat} {listed : Array Bool} {Ψ : Psi}
def MP (P : Program) (n : Nat) (ops : Array Oper) (env : Env) (H : Hp) (Bs : zH) (Ψ : Psi) (x : MK) : Prop := ∃ o, (ops[x.1]? = some o /\ o.guard = none /\ o.dst = some x.2.1 /\ Nat.blt x.2.1 n = true) /\ (∀ val val' v hx, (∀ m ∈ x.2.2.1, val m = val' m) -> Ψ x.2.1 val v hx -> Ψ x.2.1 val' v hx) /\
 (x.2.2.2 = false -> ∀ val hn, zac Ψ val hn x.2.2.1 -> ∀ w, VI Bs (hpD hn x.2.2.1 H) w -> Does P o (zfn val x.2.2.1 env) w (fun v w' => ∃ hx, Ψ x.2.1 val v hx /\ Hands [] [] hx w w')) /\
 (x.2.2.2 = true -> ∀ val hn, zac Ψ val hn x.2.2.1 -> ∃ v, Ψ x.2.1 val v [] /\ ∀ w, zI P o (zfn val x.2.2.1 env) w v w)
def MPs (P : Program) (n : Nat) (ops : Array Oper) (env : Env) (H : Hp) (Bs : zH) (Ψ : Psi) : List MK -> Prop
 | [] => True
 | x :: r => MP P n ops env H Bs Ψ x /\ MPs P n ops env H Bs Ψ r
theorem MPs.all : ∀ {I : List MK}, MPs P n ops env H Bs Ψ I -> ∀ x ∈ I, MP P n ops env H Bs Ψ x
 | y :: r, h, x, hx => by
  rcases znt.1 hx with rfl | hx
  . exact h.1
  . exact MPs.all h.2 x hx
theorem zn6 {i d : Nat} {dp : List Nat} {op : Op} {ty : TypeId} {ps : String} {aft : Array Edge} (hi : ops[i]? = some ⟨some d, op, ty, ps, aft, none⟩) (hb : Nat.blt d n = true) (hΦ : ∀ val val' v hx, (∀ m ∈ dp, val m = val' m) -> Ψ d val v hx -> Ψ d val' v hx)
  (hc : ∀ val hn, zac Ψ val hn dp -> ∀ w, VI Bs (hpD hn dp H) w -> Does P ⟨some d, op, ty, ps, aft, none⟩ (zfn val dp env) w (fun v w' => ∃ hx, Ψ d val v hx /\ Hands [] [] hx w w')) : MP P n ops env H Bs Ψ (i, d, dp, false) :=
 ⟨_, ⟨hi, rfl, rfl, hb⟩, hΦ, fun _ => hc, fun h => by cases h⟩
theorem zkl {i d : Nat} {dp : List Nat} {op : Op} {ty : TypeId} {ps : String} {aft : Array Edge} (hi : ops[i]? = some ⟨some d, op, ty, ps, aft, none⟩) (hb : Nat.blt d n = true) (hΦ : ∀ val val' v hx, (∀ m ∈ dp, val m = val' m) -> Ψ d val v hx -> Ψ d val' v hx)
  (hc : ∀ val hn, zac Ψ val hn dp -> ∃ v, Ψ d val v [] /\ ∀ w, zI P ⟨some d, op, ty, ps, aft, none⟩ (zfn val dp env) w v w) : MP P n ops env H Bs Ψ (i, d, dp, true) :=
 ⟨_, ⟨hi, rfl, rfl, hb⟩, hΦ, fun h => Bool.noConfusion h, fun _ => hc⟩
theorem Does.new {o : Oper} {w : World} {f : Nat -> Value} {cs : List Value} {e : TypeId} (K : Nat) (h : zJ P o env w (fun u w' => ∃ b, u = f b /\ New w cs e b w')) : Does P o env w (fun v w' => ∃ hx, (∃ b, v = f b /\ hx = [(K, HE.own b cs e)]) /\ Hands [] [] hx w w') := by
 obtain ⟨v, w', hr, b, rfl, h1, h2, h3, h4⟩ := h
 refine .inl ⟨_, w', hr, _, ⟨b, rfl, rfl⟩, h4.mono fun q _ h => h.elim, fun z hz => ?_, List.pairwise_singleton _ _⟩
 rw [znv] at hz
 subst hz
 exact ⟨h3, trivial, fun _ h => h, fun q hq => by have hq : q = b := hq; exact ⟨.inr (by omega), by omega⟩⟩
theorem zhR {H : Hp} {f : FuncId} {args : Array Value} {w : World} {α : Type} {Φ : Value -> α -> Prop} {Hn : α -> Hp} (hc : Calls P f args w (Ret fun r w' => ∃ y, Φ r y /\ Hands H [] (Hn y) w w')) : Calls P f args w (Ret fun r w' => ∃ hx, (∃ y, Φ r y /\ hx = Hn y) /\ Hands [] [] hx w w') := by
 refine hc.mono ?_
 rintro _ w' ⟨r, rfl, y, h1, h2⟩
 refine ⟨r, rfl, _, ⟨y, h1, rfl⟩, h2.keep.mono fun q _ ⟨x, _, h, _⟩ => by simp [zaI] at h, fun z hz => ?_, h2.apart⟩
 obtain ⟨g1, g2, g3, g4⟩ := h2.ok z hz
 refine ⟨g1, g2, g3, fun q hq => ⟨.inr ?_, (g4 q hq).2⟩⟩
 rcases (g4 q hq).1 with ⟨x, _, h, _⟩ | h
 . simp [zaI] at h
 . exact h
theorem zn7 (fuel j : Nat) (I : List MK) (Ψ : Psi) (hr : jS ops (zbn (I.map (·.1)) listed) I.length I listed = true) (hs : ziC I env = true) (hB : Bs.drop j = B0) (hu : xP (Hs.map (·.1)) = true) (hM : MPs P n ops env H Bs Ψ I)
  (h : ∀ val hn, zac Ψ val hn (I.map (·.2.1)) -> Hs.map (fun y => zi (hpD hn (I.map (·.2.1)) H) y.1) = Hs.map (fun y => some y.2) /\ VD P n Q ks ops Hs B0 L fuel (zbn (I.map (·.1)) listed) (zfn val (I.map (·.2.1)) env) [] (hpD hn (I.map (·.2.1)) H) Bs) :
  VD P n Q ks ops Hs B0 L (fuel + I.length) listed env A H Bs := by
 unfold ziC at hs
 simp only [Bool.and_eq_true, List.all_eq_true, List.any_eq_true, Option.isNone_iff_eq_none] at hs
 obtain ⟨⟨s1, s2⟩, s3⟩ := hs
 let mk : MK -> MI := fun x => ⟨x.1, (ops[x.1]?).getD ⟨none, .nilCheck (.tmp 0), 0, "", #[], none⟩, x.2.1, x.2.2.1, x.2.2.2, Ψ x.2.1⟩
 have e1 : (I.map mk).map (·.d) = I.map (·.2.1) := by rw [List.map_map]; rfl
 have e2 : (I.map mk).map (·.i) = I.map (·.1) := by rw [List.map_map]; rfl
 have e3 : (I.map mk).map MI.key = I := by rw [List.map_map]; exact List.map_id'' (fun x => rfl) I
 have e4 : (I.map mk).length = I.length := znx ..
 have hds : ∀ x ∈ I, ∀ val hn, MI.Ds (I.map mk) (mk x) val hn -> zac Ψ val hn x.2.2.1 := fun x hx val hn hD => dpAll_iff.2 fun m hm => by
  obtain ⟨y, hy, he⟩ := (s3 x hx).2 m hm
  obtain ⟨z, hz, rfl⟩ := List.mem_map.1 hy
  have he := znk he
  have := hD (mk z) (List.mem_map.2 ⟨z, hz, rfl⟩) (by show z.2.1 ∈ x.2.2.1; rw [he]; exact hm)
  rw [<- he]
  exact this
 rw [<- e4]
 refine zmK j (I.map mk) (zbn (I.map (·.1)) listed) ?_ (by rw [e1]; exact jn s1) (by rw [e2]; exact jn s2) ?_ (by rw [e3, e4]; exact hr) hB hu ?_ ?_ ?_ ?_
 ·
  intro y hy
  obtain ⟨x, hx, rfl⟩ := List.mem_map.1 hy
  obtain ⟨o, ⟨h1, h2, h3, h4⟩, _⟩ := hM.all x hx
  have ho : (mk x).o = o := by show (ops[x.1]?).getD _ = o; rw [h1]; rfl
  refine ⟨by rw [ho]; exact h1, by rw [ho]; exact h2, by rw [ho]; exact h3, h4, (s3 x hx).1.1, fun m hm => ?_⟩
  rw [e1]
  obtain ⟨z, hz, he⟩ := (s3 x hx).2 m hm
  rw [<- znk he]; exact hz
 ·
  intro y hy
  obtain ⟨x, hx, rfl⟩ := List.mem_map.1 hy
  exact jn (s3 x hx).1.2
 ·
  intro y hy
  obtain ⟨x, hx, rfl⟩ := List.mem_map.1 hy
  obtain ⟨o, _, h2, _⟩ := hM.all x hx
  exact h2
 ·
  intro y hy hq val hn hD w hw
  obtain ⟨x, hx, rfl⟩ := List.mem_map.1 hy
  obtain ⟨o, ⟨h1, _⟩, _, h3, _⟩ := hM.all x hx
  have ho : (mk x).o = o := by show (ops[x.1]?).getD _ = o; rw [h1]; rfl
  have := h3 hq val hn (hds x hx val hn hD) w (by rw [zdo]; exact hw)
  rw [zad] at this
  rw [ho]; exact this
 ·
  intro y hy hq val hn hD
  obtain ⟨x, hx, rfl⟩ := List.mem_map.1 hy
  obtain ⟨o, ⟨h1, _⟩, _, _, h4⟩ := hM.all x hx
  have ho : (mk x).o = o := by show (ops[x.1]?).getD _ = o; rw [h1]; rfl
  have := h4 hq val hn (hds x hx val hn hD)
  rw [zad] at this
  rw [ho]; exact this
 ·
  intro val hn hall
  have := h val hn (dpAll_iff.2 fun m hm => by
   obtain ⟨x, hx, rfl⟩ := List.mem_map.1 hm
   exact hall (mk x) (List.mem_map.2 ⟨x, hx, rfl⟩))
  rw [zdo, zad] at this
  rw [e1]
  refine ⟨this.1, ?_⟩
  rw [show (I.map mk).map (fun x => (x.d, val x.d)) = (I.map (·.2.1)).map (fun m => (m, val m)) by rw [List.map_map, List.map_map]; rfl]
  exact this.2
def phA (K : Nat) (cs : List Value) (t : TypeId) : Ph := fun _ v hx => ∃ b, v = .pointer (some ⟨b, 0, none⟩) /\ hx = [(K, .own b cs t)]
def phM (s : Nat) : Ph := fun val v hx => v = val s /\ hx = []
def phX (s j : Nat) : Ph := fun val v hx => (∃ a, val s = .tuple a /\ a[j]? = some v) /\ hx = []
theorem MP.alloc (K : Nat) {i d : Nat} {e : TypeId} {ty : TypeId} {ps : String} {aft : Array Edge} {z : Value} {cs : List Value} (hi : ops[i]? = some ⟨some d, .alloc e, ty, ps, aft, none⟩) (hb : Nat.blt d n = true) (hz : ∀ w, (zeroValue e).run P w = .ok z w) (hc : z.cells = cs.toArray) (hΨ : Ψ d = phA K cs e) : MP P n ops env H Bs Ψ (i, d, [], false) :=
 zn6 hi hb (fun val val' v hx _ h => by rw [hΨ] at h ⊢; exact h) fun val hn _ w _ => by rw [hΨ]; exact Does.new K (M.alloc hz hc)
theorem MP.move (s : Nat) {i d : Nat} {ty : TypeId} {ps : String} {aft : Array Edge} (hi : ops[i]? = some ⟨some d, .move (.tmp s), ty, ps, aft, none⟩) (hb : Nat.blt d n = true) (hΨ : Ψ d = phM s) : MP P n ops env H Bs Ψ (i, d, [s], true) :=
 zkl hi hb (fun val val' v hx hd h => by rw [hΨ] at h ⊢; exact ⟨h.1.trans (hd s (List.mem_singleton_self s)), h.2⟩) fun val hn _ => ⟨val s, by rw [hΨ]; exact ⟨rfl, rfl⟩, fun w => R.move (by show get ((s, val s) :: env) s = _; simp only [GL.get, Nat.beq_refl]; rfl)⟩
theorem MP.ext (s j : Nat) {i d : Nat} {dp : List Nat} {ty : TypeId} {ps : String} {aft : Array Edge} (hi : ops[i]? = some ⟨some d, .extract (.tmp s) j, ty, ps, aft, none⟩) (hb : Nat.blt d n = true) (hΨ : Ψ d = phX s j) (hs : s ∈ dp) (hg : ∀ val, get (zfn val dp env) s = some (val s)) (h : ∀ val hn, zac Ψ val hn dp -> ∃ a c, val s = .tuple a /\ a[j]? = some c) : MP P n ops env H Bs Ψ (i, d, dp, true) :=
 zkl hi hb (fun val val' v hx hd h => by rw [hΨ] at h ⊢; obtain ⟨⟨a, h1, h2⟩, h3⟩ := h; exact ⟨⟨a, by rw [<- hd s hs]; exact h1, h2⟩, h3⟩) fun val hn hD => by
  obtain ⟨a, c, h1, h2⟩ := h val hn hD
  exact ⟨c, by rw [hΨ]; exact ⟨⟨a, h1, h2⟩, rfl⟩, fun w => R.extract (show get (zfn val dp env) s = _ by rw [hg, h1]) h2⟩
theorem zhS {m : Nat} {v v' : Value} {l l' : List (Nat × Value)} (h : v = v') (h2 : l = l') : (m, v) :: l = (m, v') :: l' := by rw [h, h2]
theorem zj4 {a b c d : Hp} (h : a = b) (h2 : c = d) : a ++ c = b ++ d := by rw [h, h2]
theorem VD.cast {val : Nat -> Value} {hn : Nat -> Hp} {D : List Nat} (A1 : Tgs) (vals : List (Nat × Value)) (Hn : Hp) (he : D.map (fun m => (m, val m)) = vals) (hh : D.flatMap hn = Hn) (h1 : Hs.map (fun y => zi (Hn ++ H) y.1) = Hs.map (fun y => some y.2)) (hA1 : A1.map (fun p => zcf (vals ++ env) p.1) = A1.map (fun p => qP (Hn ++ H) p.2)) (hA2 : A1.all (fun p => (qP (Hn ++ H) p.2).isSome) = true)
  (h : VD P n Q ks ops Hs B0 L fuel listed (vals ++ env) A1 (Hn ++ H) Bs) :
  Hs.map (fun y => zi (hpD hn D H) y.1) = Hs.map (fun y => some y.2) /\ VD P n Q ks ops Hs B0 L fuel listed (zfn val D env) [] (hpD hn D H) Bs := by
 rw [zad, zdo]
 subst he hh
 exact ⟨h1, zn5 A1 hA1 hA2 h⟩
end
end Go.GL
namespace Go.Proofs.YtaenledoagbddaaGreatDoor
open Go.GL
theorem zgB (p : (List Int) -> Bool) (l : List (List Int)) (v : Value) (D : Nat -> Prop) (g : FuncId) (cp cp2 : Value) (W : World) (hf : ∀ args w, (callFunc g args).run Tryz.prog w = .ok (.enter g args) w) (hl : SlR 1 (RSl 1 zt) D W v l)
  (hc : ∀ (x : (List Int)) (u : Value) (w : World), Ext W w -> x ∈ l -> SlR 1 zt D w u x -> Calls Tryz.prog g #[u, cp, cp2] w (Ret fun r w' => r = .bool (p x) /\ Ext w w')) :
  Calls Tryz.prog 78 #[v, .func (.func g) #[] #[cp, cp2]] W (Ret fun r w' => r = .int .i64 (zh1 p l) /\ Ext W w') := by
 obtain ⟨av, cv, rfl⟩ := hl.form
 have hmx := hl.max
 refine zlu Tryz.func78 O Tryz.ntmps78 O (zlE ?_)
 refine Vs 14 O ?_
 refine zm3 (σ := Nat) [0, 1, 7] [] [] O (fun e i => (8, .int .i64 i) :: e) (fun e i => e) (fun i => i <= l.length /\ (l.take i).any p = false) (fun i => l.length - i) (0) (zl4 O) (zl5 O) (fun _ => rfl) (fun _ => rfl) (fun _ => rfl) (⟨zns _, by simp⟩) ?_
 rintro i ⟨hi, hno⟩
 refine Vs 6 O ?_
 refine zjn O (fun hlt => ?_) (fun hlt => ?_)
 ·
  refine Vs 15 O ?_
  obtain ⟨x, he_x, hm_x⟩ := gE_ l (i) (by omega)
  obtain ⟨b_x, o_x, c_x, ha_x, _, hc_x, hR_x⟩ := hl.at he_x
  obtain ⟨v1_x, rfl, hs_x⟩ := hR_x
  obtain ⟨a1_x, n1_x, rfl⟩ := hs_x.form
  refine zm0 1000 0 O O hc_x ?_
  refine V.ix 1000 tR34 ts27 O ha_x (by omega) (_) (rfl) O ?_
  refine Vs 1 O ?_
  refine zmg hf O (fun w hI => hc x _ w hI.k0 hm_x (Tr1 hI.k0 hs_x)) ?_
  refine Vs 2 O ?_
  refine V.bool O (fun hp => ?_) (fun hp => ?_)
  ·
   refine Vs 12 O ?_
   refine zjH tr78 O (fun w hI => ⟨_, rfl, by rw [zf2 hno he_x hp], hI.k0⟩)
  ·
   refine Va 7 O (by omega) ?_
   refine zjy (i + 1) (zl4 O) (zl5 O) (⟨by omega, zde he_x hno hp⟩) (by first | omega | (dsimp only; omega)) 0 O O
 ·
  obtain rfl : i = l.length := by omega
  rw [zni] at hno
  refine Vs 11 O ?_
  refine zjH tr78 O (fun w hI => ⟨_, rfl, by rw [zc3 hno], hI.k0⟩)
theorem zgC (p : (List Int) -> Bool) (l : List (List Int)) (v : Value) (D : Nat -> Prop) (g : FuncId) (cp cp2 : Value) (W : World) (hf : ∀ args w, (callFunc g args).run Tryz.prog w = .ok (.enter g args) w) (hl : SlR 1 (RSl 1 zt) D W v l)
  (hc : ∀ (x : (List Int)) (u : Value) (w : World), Ext W w -> x ∈ l -> SlR 1 zt D w u x -> Calls Tryz.prog g #[u, cp, cp2] w (Ret fun r w' => r = .bool (p x) /\ Ext w w')) :
  Calls Tryz.prog 83 #[v, .func (.func g) #[] #[cp, cp2]] W (Ret fun r w' => r = .bool (l.any p) /\ Ext W w') := by
 refine zlu Tryz.func83 O Tryz.ntmps83 O (zlE ?_)
 refine Vs 9 O ?_
 refine zlT Tryz.call78 O (fun w hI => zgB p l v D g cp cp2 w hf (Tr1 hI.k0 hl) (fun x u w' hE hx hd => hc x u w' ((hI.k0).trans hE (fun _ _ h => h)) hx hd)) ?_
 refine Vs 5 O ?_
 refine zjH Tryz.results83 O (fun w hI => ⟨_, rfl, by congr 1; rw [Bool.eq_iff_iff, decide_eq_true_iff]; exact zdd, hI.k0⟩)
theorem zgD (p : (List Int) -> Bool) (l : List (List Int)) (v : Value) (D : Nat -> Prop) (g : FuncId) (W : World) (hf : ∀ args w, (callFunc g args).run Tryz.prog w = .ok (.enter g args) w) (hl : SlR 1 (RSl 1 zt) D W v l)
  (hc : ∀ (x : (List Int)) (u : Value) (w : World), Ext W w -> x ∈ l -> SlR 1 zt D w u x -> Calls Tryz.prog g #[u] w (Ret fun r w' => r = .bool (p x) /\ Ext w w')) :
  Calls Tryz.prog 78 #[v, .func (.func g) #[] #[]] W (Ret fun r w' => r = .int .i64 (zh1 p l) /\ Ext W w') := by
 obtain ⟨av, cv, rfl⟩ := hl.form
 have hmx := hl.max
 refine zlu Tryz.func78 O Tryz.ntmps78 O (zlE ?_)
 refine Vs 14 O ?_
 refine zm3 (σ := Nat) [0, 1, 7] [] [] O (fun e i => (8, .int .i64 i) :: e) (fun e i => e) (fun i => i <= l.length /\ (l.take i).any p = false) (fun i => l.length - i) (0) (zl4 O) (zl5 O) (fun _ => rfl) (fun _ => rfl) (fun _ => rfl) (⟨zns _, by simp⟩) ?_
 rintro i ⟨hi, hno⟩
 refine Vs 6 O ?_
 refine zjn O (fun hlt => ?_) (fun hlt => ?_)
 ·
  refine Vs 15 O ?_
  obtain ⟨x, he_x, hm_x⟩ := gE_ l (i) (by omega)
  obtain ⟨b_x, o_x, c_x, ha_x, _, hc_x, hR_x⟩ := hl.at he_x
  obtain ⟨v1_x, rfl, hs_x⟩ := hR_x
  obtain ⟨a1_x, n1_x, rfl⟩ := hs_x.form
  refine zm0 1000 0 O O hc_x ?_
  refine V.ix 1000 tR34 ts27 O ha_x (by omega) (_) (rfl) O ?_
  refine Vs 1 O ?_
  refine zmg hf O (fun w hI => hc x _ w hI.k0 hm_x (Tr1 hI.k0 hs_x)) ?_
  refine Vs 2 O ?_
  refine V.bool O (fun hp => ?_) (fun hp => ?_)
  ·
   refine Vs 12 O ?_
   refine zjH tr78 O (fun w hI => ⟨_, rfl, by rw [zf2 hno he_x hp], hI.k0⟩)
  ·
   refine Va 7 O (by omega) ?_
   refine zjy (i + 1) (zl4 O) (zl5 O) (⟨by omega, zde he_x hno hp⟩) (by first | omega | (dsimp only; omega)) 0 O O
 ·
  obtain rfl : i = l.length := by omega
  rw [zni] at hno
  refine Vs 11 O ?_
  refine zjH tr78 O (fun w hI => ⟨_, rfl, by rw [zc3 hno], hI.k0⟩)
theorem zgE (p : (List Int) -> Bool) (l : List (List Int)) (v : Value) (D : Nat -> Prop) (g : FuncId) (W : World) (hf : ∀ args w, (callFunc g args).run Tryz.prog w = .ok (.enter g args) w) (hl : SlR 1 (RSl 1 zt) D W v l)
  (hc : ∀ (x : (List Int)) (u : Value) (w : World), Ext W w -> x ∈ l -> SlR 1 zt D w u x -> Calls Tryz.prog g #[u] w (Ret fun r w' => r = .bool (p x) /\ Ext w w')) :
  Calls Tryz.prog 83 #[v, .func (.func g) #[] #[]] W (Ret fun r w' => r = .bool (l.any p) /\ Ext W w') := by
 refine zlu Tryz.func83 O Tryz.ntmps83 O (zlE ?_)
 refine Vs 9 O ?_
 refine zlT Tryz.call78 O (fun w hI => zgD p l v D g w hf (Tr1 hI.k0 hl) (fun x u w' hE hx hd => hc x u w' ((hI.k0).trans hE (fun _ _ h => h)) hx hd)) ?_
 refine Vs 5 O ?_
 refine zjH Tryz.results83 O (fun w hI => ⟨_, rfl, by congr 1; rw [Bool.eq_iff_iff, decide_eq_true_iff]; exact zdd, hI.k0⟩)
theorem zgF {H : Hp} {f : FuncId} {args : Array Value} {v : Value} {w : World} (hc : Calls Tryz.prog f args w (Ret fun r w' => r = v /\ Ext w w')) : Calls Tryz.prog f args w (Ret fun r w' => ∃ _ : Unit, r = v /\ Hands H [] [] w w') := by
 refine hc.mono ?_
 rintro _ w' ⟨_, rfl, rfl, hk⟩
 exact ⟨_, rfl, (), rfl, hk.mono fun q _ h => h.elim, fun x hx => by (cases hx), List.Pairwise.nil⟩
theorem zcP (row : List Int) (u : Value) (wid tot : Int) (b1 b2 : Nat) (D : Nat -> Prop) (W : World) (hr : SlR 1 zt D W u row) (h1 : Cells W b1 0 [.int .i64 wid]) (h2 : Cells W b2 0 [.int .i64 tot]) :
  Calls Tryz.prog 89 #[u, .pointer (some ⟨b1, 0, none⟩), .pointer (some ⟨b2, 0, none⟩)] W (Ret fun r w' => r = .bool (decide (¬ ((row.length : Int) = wid /\ jP row 0 = tot))) /\ Ext W w') := by
 obtain ⟨av, cv, rfl⟩ := hr.form
 refine zlv Tryz.func89 O Tryz.ntmps89 O (zlE ?_)
 refine zm1 900 0 O O (fun h => h) h1 ?_
 refine zm1 901 0 O O (fun h => h) h2 ?_
 refine zlK 1 900 0 O O ?_
 refine zlK 2 901 0 O O ?_
 refine Vs 6 O ?_
 refine Vw [900, 901] [] O ?_
 refine Vd [0, 1, 2, 3, 4] 0 (by kernel_rfl) O O O ?_
 refine VD.sp 9 O (fun g0 => ?_) (fun g0 => ?_)
 ·
  refine Vd [5, 7] 0 (by kernel_rfl) O O O ?_
  refine VD.skip 6 0 O (by kernel_rfl) O O ?_
  refine Vd [8, 9, 10] 0 (by kernel_rfl) O O O ?_
  refine zkr (by kernel_rfl) ?_
  refine Vs 2 O ?_
  refine zjH Tryz.results89 O (fun w hI => ⟨_, rfl, by rw [znp (show ¬ ((row.length : Int) = wid /\ jP row 0 = tot) from fun h => g0 h.1)], hI.k0⟩)
 ·
  refine Vd [5, 7] 0 (by kernel_rfl) O O O ?_
  refine zlU 6 0 Tryz.call85 O (by kernel_rfl) O O (fun w hI => zdn row _ D w (Tr1 hI.k0 hr)) ?_
  refine Vd [8, 9, 10] 0 (by kernel_rfl) O O O ?_
  refine zkr (by kernel_rfl) ?_
  refine Vs 2 O ?_
  have g0 := znm.1 g0
  refine zjH Tryz.results89 O (fun w hI => ⟨_, rfl, congrArg Value.bool (znF.2 ⟨fun h g => h g.2, fun h g => h ⟨g0, g⟩⟩), hI.k0⟩)
theorem zfo {c : Mx} {r0 : List Int} (hhd : c.headD [] = r0) (h1 : 1 <= c.length /\ c.length <= 256) (h2 : 1 <= r0.length /\ r0.length <= 256 /\ 1 <= jP r0 0) : (!(c.any fun row => decide (¬ ((row.length : Int) = (r0.length : Int) /\ jP row 0 = jP r0 0)))) = decide (VMx c) := by
 rw [Bool.eq_iff_iff, decide_eq_true_iff, vmx_prog, hhd, Bool.not_eq_true', List.any_eq_false]
 constructor
 ·
  intro h
  refine ⟨h1, h2, fun row hr => ?_⟩
  have := h row hr
  simp only [decide_eq_true_eq, znm] at this
  exact ⟨by omega, this.2⟩
 ·
  rintro ⟨_, _, h⟩ row hr
  have := h row hr
  simp only [decide_eq_true_eq, znm]
  exact ⟨by omega, this.2⟩
theorem jE (c : Mx) (v : Value) (D : Nat -> Prop) (W : World) (hc : SlR 1 (RSl 1 zt) D W v c) : Calls Tryz.prog 39 #[.agg #[v]] W (Ret fun r w' => r = .bool (decide (VMx c)) /\ Ext W w') := by
 obtain ⟨av, cv, rfl⟩ := hc.form
 have hmx := hc.max
 refine zlt Tryz.func39 O Tryz.ntmps39 O (zlE ?_)
 refine Vs 2 O ?_
 refine V.box 1 O O (fun b1 => ?_)
 refine Vs 11 O ?_
 refine zlh 9 O (fun g0 => ?_) (fun g0 => ?_)
 ·
  refine Vs 15 O ?_
  refine zjH tr39 O (fun w hI => ⟨_, rfl, by rw [znq (fun h => by have := h.r1; omega)], hI.k0⟩)
 ·
  refine Vs 7 O ?_
  refine zjn O (fun g1 => ?_) (fun g1 => ?_)
  ·
   refine Vs 7 O ?_
   refine zjH tr39 O (fun w hI => ⟨_, rfl, by rw [znq (fun h => by have := h.r2; omega)], hI.k0⟩)
  ·
   obtain ⟨r0, he_r0, hm_r0⟩ := gE_ c (0) (by omega)
   obtain ⟨b_r0, o_r0, c_r0, ha_r0, _, hc_r0, hR_r0⟩ := hc.at he_r0
   obtain ⟨v1_r0, rfl, hs_r0⟩ := hR_r0
   obtain ⟨a1_r0, n1_r0, rfl⟩ := hs_r0.form
   refine zm0 1000 0 O O hc_r0 ?_
   have hhd : c.headD [] = r0 := by
    cases c with
    | nil => simp at he_r0
    | cons a c => simpa using he_r0
   refine Vs 3 O ?_
   refine Vw [1, 1000] [] O ?_
   refine Vd [0, 1, 5, 6] 0 (by kernel_rfl) O O O ?_
   refine VD.ix 2 1000 tR34 ts27 O (by kernel_rfl) O ha_r0 (by omega) (0) (by omega) O ?_
   refine Vd [3, 4] 0 (by kernel_rfl) O O O ?_
   refine VD.ix 7 1000 tR34 ts27 O (by kernel_rfl) O ha_r0 (by omega) (0) (by omega) O ?_
   refine Vd [8] 0 (by kernel_rfl) O O O ?_
   refine zn7 2 0 [(9, 24, [], false), (10, 3, [], false), (11, 4, [], false)] (psi [(24, fun _ v hx => ∃ y : Unit, v = .int .i64 (jP r0 0) /\ hx = []), (3, phA 3 [Value.int IntKind.i64 0] 3), (4, phA 4 [Value.int IntKind.i64 0] 3)]) (by kernel_rfl) (by kernel_rfl) O O ⟨?_, ?_, ?_, True.intro⟩ ?_
   . exact zn6 O O (fun _ _ _ _ _ h => h) (fun val hn _ w hI => Does.call (F.call Tryz.call85 (yk O)) (zhR (H := []) (zgF (zdn r0 _ _ w (Tr1 hI.k0 hs_r0)))))
   . exact MP.alloc 3 O O tz3 O O
   . exact MP.alloc 4 O O tz3 O O
   rintro val hn ⟨⟨u, e24, n24⟩, ⟨b3, e3, n3⟩, ⟨b4, e4, n4⟩, _⟩
   refine VD.cast [(1, some (1, 0)), (5, some (1, 0)), (10, some (1, 0)), (15, some (1, 0)), (17, some (1000, 0)), (20, some (1, 0)), (22, some (1000, 0)), (3, some (3, 0)), (4, some (4, 0))] _ _ (zhS e24 (zhS e3 (zhS e4 (rfl)))) (zj4 n24 (zj4 n3 (zj4 n4 (rfl)))) O O O ?_
   clear n24 n3 n4
   refine Ve 12 0 O (by kernel_rfl) O O O ?_
   refine Ve 13 0 O (by kernel_rfl) O O O ?_
   refine zkr (by kernel_rfl) ?_
   refine Vs 7 O ?_
   refine zlh 27 O (fun w1 => ?_) (fun w1 => ?_)
   ·
    refine Vs 17 O ?_
    refine zjH tr39 O (fun w hI => ⟨_, rfl, by rw [znq (fun h => by have := h.w1; rw [hhd] at this; omega)], hI.k0⟩)
   ·
    refine Vs 4 O ?_
    refine zlh 31 O (fun w2 => ?_) (fun w2 => ?_)
    ·
     refine Vs 13 O ?_
     refine zjH tr39 O (fun w hI => ⟨_, rfl, by rw [znq (fun h => by have := h.w2; rw [hhd] at this; omega)], hI.k0⟩)
    ·
     refine Vs 5 O ?_
     refine zjn O (fun w3 => ?_) (fun w3 => ?_)
     ·
      refine Vs 7 O ?_
      refine zjH tr39 O (fun w hI => ⟨_, rfl, by rw [znq (fun h => by have := (vmx_prog.1 h).2.1.2.2; rw [hhd] at this; omega)], hI.k0⟩)
     ·
      refine Vs 7 O ?_
      refine zlT Tryz.call83 O (fun w hI => zgC (fun row => decide (¬ ((row.length : Int) = (r0.length : Int) /\ jP row 0 = jP r0 0))) c _ _ _ _ _ w Tryz.call89 (Tr1 hI.k0 hc) (fun x u w' hE _ hd => zcP x u _ _ b3 b4 _ w' hd (hE.cells (Blk.cells (hI.at 3 O)) (fun h => h)) (hE.cells (Blk.cells (hI.at 4 O)) (fun h => h)))) ?_
      refine zll O (fun w hI => zkO O (by first | exact zb | rfl)) ?_
      refine Vs 4 O ?_
      refine zjH tr39 O (fun w hI => ⟨_, rfl, by rw [zfo hhd ⟨by omega, by omega⟩ ⟨by omega, by omega, by omega⟩], hI.k0⟩)
theorem zfp (row : List Int) (u : Value) (D : Nat -> Prop) (W : World) (hr : SlR 1 zt D W u row) : Calls Tryz.prog 84 #[u] W (Ret fun r w' => r = .bool (decide (xM row < 0)) /\ Ext W w') := by
 refine zlt Tryz.func84 O Tryz.ntmps84 O (zlE ?_)
 refine Vs 8 O ?_
 refine zlT Tryz.call81 O (fun w hI => zc9 row _ D w (Tr1 hI.k0 hr)) ?_
 refine Vs 5 O ?_
 refine zjH Tryz.results84 O (fun w hI => ⟨_, rfl, rfl, hI.k0⟩)
theorem zdp {row : List Int} : xM row < 0 ↔ (row.filter fun n => decide (0 < n)).length ≠ 1 := by
 unfold xM ziz
 split
 . rename_i h; exact ⟨fun g => by omega, fun g => absurd h g⟩
 . rename_i h; exact ⟨fun _ => h, fun _ => by omega⟩
theorem zhT {c : Mx} (hv : VMx c) : (!(c.any fun row => decide (xM row < 0))) = decide (VMx c /\ zfG c) := by
 rw [Bool.eq_iff_iff, decide_eq_true_iff, Bool.not_eq_true', List.any_eq_false]
 constructor
 ·
  intro h
  refine ⟨hv, fun row hr => ?_⟩
  have := h row hr
  rw [decide_eq_true_iff, zdp] at this
  exact znm.1 this
 ·
  rintro ⟨_, h⟩ row hr
  rw [decide_eq_true_iff, zdp]
  exact znA (h row hr)
theorem zgG (c : Mx) (v : Value) (D : Nat -> Prop) (W : World) (hc : SlR 1 (RSl 1 zt) D W v c) : Calls Tryz.prog 30 #[.agg #[v]] W (Ret fun r w' => r = .bool (decide (VMx c /\ zfG c)) /\ Ext W w') := by
 obtain ⟨av, cv, rfl⟩ := hc.form
 refine zlt Tryz.func30 O Tryz.ntmps30 O (zlE ?_)
 refine Vs 2 O ?_
 refine V.box 1 O O (fun b1 => ?_)
 refine Vs 6 O ?_
 refine zlT Tryz.call39 O (fun w hI => jE c _ D w (Tr1 hI.k0 hc)) ?_
 refine Vs 1 O ?_
 refine zlh 5 O (fun v0 => ?_) (fun v0 => ?_)
 ·
  refine Vs 2 O ?_
  refine zlT Tryz.call83 O (fun w hI => zgE (fun row => decide (xM row < 0)) c _ _ _ w Tryz.call84 (Tr1 hI.k0 hc) (fun x u w' hE _ hd => zfp x u _ w' hd)) ?_
  refine zll O (fun w hI => zkO O (by first | exact zb | rfl)) ?_
  refine Vs 5 O ?_
  refine zjH Tryz.results30 O (fun w hI => ⟨_, rfl, by rw [zhT v0], hI.k0⟩)
 ·
  refine Vs 9 O ?_
  refine zjH Tryz.results30 O (fun w hI => ⟨_, rfl, by rw [znq (fun h => v0 h.1)], hI.k0⟩)
theorem zdR (p v : Value) (b : Nat) (bs : List Value) (s : Int) (hp : p = .pointer none \/ p = .pointer (some ⟨b, 0, none⟩)) (W : World) (hB : Blk W b [p, v] 162) (hR : W.ownsRow 0 5 1 v bs.length bs) (hne : v.ownBlock ≠ some b) (hlen : bs.length + 1 <= 140737488355328) :
  Calls Tryz.prog 127 #[.pointer (some ⟨b, 0, none⟩), .int .u8 s] W (Ret fun r w' => r = .nilIface /\ ∃ v', Blk w' b [.pointer (some ⟨b, 0, none⟩), v'] 162 /\ w'.ownsRow 0 5 1 v' (bs.length + 1) (bs ++ [.int .u8 s]) /\ v'.ownBlock ≠ some b /\ Keep (fun q => q = b \/ v.ownBlock = some q) W w' /\ ∀ q, v'.ownBlock = some q -> v.ownBlock = some q \/ W.heap.size <= q) := by
 refine zlu Tryz.func127 O Tryz.ntmps127 O (zmi [(900, .own b [p, v] 162), (901, .row 5 1 v bs.length bs)] (zbZ (k1 := 900) (k2 := 901) hB hR hne).1 (zbZ (k1 := 900) (k2 := 901) hB hR hne).2 ?_)
 refine zlK 0 900 0 O O ?_
 refine Vs 8 O ?_
 refine zmj [900] (Hn := fun _x : Unit => [(900, .own b [.pointer (some ⟨b, 0, none⟩), v] 162)]) [(0, some (900, 0)), (5, some (900, 0))] Tryz.call157 O (fun _ _ => rfl) (fun _ => rfl) (fun w hI => zeT hp (hI.at 900 O) O) ?_
 rintro _ ⟨⟩ rfl
 refine Vs 10 O ?_
 refine zm6 13 [(0, _)] Tryz.runUnderlying160 ts5 tz5 (by decide) O O (by kernel_rfl) (fun b13 => ?_)
 refine zlN 901 13 tu160 Tryz.el5 O (by decide) O O (by omega) (by omega) (fun u901 => ?_)
 refine Vs 2 O ?_
 refine zlP 901 O (by omega) ?_
 rintro bq cq rfl hcap_901
 refine Vs 9 O ?_
 refine zjH Tryz.results127 O (fun w hI => ⟨_, rfl, rfl, _, hI.at 900 rfl, hI.at 901 rfl, fun h => zk hI.apart (k := 900) (k' := 901) O O O b O h, hI.k0.mono (fun q _ h => ziS h), zjb hI O rfl⟩)
theorem zhU {Bs : zH} {H : Hp} {k1 k2 b m : Nat} {v p : Value} {bs : List Value} {s : Int} {w : World} (hI : VI Bs H w) (h0 : zi H k1 = some (.own b [p, v] 162)) (h1 : zi H k2 = some (.row 5 1 v m bs)) (hne : Nat.beq k1 k2 = false) (hp : p = .pointer none \/ p = .pointer (some ⟨b, 0, none⟩)) (hlen : m + 1 <= 140737488355328) :
  Calls Tryz.prog 127 #[.pointer (some ⟨b, 0, none⟩), .int .u8 s] w (Ret fun r w' => ∃ v', r = .nilIface /\ Hands H [k1, k2] (zi7 k1 k2 b (.pointer (some ⟨b, 0, none⟩)) v' (m + 1) (bs ++ [.int .u8 s])) w w') := by
 have hB : Blk w b [p, v] 162 := hI.at k1 h0
 have hR : w.ownsRow 0 5 1 v m bs := hI.at k2 h1
 have hm : bs.length = m := by have := hR.1; omega
 have hap : v.ownBlock ≠ some b := fun h => zk hI.apart h0 h1 hne b rfl h
 refine (zdR p v b bs s hp w hB (by rw [hm]; exact hR) hap (by omega)).mono ?_
 rintro e w' ⟨_, rfl, rfl, v', h2, h3, h4, h5, h6⟩
 rw [hm] at h3
 have i0 : ∀ q, q = b -> InS H [k1, k2] q := fun q hq => ⟨_, zf h0, by simp [zaI, Nat.beq_refl], hq⟩
 have i1 : ∀ q, v.ownBlock = some q -> InS H [k1, k2] q := fun q hq => ⟨_, zf h1, by simp only [zaI]; rw [hne]; simp [Nat.beq_refl], hq⟩
 obtain ⟨l1, l2⟩ := zbZ (k1 := k1) (k2 := k2) h2 h3 h4
 refine ⟨_, rfl, v', rfl, h5.mono fun q _ hq => hq.elim (i0 q) (i1 q), fun x hx => ?_, l2⟩
 obtain ⟨g1, g2, g3, g4⟩ := l1 x hx
 refine ⟨g1, g2, g3, fun q hq => ⟨?_, g4 q hq⟩⟩
 simp only [znt, List.not_mem_nil, or_false] at hx
 rcases hx with rfl | rfl
 . exact .inl (i0 q hq)
 . exact (h6 q hq).imp (i1 q) id
theorem zaA {c : UInt8} : ∀ {l : List Int}, (∀ x ∈ l, -4611686018427387904 <= x /\ x <= 4611686018427387904) -> (yq c l).length <= 22 * l.length
 | [], _ => zns _
 | x :: l, h => by
  have h1 := h x (znh ..)
  have h2 := Lib.itoa_length_le x (by omega) (by omega)
  have h3 := zaA (c := c) fun y hy => h y (zng _ hy)
  rw [xt, znl, znG, znG]
  omega
theorem zgH (x : Int) : 0 < (Lib.itoa x).length := by
 unfold Lib.itoa
 split
 . simp
 . exact List.length_pos_iff.2 (zbx _)
theorem zaB (l : List Int) (hlen : l.length <= 200000) (hb : ∀ x ∈ l, -4611686018427387904 <= x /\ x <= 4611686018427387904) (v0 : Value) (D : Nat -> Prop) (W : World) (hl : SlR 1 zt D W v0 l) (ht : Tab W) :
  Calls Tryz.prog 66 #[v0] W (Ret fun r w' => r = .string (spC l) /\ Ext W w') := by
 obtain ⟨ao, co, rfl⟩ := hl.form
 refine zlt Tryz.func66 O Tryz.ntmps66 O (zlE ?_)
 refine Vs 7 O ?_
 refine V.alloc 3 Tryz.zeroValue162 O O (fun b3 => ?_)
 refine Vs 10 O ?_
 refine zlM 901 5 1 O ?_
 refine Vs 1 O ?_
 refine zm3 (σ := Nat × Value × Value) [3, 6, 7] [] [3] O (fun e ⟨i, p, v⟩ => (8, .int .i64 i) :: e) (fun e ⟨i, p, v⟩ => (3, .own b3 [p, v] 162) :: (901, .row 5 1 v (yq 32 (l.take i)).length (Lib.byteCells (yq 32 (l.take i)))) :: e) (fun ⟨i, p, v⟩ => i <= l.length /\ (p = .pointer none \/ p = .pointer (some ⟨b3, 0, none⟩)) /\ (yq 32 (l.take i) = [] -> v = .slice none 0 0)) (fun ⟨i, p, v⟩ => l.length - i) ((0, .pointer none, .slice none 0 0)) (zl4 O) (zl5 O) (fun _ => rfl) (fun _ => rfl) (fun _ => rfl) (⟨zns _, .inl rfl, fun _ => rfl⟩) ?_
 rintro ⟨i, p, v⟩ ⟨hi, hp, hv⟩
 show V _ _ _ _ _ ((8, .int .i64 i) :: _) _ ((3, .own b3 [p, v] 162) :: (901, .row 5 1 v (yq 32 (l.take i)).length (Lib.byteCells (yq 32 (l.take i)))) :: _) _
 have hsl := zaA (c := 32) (l := l.take i) fun x hx => hb x (List.mem_of_mem_take hx)
 rw [znH] at hsl
 refine Vs 6 O ?_
 refine zjn O (fun hlt => ?_) (fun hlt => ?_)
 ·
  refine Vs 6 O ?_
  obtain ⟨x, he_x, hm_x⟩ := gE_ l (i) (by omega)
  obtain ⟨b_x, o_x, c_x, ha_x, _, hc_x, hR_x⟩ := hl.at he_x
  obtain rfl := hR_x
  refine zm0 1000 0 O O hc_x ?_
  refine V.ix 1000 tR27 ts3 O ha_x (by omega) (_) (rfl) O ?_
  have hx := hb x hm_x
  have hil := Lib.itoa_length_le x (by omega) (by omega)
  have hst : yq 32 (l.take (i + 1)) = yq 32 (l.take i) ++ (Lib.itoa x ++ [32]) := by
   rw [zh he_x, zby]; simp [yq]
  have hpos : 0 < (Lib.itoa x).length := zgH x
  refine Vs 7 O ?_
  refine zlT Tryz.call126 O (fun w hI => zhx x (by omega) (by omega) w (Tr1 hI.k0 ht)) ?_
  refine zmj [3, 901] (Hn := fun v' : Value => [(3, .own b3 [.pointer (some ⟨b3, 0, none⟩), v'] 162), (901, .row 5 1 v' ((yq 32 (l.take i)).length + (⟨(Lib.itoa x).toArray⟩ : ByteArray).size) (Lib.byteCells (yq 32 (l.take i)) ++ Lib.strCells (⟨(Lib.itoa x).toArray⟩ : ByteArray)))]) [(3, some (3, 0)), (10, some (1000, 0))] Tryz.call125 O (fun _ _ => rfl) (fun _ => rfl) (fun w hI => zgm hI O O O hp (by rw [zb3]; exact hpos) (by rw [zb3]; omega)) ?_
  rintro _ v' rfl
  refine Vs 3 O ?_
  refine zmj [3, 901] (Hn := fun v'' : Value => [(3, .own b3 [.pointer (some ⟨b3, 0, none⟩), v''] 162), (901, .row 5 1 v'' ((yq 32 (l.take i)).length + (⟨(Lib.itoa x).toArray⟩ : ByteArray).size + 1) (Lib.byteCells (yq 32 (l.take i)) ++ Lib.strCells (⟨(Lib.itoa x).toArray⟩ : ByteArray) ++ [.int .u8 32]))]) [(3, some (3, 0)), (10, some (1000, 0))] Tryz.call127 O (fun _ _ => rfl) (fun _ => rfl) (fun w hI => zhU hI O O O (.inr O) (by rw [zb3]; omega)) ?_
  rintro _ v'' rfl
  refine zm2 901 O (e' := .row 5 1 v'' (yq 32 (l.take (i + 1))).length (Lib.byteCells (yq 32 (l.take (i + 1))))) (by rw [hst, znl, znl, zb3, zb2, Lib.byteCells_append (yq 32 (l.take i)), Lib.byteCells_append (Lib.itoa x), List.append_assoc, Nat.add_assoc]; rfl) ?_
  refine Va 7 O (by omega) ?_
  refine zjy (⟨i + 1, _, v''⟩) (zl4 O) (zl5 O) (⟨by omega, .inr rfl, fun h => by rw [hst] at h; simp at h⟩) (by first | omega | (dsimp only; omega)) 0 O O
 ·
  obtain rfl : i = l.length := by omega
  rw [zni] at *
  refine Vs 7 O ?_
  refine zmj [3, 901] (Hn := fun _x : Unit => [(3, .own b3 [p, v] 162)]) [(3, some (3, 0))] Tryz.call128 O (fun _ _ => rfl) (fun _ => rfl) (fun w hI => zeY hI O O O hv) ?_
  rintro _ ⟨⟩ rfl
  refine Vs 4 O ?_
  refine zjH Tryz.results66 O (fun w hI => ⟨_, rfl, rfl, hI.k0⟩)
end Go.Proofs.YtaenledoagbddaaGreatDoor
namespace Go.GL
theorem RowsOk.add {α : Type} {enc : α -> Value} {e : TypeId} {w : World} {rv : List Value} {rows : List (List α)} {u : Value} {r : List α} (h : RowsOk enc e w rv rows) (hu : w.ownsRow 0 e 1 u r.length (r.map enc)) (hap : ∀ g, u.ownBlock = some g -> ∀ (i : Nat) v, rv[i]? = some v -> v.ownBlock ≠ some g) : RowsOk enc e w (rv ++ [u]) (rows ++ [r]) := by
 have hlen := h.len
 have hat : ∀ (i : Nat) (v : Value), (rv ++ [u])[i]? = some v -> (i < rv.length /\ rv[i]? = some v) \/ (i = rv.length /\ v = u) := fun i v hv => by
  by_cases hi : i < rv.length
  . rw [znD hi] at hv; exact .inl ⟨hi, hv⟩
  ·
   have hl := (znr.1 hv).1
   rw [znl, zny] at hl
   obtain rfl : i = rv.length := by omega
   rw [znE (by omega), Nat.sub_self] at hv
   exact .inr ⟨rfl, by simpa using hv.symm⟩
 refine ⟨by rw [znl, znl, hlen]; rfl, fun i v r' hv hr => ?_, fun i j vi vj g hij hi hj hg => ?_⟩
 ·
  rcases hat i v hv with ⟨h1, h2⟩ | ⟨rfl, rfl⟩
  ·
   rw [znD (by omega)] at hr
   exact h.row i v r' h2 hr
  ·
   rw [hlen, znE (by omega), Nat.sub_self] at hr
   obtain rfl : r = r' := by simpa using hr
   exact hu
 ·
  rcases hat i vi hi with ⟨h1, h2⟩ | ⟨rfl, rfl⟩
  ·
   rcases hat j vj hj with ⟨h3, h4⟩ | ⟨rfl, rfl⟩
   . exact h.apart i j vi vj g hij h2 h4 hg
   . exact fun hg2 => hap g hg2 i vi h2 hg
  ·
   rcases hat j vj hj with ⟨h3, h4⟩ | ⟨rfl, rfl⟩
   . exact fun hg2 => hap g hg j vj h4 hg2
   . exact absurd O hij
theorem RowsOk.nil {α : Type} {enc : α -> Value} {e : TypeId} {w : World} : RowsOk enc e w [] ([] : List (List α)) := ⟨rfl, fun i v r h => by simp at h, fun i j vi vj g _ h => by simp at h⟩
end Go.GL
namespace Go.Proofs.YtaenledoagbddaaGreatDoor
open Go.GL
theorem ziD {rv : List Value} {u : Value} {q : Nat} (hq : ∃ (i : Nat) (v : Value), (rv ++ [u])[i]? = some v /\ v.ownBlock = some q) : (∃ (i : Nat) (v : Value), rv[i]? = some v /\ v.ownBlock = some q) \/ u.ownBlock = some q := by
 obtain ⟨i, v, h1, h2⟩ := hq
 by_cases hi : i < rv.length
 . exact .inl ⟨i, v, by rwa [znD hi] at h1, h2⟩
 ·
  have hl := (znr.1 h1).1
  rw [znl, zny] at hl
  rw [znE (by omega), show i - rv.length = 0 by omega] at h1
  have h3 : u = v := Option.some.inj h1
  exact .inr (h3 ▸ h2)
theorem zfq {c : Mx} {y : Nat} (h : y < (c.headD []).length) : (zN c).take (y + 1) = (zN c).take y ++ [jm c y] := zh (by unfold zN; rw [znu, List.getElem?_range h]; rfl)
theorem zae (c : Mx) (hc1 : 1 <= c.length) (hw : ∀ row ∈ c, row.length = (c.headD []).length) (hb : c.length <= 1000000 /\ (c.headD []).length <= 1000000) (v : Value) (D : Nat -> Prop) (W : World) (hc : SlR 1 (RSl 1 zt) D W v c) :
  Calls Tryz.prog 70 #[v] W (Ret fun r w' => (∃ rv : List Value, w'.ownsRow 0 27 1 r (zN c).length rv /\ RowsOk zd 3 w' rv (zN c) /\ (∀ g, r.ownBlock = some g -> W.heap.size <= g /\ ∀ (i : Nat) u, rv[i]? = some u -> u.ownBlock ≠ some g) /\ ∀ (i : Nat) u g, rv[i]? = some u -> u.ownBlock = some g -> W.heap.size <= g) /\ Ext W w') := by
 obtain ⟨av, cv, rfl⟩ := hc.form
 refine zlt Tryz.func70 O Tryz.ntmps70 O (zlE ?_)
 obtain ⟨r0, he_r0, hm_r0⟩ := gE_ c (0) (by omega)
 obtain ⟨b_r0, o_r0, c_r0, ha_r0, _, hc_r0, hR_r0⟩ := hc.at he_r0
 obtain ⟨v1_r0, rfl, hs_r0⟩ := hR_r0
 obtain ⟨a1_r0, n1_r0, rfl⟩ := hs_r0.form
 refine zm0 1000 0 O O hc_r0 ?_
 have hhd : c.headD [] = r0 := by
  cases c with
  | nil => simp at he_r0
  | cons a c => simpa using he_r0
 rw [hhd] at hw hb
 refine Vs 14 O ?_
 refine V.ix 1000 tR34 ts27 O ha_r0 (by omega) (0) (by omega) O ?_
 refine Vs 5 O ?_
 refine zlM 900 27 1 O ?_
 refine zlM 901 3 1 O ?_
 refine zmc 901 (e' := RowsP zd 3 [] []) O (fun w hI => RowsOk.nil) RowsP.loc (fun _ h => h) (fun q hq => by obtain ⟨i, u, h, _⟩ := hq; simp at h) ?_
 refine Vs 1 O ?_
 refine zm3 (σ := Nat × Value × List Value) [0, 11] [] [] O (fun e ⟨y, u, rv⟩ => (12, .int .i64 y) :: (3, u) :: e) (fun e ⟨y, u, rv⟩ => (900, .row 27 1 u y rv) :: (901, RowsP zd 3 rv ((zN c).take y)) :: e) (fun ⟨y, u, rv⟩ => y <= r0.length) (fun ⟨y, u, rv⟩ => r0.length - y) ((0, .slice none 0 0, [])) (zl4 O) (zl5 O) (fun _ => rfl) (fun _ => rfl) (fun _ => rfl) (zns _) ?_
 rintro ⟨y, u, rv⟩ hy
 show V _ _ _ _ _ ((12, .int .i64 y) :: (3, u) :: _) _ ((900, .row 27 1 u y rv) :: (901, RowsP zd 3 rv ((zN c).take y)) :: _) _
 refine Vs 6 O ?_
 refine zjn O (fun hlt => ?_) (fun hlt => ?_)
 ·
  have htk := zfq (c := c) (y := y) (by rw [hhd]; omega)
  refine Vs 23 O ?_
  refine zlM 902 3 1 O ?_
  refine Vs 1 O ?_
  refine zm3 (σ := Nat × Value) [0, 3, 4, 11, 12, 15, 16] [900, 901] [] O (fun e ⟨x, u2⟩ => (17, .int .i64 x) :: (5, u2) :: e) (fun e ⟨x, u2⟩ => (902, .row 3 1 u2 x (((jm c y).take x).map zd)) :: e) (fun ⟨x, u2⟩ => x <= c.length) (fun ⟨x, u2⟩ => c.length - x) ((0, .slice none 0 0)) (zl4 O) (zl5 O) (fun _ => rfl) (fun _ => rfl) (fun _ => rfl) (zns _) ?_
  rintro ⟨x, u2⟩ hx
  show V _ _ _ _ _ ((17, .int .i64 x) :: (5, u2) :: _) _ ((902, .row 3 1 u2 x (((jm c y).take x).map zd)) :: _) _
  refine Vs 6 O ?_
  refine zjn O (fun hlt2 => ?_) (fun hlt2 => ?_)
  ·
   refine Vs 6 O ?_
   obtain ⟨row, he_row, hm_row⟩ := gE_ c (x) (by omega)
   obtain ⟨b_row, o_row, c_row, ha_row, _, hc_row, hR_row⟩ := hc.at he_row
   obtain ⟨v1_row, rfl, hs_row⟩ := hR_row
   obtain ⟨a1_row, n1_row, rfl⟩ := hs_row.form
   refine zm0 2000 0 O O hc_row ?_
   refine V.ix 2000 tR34 ts27 O ha_row (by omega) (_) (rfl) O ?_
   have hrl := hw row hm_row
   obtain ⟨e, he_e, hm_e⟩ := gE_ row (y) (by omega)
   obtain ⟨b_e, o_e, c_e, ha_e, _, hc_e, hR_e⟩ := hs_row.at he_e
   obtain rfl := hR_e
   refine zm0 3000 0 O O hc_e ?_
   refine Vs 8 O ?_
   refine V.ix 3000 tR27 ts3 O ha_e (by omega) (y) (by omega) O ?_
   refine Vs 1 O ?_
   refine zm6 26 [(0, _)] tR27 ts3 tz3 (by decide) O O (by kernel_rfl) (fun b26 => ?_)
   refine zlN 902 26 tu27 Tryz.el3 O (by decide) O O (by omega) (by omega) (fun u902 => ?_)
   refine Va 8 O (by omega) ?_
   refine zm2 902 O (e' := .row 3 1 u902 (x + 1) (((jm c y).take (x + 1)).map zd)) (by rw [zh (show (jm c y)[x]? = some e by unfold jm; rw [znu, he_row]; show some (row[y]?.getD 0) = _; rw [he_e]; rfl), List.map_append]; rfl) ?_
   refine zjy (⟨x + 1, u902⟩) (zl4 O) (zl5 O) (by omega) (by first | omega | (dsimp only; omega)) 0 O O
  ·
   obtain rfl : x = c.length := by omega
   refine zm2 902 O (e' := .row 3 1 u2 (jm c y).length ((jm c y).map zd)) (by rw [List.take_of_length_le (by rw [xK]; exact znC _), xK]) ?_
   refine zlF (fun w hI => qJ (show w.ownsRow 0 3 1 u2 _ _ from hI.at 902 O)) ?_
   rintro ⟨ab, cb, rfl⟩
   refine Vs 8 O ?_
   refine zm6 31 [(0, _)] tR34 ts27 tz27 (by decide) O O (by kernel_rfl) (fun b31 => ?_)
   refine zlN 900 31 tu34 Tryz.el27 O (by decide) O O (by omega) (by omega) (fun u900 => ?_)
   refine Va 8 O (by omega) ?_
   refine zmv 901 902 (e' := RowsP zd 3 (rv ++ [Value.slice ab (jm c y).length cb]) ((zN c).take (y + 1))) [] O O O (fun w hI => (by rw [htk]; exact (show RowsOk _ _ _ _ _ from hI.at 901 O).add (hI.at 902 O) (fun g hg i v hv hvg => hI.sep (k := 901) (k2 := 902) O O (by decide) ⟨i, v, hv, hvg⟩ hg))) (RowsP.loc) (fun _ h => h) (fun q (hq : ∃ (i : Nat) (v : Value), (rv ++ [Value.slice ab (jm c y).length cb])[i]? = some v /\ v.ownBlock = some q) => ziD hq) ?_
   refine zjy (⟨y + 1, u900, rv ++ [.slice ab (jm c y).length cb]⟩) (zl4 O) (zl5 O) (by omega) (by first | omega | (dsimp only; omega)) 0 O O
 ·
  obtain rfl : y = r0.length := by omega
  have hl : (zN c).length = r0.length := by rw [qi, hhd]
  refine zm2 901 O (e' := RowsP zd 3 rv (zN c)) (by rw [<- hl, zni]) ?_
  refine Vs 12 O ?_
  refine zjH Tryz.results70 O (fun w hI => ⟨_, rfl, ⟨rv, by rw [hl]; exact hI.at 900 rfl, hI.at 901 rfl, fun g hg => ⟨hI.own 900 0 O O g hg, fun i u hu he => hI.sep (k := 900) (k2 := 901) O O (by decide) hg ⟨i, u, hu, he⟩⟩, fun i u g hu he => hI.own 901 0 O O g ⟨i, u, hu, he⟩⟩, hI.k0⟩)
end Go.Proofs.YtaenledoagbddaaGreatDoor
