/-
  Contracts and the mathematics that the proof needs. Nothing here is a claim.
-/
import Derived.Test.YtbkhagigkglgoaaGreatDoorKP5
namespace Go.Proofs.YtbkhagigkglgoaaGreatDoor
open Go.GL
theorem zep : ∀ {l : List Int} {s : Int}, l.Pairwise (· < ·) -> (∀ p, l.getLast? = some p -> p < s) -> (l ++ [s]).Pairwise (· < ·)
 | [], s, _, _ => List.pairwise_singleton _ _
 | [x], s, _, h => by
  have := h x rfl
  simp [this]
 | x :: y :: l, s, hp, h => by
  have ih := zep (l := y :: l) (s := s) (List.pairwise_cons.1 hp).2 (fun p hp' => h p (by simpa using hp'))
  refine List.pairwise_cons.2 ⟨fun z hz => ?_, ih⟩
  rcases List.mem_append.1 hz with hz | hz
  . exact (List.pairwise_cons.1 hp).1 z hz
  ·
   rw [List.mem_singleton] at hz
   subst hz
   have h1 := (List.pairwise_cons.1 hp).1 y (List.mem_cons_self ..)
   have h2 := (List.pairwise_cons.1 ih).1 z (List.mem_append_right _ (List.mem_singleton.2 rfl))
   omega
theorem zgb {l : List Int} {i : Nat} {p : Int} (hi : i <= l.length) (h : (l.take i).getLast? = some p) : 0 < i /\ l[i - 1]? = some p := by
 cases i with
 | zero => simp at h
 | succ i =>
  refine ⟨Nat.succ_pos _, ?_⟩
  rw [List.getLast?_eq_getElem?, List.length_take, List.getElem?_take] at h
  rw [Nat.min_eq_left hi] at h
  simpa using h
structure AscT (l : List Int) (i : Nat) : Prop where
 le : i <= l.length
 rng : ∀ x ∈ l.take i, 0 <= x /\ x < 4096
 asc : (l.take i).Pairwise (· < ·)
theorem AscT.next {l : List Int} {i : Nat} {x : Int} (h : AscT l i) (hx : l[i]? = some x) (h0 : 0 <= x /\ x < 4096) (h1 : ∀ p, 0 < i -> l[i - 1]? = some p -> p < x) : AscT l (i + 1) := by
 have hl := (List.getElem?_eq_some_iff.1 hx).1
 refine ⟨by omega, fun y hy => ?_, ?_⟩
 ·
  rw [zg hx] at hy
  rcases List.mem_append.1 hy with hy | hy
  . exact h.rng y hy
  . rw [List.mem_singleton] at hy; rw [hy]; exact h0
 ·
  rw [zg hx]
  exact zep h.asc fun p hp => by
   obtain ⟨h2, h3⟩ := zgb h.le hp
   exact h1 p h2 h3
abbrev zgc (a : Ac) : Prop := ¬ (a.mode = 0 \/ a.mode = 1) \/ a.budget < 1 \/ 1048576 < a.budget \/ a.spent < 1 \/ a.budget < a.spent
theorem zgd {a : Ac} (h : zgc a) : decide (ValidA a) = false := decide_eq_false fun v => by have h1 := v.mode; have h2 := v.b1; have h3 := v.b2; have h4 := v.s1; have h5 := v.s2; omega
theorem zhA {a : Ac} (h : a.left.length < 1 \/ 4096 < a.left.length) : decide (ValidA a) = false := decide_eq_false fun v => by have h1 := v.l1; have h2 := v.l2; omega
theorem zeq {a : Ac} {i : Nat} {x : Int} (hx : a.left[i]? = some x) (h : x < 0 \/ 4096 <= x) : decide (ValidA a) = false := decide_eq_false fun v => by have := v.rng x (List.mem_of_getElem? hx); omega
theorem zhB {a : Ac} {i : Nat} {x p : Int} (h0 : 0 < i) (hx : a.left[i]? = some x) (hp : a.left[i - 1]? = some p) (h : x <= p) : decide (ValidA a) = false := decide_eq_false fun v => by
 obtain ⟨l1, e1⟩ := List.getElem?_eq_some_iff.1 hx
 obtain ⟨l2, e2⟩ := List.getElem?_eq_some_iff.1 hp
 have := List.pairwise_iff_getElem.1 v.asc (i - 1) i l2 l1 (by omega)
 omega
theorem zd1 {a : Ac} (h1 : ¬ zgc a) (h2 : ¬ (a.left.length < 1 \/ 4096 < a.left.length)) (h : AscT a.left a.left.length) : decide (ValidA a) = true := by
 have h3 := h.rng
 have h4 := h.asc
 rw [List.take_length] at h3 h4
 exact decide_eq_true ⟨by omega, by omega, by omega, by omega, by omega, by omega, by omega, h3, h4⟩
theorem zdG (a : Ac) (u1 u2 : Value) (D : Nat -> Prop) (W : World) (ha : RAc D W a u1 u2) : Calls Tryz.prog 26 #[.agg #[.int .i64 a.mode, .int .i64 a.budget, .int .i64 a.spent, u1, u2]] W (Ret fun r w' => r = .bool (decide (ValidA a)) /\ Ext W w') := by
 have hl := ha.left
 obtain ⟨al, cl, rfl⟩ := hl.form
 obtain ⟨aq, cq, hq⟩ := ha.asked.form
 subst hq
 have hmx := hl.max
 refine G.in1 Tryz.func26 rfl Tryz.ntmps26 rfl (V.inn ?_)
 refine Vs 2 rfl ?_
 refine V.box 1 rfl rfl (fun b1 => ?_)
 refine Vs 5 rfl ?_
 refine V.cutK (σ := Unit) [1] [1] [1] rfl (fun e u => (34, .bool (decide (zgc a))) :: e) (fun e u => e) (fun u => True) (fun _ => rfl) (fun _ => rfl) ?_ ?_
 ·
  refine Vs 5 rfl ?_
  refine V.sp 8 rfl (fun k1_ => ?_) (fun k1_ => ?_)
  ·
   refine Vs 5 rfl ?_
   refine V.sp 13 rfl (fun k2_ => ?_) (fun k2_ => ?_)
   ·
    refine Vs 22 rfl ?_
    refine V.meet (()) (Sub.cons (by first | exact yo (by omega) | exact yp (by omega) | exact yq (by omega)) (Sub.of rfl)) (Has.of rfl) (trivial) 0 rfl rfl
   ·
    refine Vs 5 rfl ?_
    refine V.sp 18 rfl (fun k3_ => ?_) (fun k3_ => ?_)
    ·
     refine Vs 17 rfl ?_
     refine V.meet (()) (Sub.cons (by first | exact yo (by omega) | exact yp (by omega) | exact yq (by omega)) (Sub.of rfl)) (Has.of rfl) (trivial) 0 rfl rfl
    ·
     refine Vs 5 rfl ?_
     refine V.sp 23 rfl (fun k4_ => ?_) (fun k4_ => ?_)
     ·
      refine Vs 12 rfl ?_
      refine V.meet (()) (Sub.cons (by first | exact yo (by omega) | exact yp (by omega) | exact yq (by omega)) (Sub.of rfl)) (Has.of rfl) (trivial) 0 rfl rfl
     ·
      refine Vs 5 rfl ?_
      refine V.sp 28 rfl (fun k5_ => ?_) (fun k5_ => ?_)
      ·
       refine Vs 7 rfl ?_
       refine V.meet (()) (Sub.cons (by first | exact yo (by omega) | exact yp (by omega) | exact yq (by omega)) (Sub.of rfl)) (Has.of rfl) (trivial) 0 rfl rfl
      ·
       refine Vs 7 rfl ?_
       refine V.meet (()) (Sub.cons (by first | exact yo (by omega) | exact yp (by omega) | exact yq (by omega)) (Sub.of rfl)) (Has.of rfl) (trivial) 0 rfl rfl
  ·
   refine Vs 10 rfl ?_
   refine V.sp 18 rfl (fun k2_ => ?_) (fun k2_ => ?_)
   ·
    refine Vs 17 rfl ?_
    refine V.meet (()) (Sub.cons (by first | exact yo (by omega) | exact yp (by omega) | exact yq (by omega)) (Sub.of rfl)) (Has.of rfl) (trivial) 0 rfl rfl
   ·
    refine Vs 5 rfl ?_
    refine V.sp 23 rfl (fun k3_ => ?_) (fun k3_ => ?_)
    ·
     refine Vs 12 rfl ?_
     refine V.meet (()) (Sub.cons (by first | exact yo (by omega) | exact yp (by omega) | exact yq (by omega)) (Sub.of rfl)) (Has.of rfl) (trivial) 0 rfl rfl
    ·
     refine Vs 5 rfl ?_
     refine V.sp 28 rfl (fun k4_ => ?_) (fun k4_ => ?_)
     ·
      refine Vs 7 rfl ?_
      refine V.meet (()) (Sub.cons (by first | exact yo (by omega) | exact yp (by omega) | exact yq (by omega)) (Sub.of rfl)) (Has.of rfl) (trivial) 0 rfl rfl
     ·
      refine Vs 7 rfl ?_
      refine V.meet (()) (Sub.cons (by first | exact yo (by omega) | exact yp (by omega) | exact yq (by omega)) (Sub.of rfl)) (Has.of rfl) (trivial) 0 rfl rfl
 rintro u _
 refine Vs 1 rfl ?_
 refine V.ite rfl (fun c1 => ?_) (fun c1 => ?_)
 ·
  refine Vs 7 rfl ?_
  refine V.ret1 tr26 rfl (fun w hI => ⟨_, rfl, by rw [zgd c1], hI.k0⟩)
 ·
  refine Vs 4 rfl ?_
  refine V.cutK (σ := Unit) [1] [1] [1] rfl (fun e u => (44, .bool (decide (a.left.length < 1 \/ 4096 < a.left.length))) :: e) (fun e u => e) (fun u => True) (fun _ => rfl) (fun _ => rfl) ?_ ?_
  ·
   refine Vs 6 rfl ?_
   refine V.sp 39 rfl (fun k1_ => ?_) (fun k1_ => ?_)
   ·
    refine Vs 6 rfl ?_
    refine V.meet (()) (Sub.cons (by first | exact yo (by omega) | exact yp (by omega) | exact yq (by omega)) (Sub.of rfl)) (Has.of rfl) (trivial) 0 rfl rfl
   ·
    refine Vs 6 rfl ?_
    refine V.meet (()) (Sub.cons (by first | exact yo (by omega) | exact yp (by omega) | exact yq (by omega)) (Sub.of rfl)) (Has.of rfl) (trivial) 0 rfl rfl
  rintro u _
  refine Vs 1 rfl ?_
  refine V.ite rfl (fun c2 => ?_) (fun c2 => ?_)
  ·
   refine Vs 7 rfl ?_
   refine V.ret1 tr26 rfl (fun w hI => ⟨_, rfl, by rw [zhA c2], hI.k0⟩)
  ·
   refine Vs 12 rfl ?_
   refine V.loopK (σ := Nat) [1, 46, 47] [1] [1] rfl (fun e i => (48, .int .i64 i) :: e) (fun e i => e) (fun i => AscT a.left i) (fun i => a.left.length - i) (0) (Sub.of rfl) (Has.of rfl) (fun _ => rfl) (fun _ => rfl) (fun _ => rfl) (⟨Nat.zero_le _, by simp, by simp⟩) ?_
   rintro i hA
   have hle := hA.le
   refine Vs 6 rfl ?_
   refine V.ite rfl (fun hlt => ?_) (fun hlt => ?_)
   ·
    refine Vs 7 rfl ?_
    obtain ⟨x, he_x⟩ : ∃ z_, a.left[i]? = some z_ := ⟨_, List.getElem?_eq_getElem (by omega)⟩
    have hm_x := List.mem_of_getElem? he_x
    obtain ⟨b_x, o_x, c_x, ha_x, _, hc_x, hR_x⟩ := hl.at he_x
    obtain rfl := hR_x
    refine V.fr 1000 0 rfl rfl hc_x ?_
    refine V.ix 1000 tR31 ts3 rfl ha_x (by omega) (_) (rfl) rfl ?_
    refine Vs 10 rfl ?_
    refine V.sp 55 rfl (fun b1 => ?_) (fun b1 => ?_)
    ·
     refine Vs 31 rfl ?_
     refine V.ret1 tr26 rfl (fun w hI => ⟨_, rfl, by rw [zeq he_x (.inl b1)], hI.k0⟩)
    ·
     refine Vs 4 rfl ?_
     refine V.sp 59 rfl (fun b2 => ?_) (fun b2 => ?_)
     ·
      refine Vs 27 rfl ?_
      refine V.ret1 tr26 rfl (fun w hI => ⟨_, rfl, by rw [zeq he_x (.inr b2)], hI.k0⟩)
     ·
      refine Vs 3 rfl ?_
      refine V.sp 62 rfl (fun b3 => ?_) (fun b3 => ?_)
      ·
       obtain ⟨y, he_y⟩ : ∃ z_, a.left[i-1]? = some z_ := ⟨_, List.getElem?_eq_getElem (by omega)⟩
       have hm_y := List.mem_of_getElem? he_y
       obtain ⟨b_y, o_y, c_y, ha_y, _, hc_y, hR_y⟩ := hl.at he_y
       obtain rfl := hR_y
       refine V.fr 2000 0 rfl rfl hc_y ?_
       refine Va 5 rfl (by omega) ?_
       refine V.ix 2000 tR31 ts3 rfl ha_y (by omega) (i - 1) (by omega) rfl ?_
       refine Vs 6 rfl ?_
       refine V.ite rfl (fun b4 => ?_) (fun b4 => ?_)
       ·
        refine Vs 11 rfl ?_
        refine V.ret1 tr26 rfl (fun w hI => ⟨_, rfl, by rw [zhB (by omega) he_x he_y b4], hI.k0⟩)
       ·
        refine Va 7 rfl (by omega) ?_
        refine V.back (i + 1) (Sub.of rfl) (Has.of rfl) (hA.next he_x (by omega) fun p _ hp => by rw [he_y] at hp; cases hp; omega) (by first | omega | (dsimp only; omega)) 0 rfl rfl
      ·
       refine Va 20 rfl (by omega) ?_
       refine V.back (i + 1) (Sub.of rfl) (Has.of rfl) (hA.next he_x (by omega) fun p h0 _ => absurd h0 (by omega)) (by first | omega | (dsimp only; omega)) 0 rfl rfl
   ·
    obtain rfl : i = a.left.length := by omega
    refine Vs 11 rfl ?_
    refine V.ret1 tr26 rfl (fun w hI => ⟨_, rfl, by rw [zd1 c1 c2 hA], hI.k0⟩)
theorem zdH (a : Ac) (u1 u2 : Value) (D : Nat -> Prop) (W : World) (ha : RAc D W a u1 u2) : Calls Tryz.prog 23 #[.agg #[.int .i64 a.mode, .int .i64 a.budget, .int .i64 a.spent, u1, u2]] W (Ret fun r w' => r = .bool (decide (ValidA a)) /\ Ext W w') := by
 have hl := ha.left
 obtain ⟨al, cl, rfl⟩ := hl.form
 obtain ⟨aq, cq, hq⟩ := ha.asked.form
 subst hq
 have hmx := hl.max
 refine G.in1 Tryz.func23 rfl Tryz.ntmps23 rfl (V.inn ?_)
 refine Vs 2 rfl ?_
 refine V.box 1 rfl rfl (fun b1 => ?_)
 refine Vs 5 rfl ?_
 refine V.cutK (σ := Unit) [1] [1] [1] rfl (fun e u => (46, .bool (decide (zgc a \/ a.left.length < 1 \/ 4096 < a.left.length))) :: e) (fun e u => e) (fun u => True) (fun _ => rfl) (fun _ => rfl) ?_ ?_
 ·
  refine Vs 5 rfl ?_
  refine V.sp 8 rfl (fun k1_ => ?_) (fun k1_ => ?_)
  ·
   refine Vs 5 rfl ?_
   refine V.sp 13 rfl (fun k2_ => ?_) (fun k2_ => ?_)
   ·
    refine Vs 34 rfl ?_
    refine V.meet (()) (Sub.cons (by first | exact yo (by omega) | exact yp (by omega) | exact yq (by omega)) (Sub.of rfl)) (Has.of rfl) (trivial) 0 rfl rfl
   ·
    refine Vs 5 rfl ?_
    refine V.sp 18 rfl (fun k3_ => ?_) (fun k3_ => ?_)
    ·
     refine Vs 29 rfl ?_
     refine V.meet (()) (Sub.cons (by first | exact yo (by omega) | exact yp (by omega) | exact yq (by omega)) (Sub.of rfl)) (Has.of rfl) (trivial) 0 rfl rfl
    ·
     refine Vs 5 rfl ?_
     refine V.sp 23 rfl (fun k4_ => ?_) (fun k4_ => ?_)
     ·
      refine Vs 24 rfl ?_
      refine V.meet (()) (Sub.cons (by first | exact yo (by omega) | exact yp (by omega) | exact yq (by omega)) (Sub.of rfl)) (Has.of rfl) (trivial) 0 rfl rfl
     ·
      refine Vs 5 rfl ?_
      refine V.sp 28 rfl (fun k5_ => ?_) (fun k5_ => ?_)
      ·
       refine Vs 19 rfl ?_
       refine V.meet (()) (Sub.cons (by first | exact yo (by omega) | exact yp (by omega) | exact yq (by omega)) (Sub.of rfl)) (Has.of rfl) (trivial) 0 rfl rfl
      ·
       refine Vs 7 rfl ?_
       refine V.sp 35 rfl (fun k6_ => ?_) (fun k6_ => ?_)
       ·
        refine Vs 12 rfl ?_
        refine V.meet (()) (Sub.cons (by first | exact yo (by omega) | exact yp (by omega) | exact yq (by omega)) (Sub.of rfl)) (Has.of rfl) (trivial) 0 rfl rfl
       ·
        refine Vs 6 rfl ?_
        refine V.sp 41 rfl (fun k7_ => ?_) (fun k7_ => ?_)
        ·
         refine Vs 6 rfl ?_
         refine V.meet (()) (Sub.cons (by first | exact yo (by omega) | exact yp (by omega) | exact yq (by omega)) (Sub.of rfl)) (Has.of rfl) (trivial) 0 rfl rfl
        ·
         refine Vs 6 rfl ?_
         refine V.meet (()) (Sub.cons (by first | exact yo (by omega) | exact yp (by omega) | exact yq (by omega)) (Sub.of rfl)) (Has.of rfl) (trivial) 0 rfl rfl
  ·
   refine Vs 10 rfl ?_
   refine V.sp 18 rfl (fun k2_ => ?_) (fun k2_ => ?_)
   ·
    refine Vs 29 rfl ?_
    refine V.meet (()) (Sub.cons (by first | exact yo (by omega) | exact yp (by omega) | exact yq (by omega)) (Sub.of rfl)) (Has.of rfl) (trivial) 0 rfl rfl
   ·
    refine Vs 5 rfl ?_
    refine V.sp 23 rfl (fun k3_ => ?_) (fun k3_ => ?_)
    ·
     refine Vs 24 rfl ?_
     refine V.meet (()) (Sub.cons (by first | exact yo (by omega) | exact yp (by omega) | exact yq (by omega)) (Sub.of rfl)) (Has.of rfl) (trivial) 0 rfl rfl
    ·
     refine Vs 5 rfl ?_
     refine V.sp 28 rfl (fun k4_ => ?_) (fun k4_ => ?_)
     ·
      refine Vs 19 rfl ?_
      refine V.meet (()) (Sub.cons (by first | exact yo (by omega) | exact yp (by omega) | exact yq (by omega)) (Sub.of rfl)) (Has.of rfl) (trivial) 0 rfl rfl
     ·
      refine Vs 7 rfl ?_
      refine V.sp 35 rfl (fun k5_ => ?_) (fun k5_ => ?_)
      ·
       refine Vs 12 rfl ?_
       refine V.meet (()) (Sub.cons (by first | exact yo (by omega) | exact yp (by omega) | exact yq (by omega)) (Sub.of rfl)) (Has.of rfl) (trivial) 0 rfl rfl
      ·
       refine Vs 6 rfl ?_
       refine V.sp 41 rfl (fun k6_ => ?_) (fun k6_ => ?_)
       ·
        refine Vs 6 rfl ?_
        refine V.meet (()) (Sub.cons (by first | exact yo (by omega) | exact yp (by omega) | exact yq (by omega)) (Sub.of rfl)) (Has.of rfl) (trivial) 0 rfl rfl
       ·
        refine Vs 6 rfl ?_
        refine V.meet (()) (Sub.cons (by first | exact yo (by omega) | exact yp (by omega) | exact yq (by omega)) (Sub.of rfl)) (Has.of rfl) (trivial) 0 rfl rfl
 rintro u _
 refine Vs 1 rfl ?_
 refine V.ite rfl (fun c0 => ?_) (fun c0 => ?_)
 ·
  rcases c0 with c1 | c2
  ·
   refine Vs 7 rfl ?_
   refine V.ret1 tr23 rfl (fun w hI => ⟨_, rfl, by rw [zgd c1], hI.k0⟩)
  ·
   refine Vs 7 rfl ?_
   refine V.ret1 tr23 rfl (fun w hI => ⟨_, rfl, by rw [zhA c2], hI.k0⟩)
 ·
  have c1 : ¬ zgc a := fun h => c0 (.inl h)
  have c2 : ¬ (a.left.length < 1 \/ 4096 < a.left.length) := fun h => c0 (.inr h)
  refine Vs 12 rfl ?_
  refine V.loopK (σ := Nat) [1, 48, 49] [1] [1] rfl (fun e i => (50, .int .i64 i) :: e) (fun e i => e) (fun i => AscT a.left i) (fun i => a.left.length - i) (0) (Sub.of rfl) (Has.of rfl) (fun _ => rfl) (fun _ => rfl) (fun _ => rfl) (⟨Nat.zero_le _, by simp, by simp⟩) ?_
  rintro i hA
  have hle := hA.le
  refine Vs 6 rfl ?_
  refine V.ite rfl (fun hlt => ?_) (fun hlt => ?_)
  ·
   refine Vs 7 rfl ?_
   obtain ⟨x, he_x⟩ : ∃ z_, a.left[i]? = some z_ := ⟨_, List.getElem?_eq_getElem (by omega)⟩
   have hm_x := List.mem_of_getElem? he_x
   obtain ⟨b_x, o_x, c_x, ha_x, _, hc_x, hR_x⟩ := hl.at he_x
   obtain rfl := hR_x
   refine V.fr 1000 0 rfl rfl hc_x ?_
   refine V.ix 1000 tR31 ts3 rfl ha_x (by omega) (_) (rfl) rfl ?_
   refine Vs 10 rfl ?_
   refine V.sp 57 rfl (fun b1 => ?_) (fun b1 => ?_)
   ·
    refine Vs 31 rfl ?_
    refine V.ret1 tr23 rfl (fun w hI => ⟨_, rfl, by rw [zeq he_x (.inl b1)], hI.k0⟩)
   ·
    refine Vs 4 rfl ?_
    refine V.sp 61 rfl (fun b2 => ?_) (fun b2 => ?_)
    ·
     refine Vs 27 rfl ?_
     refine V.ret1 tr23 rfl (fun w hI => ⟨_, rfl, by rw [zeq he_x (.inr b2)], hI.k0⟩)
    ·
     refine Vs 3 rfl ?_
     refine V.sp 64 rfl (fun b3 => ?_) (fun b3 => ?_)
     ·
      obtain ⟨y, he_y⟩ : ∃ z_, a.left[i-1]? = some z_ := ⟨_, List.getElem?_eq_getElem (by omega)⟩
      have hm_y := List.mem_of_getElem? he_y
      obtain ⟨b_y, o_y, c_y, ha_y, _, hc_y, hR_y⟩ := hl.at he_y
      obtain rfl := hR_y
      refine V.fr 2000 0 rfl rfl hc_y ?_
      refine Va 5 rfl (by omega) ?_
      refine V.ix 2000 tR31 ts3 rfl ha_y (by omega) (i - 1) (by omega) rfl ?_
      refine Vs 6 rfl ?_
      refine V.ite rfl (fun b4 => ?_) (fun b4 => ?_)
      ·
       refine Vs 11 rfl ?_
       refine V.ret1 tr23 rfl (fun w hI => ⟨_, rfl, by rw [zhB (by omega) he_x he_y b4], hI.k0⟩)
      ·
       refine Va 7 rfl (by omega) ?_
       refine V.back (i + 1) (Sub.of rfl) (Has.of rfl) (hA.next he_x (by omega) fun p _ hp => by rw [he_y] at hp; cases hp; omega) (by first | omega | (dsimp only; omega)) 0 rfl rfl
     ·
      refine Va 20 rfl (by omega) ?_
      refine V.back (i + 1) (Sub.of rfl) (Has.of rfl) (hA.next he_x (by omega) fun p h0 _ => absurd h0 (by omega)) (by first | omega | (dsimp only; omega)) 0 rfl rfl
  ·
   obtain rfl : i = a.left.length := by omega
   refine Vs 11 rfl ?_
   refine V.ret1 tr23 rfl (fun w hI => ⟨_, rfl, by rw [zd1 c1 c2 hA], hI.k0⟩)
theorem zeV (p q : Int × List Int) (u v : Value) (D D' : Nat -> Prop) (W : World) (hp : SlR 1 zv D W u p.2) (hq : SlR 1 zv D' W v q.2) : Calls Tryz.prog 115 #[.agg #[.int .i64 p.1, u], .agg #[.int .i64 q.1, v]] W (Ret fun r w' => r = .bool (decide (p = q)) /\ Ext W w') := by
 obtain ⟨a1, c1, rfl⟩ := hp.form
 obtain ⟨a2, c2, rfl⟩ := hq.form
 refine G.in2 Tryz.func115 rfl Tryz.ntmps115 rfl (V.inn ?_)
 refine Vs 2 rfl ?_
 refine V.box 2 rfl rfl (fun b2 => ?_)
 refine V.box 3 rfl rfl (fun b3 => ?_)
 refine Vs 11 rfl ?_
 refine V.sp 10 rfl (fun e => ?_) (fun e => ?_)
 ·
  refine Vs 4 rfl ?_
  refine V.call1 tc18 rfl (fun w hI => jR p.2 q.2 _ _ D D' w (Tr1 hI.k0 hp) (Tr1 hI.k0 hq)) ?_
  refine Vs 5 rfl ?_
  refine V.ret1 Tryz.results115 rfl (fun w hI => ⟨_, rfl, by rw [decide_eq_decide.2]; rw [Prod.ext_iff]; simp [e], hI.k0⟩)
 ·
  refine Vs 10 rfl ?_
  refine V.ret1 Tryz.results115 rfl (fun w hI => ⟨_, rfl, by rw [decide_eq_false (fun h => e (by rw [h]))], hI.k0⟩)
theorem zge (p q : Int × List Int) (u v : Value) (b : Nat) (D D' : Nat -> Prop) (W : World) (hp : SlR 1 zv D W u p.2) (hq : SlR 1 zv D' W v q.2) (hB : Cells W b 0 [.int .i64 q.1, v]) : Calls Tryz.prog 85 #[.agg #[.int .i64 p.1, u], .pointer (some ⟨b, 0, none⟩)] W (Ret fun r w' => r = .bool (decide (p = q)) /\ Ext W w') := by
 obtain ⟨a1, c1, rfl⟩ := hp.form
 obtain ⟨a2, c2, rfl⟩ := hq.form
 refine G.in2 Tryz.func85 rfl Tryz.ntmps85 rfl (V.inn ?_)
 refine V.frS 900 0 rfl rfl (fun h => h) hB ?_
 refine V.tag 1 900 0 rfl rfl ?_
 refine Vs 2 rfl ?_
 refine V.box 2 rfl rfl (fun b2 => ?_)
 refine Vs 11 rfl ?_
 refine V.sp 9 rfl (fun e => ?_) (fun e => ?_)
 ·
  refine Vs 4 rfl ?_
  refine V.call1 tc18 rfl (fun w hI => jR p.2 q.2 _ _ D D' w (Tr1 hI.k0 hp) (Tr1 hI.k0 hq)) ?_
  refine Vs 5 rfl ?_
  refine V.ret1 Tryz.results85 rfl (fun w hI => ⟨_, rfl, by rw [decide_eq_decide.2]; rw [Prod.ext_iff]; simp [e], hI.k0⟩)
 ·
  refine Vs 10 rfl ?_
  refine V.ret1 Tryz.results85 rfl (fun w hI => ⟨_, rfl, by rw [decide_eq_false (fun h => e (by rw [h]))], hI.k0⟩)
theorem zeW (p q : Int × List Int) (u v : Value) (b : Nat) (D D' : Nat -> Prop) (W : World) (hp : SlR 1 zv D W u p.2) (hq : SlR 1 zv D' W v q.2) (hB : Cells W b 0 [.int .i64 q.1, v]) : Calls Tryz.prog 114 #[.agg #[.int .i64 p.1, u], .pointer (some ⟨b, 0, none⟩)] W (Ret fun r w' => r = .bool (decide (p = q)) /\ Ext W w') := by
 obtain ⟨a1, c1, rfl⟩ := hp.form
 obtain ⟨a2, c2, rfl⟩ := hq.form
 refine G.in2 Tryz.func114 rfl Tryz.ntmps114 rfl (V.inn ?_)
 refine V.frS 900 0 rfl rfl (fun h => h) hB ?_
 refine V.tag 1 900 0 rfl rfl ?_
 refine Vs 2 rfl ?_
 refine V.box 2 rfl rfl (fun b2 => ?_)
 refine Vs 7 rfl ?_
 refine V.call1 Tryz.call115 rfl (fun w hI => zeV p q _ _ D D' w (Tr1 hI.k0 hp) (Tr1 hI.k0 hq)) ?_
 refine Vs 4 rfl ?_
 refine V.ret1 Tryz.results114 rfl (fun w hI => ⟨_, rfl, rfl, hI.k0⟩)
theorem zgf (l : List (Int × List Int)) (q : Int × List Int) : (l.any fun p => decide (p = q)) = decide (q ∈ l) := by
 rw [Bool.eq_iff_iff, decide_eq_true_iff, List.any_eq_true]
 constructor
 ·
  rintro ⟨x, hx, h⟩
  rw [<- of_decide_eq_true h]; exact hx
 . exact fun h => ⟨q, h, by simp⟩
theorem zhi (l : List (Int × List Int)) (q : Int × List Int) (lv v : Value) (D D' : Nat -> Prop) (W : World) (hl : SlR 2 RQu D W lv l) (hq : SlR 1 zv D' W v q.2) : Calls Tryz.prog 47 #[lv, .agg #[.int .i64 q.1, v]] W (Ret fun r w' => r = .bool (decide (q ∈ l)) /\ Ext W w') := by
 obtain ⟨a2, c2, rfl⟩ := hq.form
 refine G.in2 Tryz.func47 rfl Tryz.ntmps47 rfl (V.inn ?_)
 refine Vs 2 rfl ?_
 refine V.box 3 rfl rfl (fun b3 => ?_)
 refine Vs 7 rfl ?_
 refine V.call1 Tryz.call84 rfl (fun w hI => zem (fun p => decide (p = q)) l lv D _ _ w Tryz.call85 (Tr1 hI.k0 hl) (fun x u w' hE _ hd => zge x q u _ b3 D D' w' hd (Tr1 ((hI.k0).trans hE (fun _ _ h => h)) hq) (hE.cells (Blk.cells (hI.at 3 rfl)) (fun h => h)))) ?_
 refine Vs 4 rfl ?_
 refine V.ret1 Tryz.results47 rfl (fun w hI => ⟨_, rfl, by rw [zgf], hI.k0⟩)
theorem zd2 (a : Ac) (q : Int × List Int) (u1 u2 v : Value) (m b s : Int) (D D' : Nat -> Prop) (W : World) (ha : RAc D W a u1 u2) (hq : SlR 1 zv D' W v q.2) : Calls Tryz.prog 83 #[.agg #[.int .i64 m, .int .i64 b, .int .i64 s, u1, u2], .agg #[.int .i64 q.1, v]] W (Ret fun r w' => r = .bool (decide (q ∈ a.asked)) /\ Ext W w') := by
 obtain ⟨a1, c1, rfl⟩ := hq.form
 obtain ⟨a2, c2, h2⟩ := ha.left.form
 obtain ⟨a3, c3, h3⟩ := ha.asked.form
 subst h2 h3
 refine G.in2 Tryz.func83 rfl Tryz.ntmps83 rfl (V.inn ?_)
 refine Vs 2 rfl ?_
 refine V.box 2 rfl rfl (fun b2 => ?_)
 refine V.box 3 rfl rfl (fun b3 => ?_)
 refine Vs 8 rfl ?_
 refine V.call1 Tryz.call84 rfl (fun w hI => zem (fun p => decide (p = q)) a.asked _ D _ _ w Tryz.call114 (Tr1 hI.k0 ha.asked) (fun x u w' hE _ hd => zeW x q u _ b3 D D' w' hd (Tr1 ((hI.k0).trans hE (fun _ _ h => h)) hq) (hE.cells (Blk.cells (hI.at 3 rfl)) (fun h => h)))) ?_
 refine Vs 4 rfl ?_
 refine V.ret1 Tryz.results83 rfl (fun w hI => ⟨_, rfl, by rw [zgf], hI.k0⟩)
theorem zd3 (q : Int × List Int) (hlen : q.2.length <= 17592186044416) (v : Value) (D : Nat -> Prop) (W : World) (hq : SlR 1 zv D W v q.2) : Calls Tryz.prog 69 #[.agg #[.int .i64 q.1, v]] W (Ret fun r w' => (∃ u, r = .agg #[.int .i64 q.1, u] /\ SlR 1 zv (fun b => W.heap.size <= b) w' u q.2) /\ Ext W w') := by
 obtain ⟨a1, c1, rfl⟩ := hq.form
 refine G.in1 Tryz.func69 rfl Tryz.ntmps69 rfl (V.inn ?_)
 refine Vs 2 rfl ?_
 refine V.box 1 rfl rfl (fun b1 => ?_)
 refine V.alloc 2 tz33 rfl rfl (fun b2 => ?_)
 refine Vs 3 rfl ?_
 refine Vw [1, 2] [6] rfl ?_
 refine Vd [0, 1, 2, 3] 0 (by kernel_rfl) rfl rfl rfl ?_
 refine VD.call2 4 0 Tryz.call68 rfl (by kernel_rfl) rfl rfl (fun w hI => zg9 q.2 hlen _ D w (Tr1 hI.k0 hq)) ?_
 rintro u w1 w2 hI1 hk12 hu hlow
 obtain ⟨au, cu, rfl⟩ := hu.form
 have e1 : W.heap.size <= w1.heap.size := hI1.k0.size
 refine VD.bld 5 [Value.int IntKind.i64 0, Value.slice none 0 0] [(0, 1), (1, 1)] [(0, _), (1, _)] rfl (by kernel_rfl) rfl rfl (fun _ => by kernel_rfl) ?_
 refine Vl 6 rfl (by kernel_rfl) rfl ?_
 refine VDx.done (by kernel_rfl) ?_
 refine Vs 2 rfl ?_
 refine V.dat 900 0 rfl rfl rfl (hu) (fun b hb _ hs => by have := hlow b hs; omega) ?_
 refine V.retC Tryz.results69 Tryz.isAgg33 ts33 rfl rfl rfl (fun w hI => ⟨_, rfl, ⟨_, rfl, (hI.at 900 rfl).1.wide zb (fun b hb => by omega)⟩, hI.k1⟩)
theorem zdI {ps : List Fl} {k : Nat} {f : Fl} (h : ps[k]? = some f) : zbZ ps (k : Int) = some f := by
 unfold zbZ
 rw [if_neg (by omega), Int.toNat_natCast]; exact h
theorem zbW {ps : List Fl} {i : Int} (h : i < 0 \/ (ps.length : Int) <= i) : zbZ ps i = none := by
 unfold zbZ
 split
 . rfl
 . exact List.getElem?_eq_none (by omega)
theorem zba {a : Ac} {ps : List Fl} {q : Qu} (h : ¬ ValidA a) : yW a ps q = 1 := if_pos h
theorem zbb {a : Ac} {ps : List Fl} {q : Qu} (h : ValidA a) (hq : q.1 < 0 \/ (ps.length : Int) <= q.1) : yW a ps q = 3 := by
 unfold yW
 rw [if_neg (not_not_intro h), zbW hq]
theorem zd4 {a : Ac} {ps : List Fl} {k : Nat} {f : Fl} {pub : List Int} (h : ValidA a) (hk : ps[k]? = some f) : yW a ps ((k : Int), pub) = qPC f a pub := by
 unfold yW
 rw [if_neg (not_not_intro h)]
 simp only [zdI hk]
theorem zaL (a : Ac) (ps : List Fl) (hz : ∀ f ∈ ps, SzOk f) (q : Qu) (u1 u2 pv qv : Value) (D D1 D2 : Nat -> Prop) (W : World) (ha : RAc D W a u1 u2) (hps : SlR 3 RPg D1 W pv ps) (hq : SlR 1 zv D2 W qv q.2) :
  Calls Tryz.prog 45 #[.agg #[.int .i64 a.mode, .int .i64 a.budget, .int .i64 a.spent, u1, u2], pv, .agg #[.int .i64 q.1, qv]] W (Ret fun r w' => r = .int .i64 (yW a ps q) /\ Ext W w') := by
 obtain ⟨qp, pub⟩ := q
 dsimp only at hq
 obtain ⟨a1, c1, h1⟩ := ha.left.form
 obtain ⟨a2, c2, h2⟩ := ha.asked.form
 subst h1 h2
 obtain ⟨ap, cp, rfl⟩ := hps.form
 obtain ⟨aq, cq, rfl⟩ := hq.form
 have hmp := hps.max
 refine G.in3 Tryz.func45 rfl Tryz.ntmps45 rfl (V.inn ?_)
 refine Vs 2 rfl ?_
 refine V.box 3 rfl rfl (fun b3 => ?_)
 refine V.box 5 rfl rfl (fun b5 => ?_)
 refine Vs 7 rfl ?_
 refine V.call1 Tryz.call26 rfl (fun w hI => zdG a _ _ D w (Tr1 hI.k0 ha)) ?_
 refine V.ops1 rfl (fun w hI => R.notU rfl (by first | exact za | rfl)) ?_
 refine Vs 2 rfl ?_
 refine V.ite rfl (fun v0 => ?_) (fun v0 => ?_)
 ·
  refine Vs 7 rfl ?_
  refine V.ret1 tr45 rfl (fun w hI => ⟨_, rfl, by rw [zba v0], hI.k0⟩)
 ·
  have v0 := Decidable.not_not.1 v0
  refine Vs 4 rfl ?_
  refine V.cutK (σ := Unit) [1, 3, 5] [3, 5] [3, 5] rfl (fun e u => (21, .bool (decide (qp < 0 \/ (ps.length : Int) <= qp))) :: e) (fun e u => e) (fun u => True) (fun _ => rfl) (fun _ => rfl) ?_ ?_
  ·
   refine Vs 5 rfl ?_
   refine V.sp 15 rfl (fun k1_ => ?_) (fun k1_ => ?_)
   ·
    refine Vs 7 rfl ?_
    refine V.meet (()) (Sub.cons (by first | exact yo (by omega) | exact yp (by omega) | exact yq (by omega)) (Sub.of rfl)) (Has.of rfl) (trivial) 0 rfl rfl
   ·
    refine Vs 7 rfl ?_
    refine V.meet (()) (Sub.cons (by first | exact yo (by omega) | exact yp (by omega) | exact yq (by omega)) (Sub.of rfl)) (Has.of rfl) (trivial) 0 rfl rfl
  rintro u _
  refine Vs 1 rfl ?_
  refine V.ite rfl (fun q0 => ?_) (fun q0 => ?_)
  ·
   refine Vs 7 rfl ?_
   refine V.ret1 tr45 rfl (fun w hI => ⟨_, rfl, by rw [zbb v0 q0], hI.k0⟩)
  ·
   obtain ⟨k, rfl⟩ : ∃ k : Nat, qp = (k : Int) := ⟨qp.toNat, by omega⟩
   refine Vs 7 rfl ?_
   obtain ⟨f, he_f⟩ : ∃ z_, ps[k]? = some z_ := ⟨_, List.getElem?_eq_getElem (by omega)⟩
   have hm_f := List.mem_of_getElem? he_f
   obtain ⟨b_f, o_f, c_f, ha_f, _, hc_f, hR_f⟩ := hps.at he_f
   obtain ⟨v1_f, v2_f, v3_f, rfl, hf_f⟩ := hR_f
   obtain ⟨a1_f, n1_f, rfl⟩ := hf_f.vars.form
   obtain ⟨a2_f, n2_f, rfl⟩ := hf_f.hatches.form
   obtain ⟨a3_f, n3_f, rfl⟩ := hf_f.body.form
   refine V.fr 1000 0 rfl rfl hc_f ?_
   refine V.ix 1000 tR23 ts56 rfl ha_f (by omega) (_) (rfl) rfl ?_
   have hzf := hz f hm_f
   rw [zd4 v0 he_f]
   refine Vs 1 rfl ?_
   refine V.alloc 7 tz56 rfl rfl (fun b7 => ?_)
   refine Vs 9 rfl ?_
   refine V.call1 Tryz.call64 rfl (fun w hI => zcZ f hzf pub _ _ _ _ D1 D2 w (Tr1 hI.k0 hf_f) (Tr1 hI.k0 hq)) ?_
   refine Vs 9 rfl ?_
   refine V.ite rfl (fun p0 => ?_) (fun p0 => ?_)
   ·
    refine Vs 8 rfl ?_
    refine V.ret1 tr45 rfl (fun w hI => ⟨_, rfl, by unfold qPC; rw [if_pos p0], hI.k0⟩)
   ·
    have p0 := Decidable.not_not.1 p0
    have vd := (jo hzf (zd0 p0).1).1
    refine Vs 8 rfl ?_
    refine V.call1 Tryz.call65 rfl (fun w hI => zdF f vd a.left _ _ _ _ D1 D w (Tr1 hI.k0 hf_f) (Tr1 hI.k0 ha.left)) ?_
    refine V.ops1 rfl (fun w hI => R.notU rfl (by first | exact za | rfl)) ?_
    refine Vs 2 rfl ?_
    refine V.ite rfl (fun i0 => ?_) (fun i0 => ?_)
    ·
     refine Vs 7 rfl ?_
     refine V.ret1 tr45 rfl (fun w hI => ⟨_, rfl, by unfold qPC; rw [if_neg (not_not_intro p0), if_neg i0], hI.k0⟩)
    ·
     refine Vs 8 rfl ?_
     refine V.ret1 tr45 rfl (fun w hI => ⟨_, rfl, by unfold qPC; rw [if_neg (not_not_intro p0), if_pos (Decidable.not_not.1 i0)], hI.k0⟩)
theorem zdJ {a : Ac} {f : Fl} {y : Int} (hv : ValidA a) (hy : a.left[a.left.length - 1]? = some y) : xV f a.left ↔ y < (spN f : Int) := by
 have hl := hv.l1
 constructor
 . intro h; exact (h y (List.mem_of_getElem? hy)).2
 ·
  intro h x hx
  refine ⟨(hv.rng x hx).1, ?_⟩
  obtain ⟨i, hi⟩ := List.mem_iff_getElem?.1 hx
  obtain ⟨l1, e1⟩ := List.getElem?_eq_some_iff.1 hi
  obtain ⟨l2, e2⟩ := List.getElem?_eq_some_iff.1 hy
  rcases Nat.lt_or_ge i (a.left.length - 1) with h3 | h3
  ·
   have := List.pairwise_iff_getElem.1 hv.asc i (a.left.length - 1) l1 l2 h3
   omega
  ·
   have : i = a.left.length - 1 := by omega
   subst this
   omega
theorem zdK (a : Ac) (ps : List Fl) (hz : ∀ f ∈ ps, SzOk f) (q : Qu) (u1 u2 pv qv : Value) (D D1 D2 : Nat -> Prop) (W : World) (ha : RAc D W a u1 u2) (hps : SlR 3 RPg D1 W pv ps) (hq : SlR 1 zv D2 W qv q.2) :
  Calls Tryz.prog 21 #[.agg #[.int .i64 a.mode, .int .i64 a.budget, .int .i64 a.spent, u1, u2], pv, .agg #[.int .i64 q.1, qv]] W (Ret fun r w' => r = .int .i64 (yW a ps q) /\ Ext W w') := by
 obtain ⟨qp, pub⟩ := q
 dsimp only at hq
 obtain ⟨a1, c1, h1⟩ := ha.left.form
 obtain ⟨a2, c2, h2⟩ := ha.asked.form
 have hal := ha.left
 subst h1 h2
 obtain ⟨ap, cp, rfl⟩ := hps.form
 obtain ⟨aq, cq, rfl⟩ := hq.form
 have hmp := hps.max
 have hma := hal.max
 refine G.in3 Tryz.func21 rfl Tryz.ntmps21 rfl (V.inn ?_)
 refine Vs 2 rfl ?_
 refine V.box 3 rfl rfl (fun b3 => ?_)
 refine V.box 5 rfl rfl (fun b5 => ?_)
 refine Vs 7 rfl ?_
 refine V.call1 Tryz.call23 rfl (fun w hI => zdH a _ _ D w (Tr1 hI.k0 ha)) ?_
 refine V.ops1 rfl (fun w hI => R.notU rfl (by first | exact za | rfl)) ?_
 refine Vs 2 rfl ?_
 refine V.ite rfl (fun v0 => ?_) (fun v0 => ?_)
 ·
  refine Vs 7 rfl ?_
  refine V.ret1 tr21 rfl (fun w hI => ⟨_, rfl, by rw [zba v0], hI.k0⟩)
 ·
  have v0 := Decidable.not_not.1 v0
  have hl1 := v0.l1
  refine Vs 4 rfl ?_
  refine V.cutK (σ := Unit) [1, 3, 5] [3, 5] [3, 5] rfl (fun e u => (21, .bool (decide (qp < 0 \/ (ps.length : Int) <= qp))) :: e) (fun e u => e) (fun u => True) (fun _ => rfl) (fun _ => rfl) ?_ ?_
  ·
   refine Vs 5 rfl ?_
   refine V.sp 15 rfl (fun k1_ => ?_) (fun k1_ => ?_)
   ·
    refine Vs 7 rfl ?_
    refine V.meet (()) (Sub.cons (by first | exact yo (by omega) | exact yp (by omega) | exact yq (by omega)) (Sub.of rfl)) (Has.of rfl) (trivial) 0 rfl rfl
   ·
    refine Vs 7 rfl ?_
    refine V.meet (()) (Sub.cons (by first | exact yo (by omega) | exact yp (by omega) | exact yq (by omega)) (Sub.of rfl)) (Has.of rfl) (trivial) 0 rfl rfl
  rintro u _
  refine Vs 1 rfl ?_
  refine V.ite rfl (fun q0 => ?_) (fun q0 => ?_)
  ·
   refine Vs 7 rfl ?_
   refine V.ret1 tr21 rfl (fun w hI => ⟨_, rfl, by rw [zbb v0 q0], hI.k0⟩)
  ·
   obtain ⟨k, rfl⟩ : ∃ k : Nat, qp = (k : Int) := ⟨qp.toNat, by omega⟩
   refine Vs 7 rfl ?_
   obtain ⟨f, he_f⟩ : ∃ z_, ps[k]? = some z_ := ⟨_, List.getElem?_eq_getElem (by omega)⟩
   have hm_f := List.mem_of_getElem? he_f
   obtain ⟨b_f, o_f, c_f, ha_f, _, hc_f, hR_f⟩ := hps.at he_f
   obtain ⟨v1_f, v2_f, v3_f, rfl, hf_f⟩ := hR_f
   obtain ⟨a1_f, n1_f, rfl⟩ := hf_f.vars.form
   obtain ⟨a2_f, n2_f, rfl⟩ := hf_f.hatches.form
   obtain ⟨a3_f, n3_f, rfl⟩ := hf_f.body.form
   refine V.fr 1000 0 rfl rfl hc_f ?_
   refine V.ix 1000 tR23 ts56 rfl ha_f (by omega) (_) (rfl) rfl ?_
   have hzf := hz f hm_f
   rw [zd4 v0 he_f]
   refine Vs 1 rfl ?_
   refine V.alloc 7 tz56 rfl rfl (fun b7 => ?_)
   refine Vs 9 rfl ?_
   refine V.call1 Tryz.call32 rfl (fun w hI => zeT f hzf pub _ _ _ _ D1 D2 w (Tr1 hI.k0 hf_f) (Tr1 hI.k0 hq)) ?_
   refine Vs 9 rfl ?_
   refine V.ite rfl (fun p0 => ?_) (fun p0 => ?_)
   ·
    refine Vs 8 rfl ?_
    refine V.ret1 tr21 rfl (fun w hI => ⟨_, rfl, by unfold qPC; rw [if_pos p0], hI.k0⟩)
   ·
    have p0 := Decidable.not_not.1 p0
    have vd := (jo hzf (zd0 p0).1).1
    refine Vs 4 rfl ?_
    obtain ⟨y, he_y⟩ : ∃ z_, a.left[a.left.length-1]? = some z_ := ⟨_, List.getElem?_eq_getElem (by omega)⟩
    have hm_y := List.mem_of_getElem? he_y
    obtain ⟨b_y, o_y, c_y, ha_y, _, hc_y, hR_y⟩ := hal.at he_y
    obtain rfl := hR_y
    refine V.fr 2000 0 rfl rfl hc_y ?_
    refine Vw [3, 5, 1000, 7, 2000] [] rfl ?_
    refine Vb [0, 1, 2, 3, 4, 5, 8] 0 (by kernel_rfl) rfl rfl rfl (by omega) ?_
    refine VD.ix 6 2000 tR31 ts3 rfl (by kernel_rfl) rfl ha_y (by omega) (a.left.length - 1) (by omega) rfl ?_
    refine Vd [7] 0 (by kernel_rfl) rfl rfl rfl ?_
    refine VD.call1 9 0 Tryz.call33 rfl (by kernel_rfl) rfl rfl (fun w hI => zb9 f vd _ _ _ D1 w (Tr1 hI.k0 hf_f)) ?_
    have hil := zdJ (f := f) v0 he_y
    refine Vd [10] 0 (by kernel_rfl) rfl rfl rfl ?_
    refine VD.done (by kernel_rfl) ?_
    refine Vs 1 rfl ?_
    refine V.ite rfl (fun i0 => ?_) (fun i0 => ?_)
    ·
     refine Vs 7 rfl ?_
     refine V.ret1 tr21 rfl (fun w hI => ⟨_, rfl, by unfold qPC; rw [if_neg (not_not_intro p0), if_neg (fun h => by have := hil.1 h; omega)], hI.k0⟩)
    ·
     refine Vs 8 rfl ?_
     refine V.ret1 tr21 rfl (fun w hI => ⟨_, rfl, by unfold qPC; rw [if_neg (not_not_intro p0), if_pos (hil.2 (by omega))], hI.k0⟩)
theorem zbX (f : Fl) : (qY f).length = spN f := by simp [qY]
theorem zaM (a : Ac) (hla : a.left.length <= 5000) (f : Fl) (vd : Valid f) (q : Qu) (u1 u2 v1 v2 v3 qv : Value) (D D1 D2 : Nat -> Prop) (W : World) (ha : RAc D W a u1 u2) (hf : RFl D1 W f v1 v2 v3) (hq : SlR 1 zv D2 W qv q.2) (ht : Tab W) :
  Calls Tryz.prog 46 #[.agg #[.int .i64 a.mode, .int .i64 a.budget, .int .i64 a.spent, u1, u2], .agg #[v1, v2, v3], .agg #[.int .i64 q.1, qv]] W (Ret fun r w' => r = .int .i64 (yd a f q) /\ Ext W w') := by
 obtain ⟨a1, c1, h1⟩ := ha.left.form
 obtain ⟨a2, c2, h2⟩ := ha.asked.form
 subst h1 h2
 obtain ⟨aq, cq, rfl⟩ := hq.form
 have hsp := zcV vd
 have hal := zbX f
 refine G.in3 Tryz.func46 rfl Tryz.ntmps46 rfl (V.inn ?_)
 refine Vs 2 rfl ?_
 refine V.box 3 rfl rfl (fun b3 => ?_)
 refine V.box 4 rfl rfl (fun b4 => ?_)
 refine V.box 5 rfl rfl (fun b5 => ?_)
 refine Vs 11 rfl ?_
 refine V.ite rfl (fun m0 => ?_) (fun m0 => ?_)
 ·
  refine Vs 7 rfl ?_
  refine V.call2 Tryz.call51 rfl (fun w hI => jn f vd q.2 a.left v1 v2 v3 _ _ D1 D2 D w hla (Tr1 hI.k0 hf) (Tr1 hI.k0 hq) (Tr1 hI.k0 ha.left) (Tr1 hI.k0 ht)) ?_
  rintro r2 w3 w4 hI3 hk34 hobs hlow2
  obtain ⟨ao, co, rfl⟩ := hobs.form
  refine Vs 6 rfl ?_
  refine V.ret1 Tryz.results46 rfl (fun w hI => ⟨_, rfl, by unfold yd; rw [if_pos m0], hI.k1⟩)
 ·
  refine Vs 7 rfl ?_
  refine V.call1 Tryz.call83 rfl (fun w hI => zd2 a q _ _ _ _ _ _ D D2 w (Tr1 hI.k0 ha) (Tr1 hI.k0 hq)) ?_
  refine Vs 2 rfl ?_
  refine V.ite rfl (fun b0 => ?_) (fun b0 => ?_)
  ·
   refine Vs 7 rfl ?_
   refine V.ret1 Tryz.results46 rfl (fun w hI => ⟨_, rfl, by unfold yd; rw [if_neg m0, if_pos b0], hI.k0⟩)
  ·
   refine Vs 3 rfl ?_
   refine Vw [3, 4, 5] [] rfl ?_
   refine Vd [0, 1, 2, 3] 0 (by kernel_rfl) rfl rfl rfl ?_
   refine VD.call2 4 0 Tryz.call52 rfl (by kernel_rfl) rfl rfl (fun w hI => zhz f vd v1 v2 v3 D1 w (Tr1 hI.k0 hf)) ?_
   rintro r1 w1 w2 hI1 hk12 hall hlow
   obtain ⟨al, cl, rfl⟩ := hall.form
   refine VD.call2 5 1 Tryz.call51 rfl (by kernel_rfl) rfl rfl (fun w hI => jn f vd q.2 (qY f) v1 v2 v3 _ _ D1 D2 _ w (by omega) (Tr1 hI.k1 hf) (Tr1 hI.k1 hq) (hall.keep zb hI.k0 (fun b hb _ hs => by have := hlow b hs; omega)) (Tr1 hI.k1 ht)) ?_
   rintro r2 w3 w4 hI3 hk34 hobs hlow2
   obtain ⟨ao, co, rfl⟩ := hobs.form
   refine Vd [6, 7] 2 (by kernel_rfl) rfl rfl rfl ?_
   refine VD.done (by kernel_rfl) ?_
   refine Vs 2 rfl ?_
   refine V.ret1 Tryz.results46 rfl (fun w hI => ⟨_, rfl, by unfold yd; rw [if_neg m0, if_neg b0], hI.k2⟩)
theorem zdL (a : Ac) (hla : a.left.length <= 5000) (f : Fl) (vd : Valid f) (hr3 : zd 3 f.vars = []) (hs2 : (zj 2 f.vars).isSome = true) (q : Qu) (u1 u2 v1 v2 v3 qv : Value) (D D1 D2 : Nat -> Prop) (W : World) (ha : RAc D W a u1 u2) (hf : RFl D1 W f v1 v2 v3) (hq : SlR 1 zv D2 W qv q.2) :
  Calls Tryz.prog 22 #[.agg #[.int .i64 a.mode, .int .i64 a.budget, .int .i64 a.spent, u1, u2], .agg #[v1, v2, v3], .agg #[.int .i64 q.1, qv]] W (Ret fun r w' => r = .int .i64 (yd a f q) /\ Ext W w') := by
 obtain ⟨a1, c1, h1⟩ := ha.left.form
 obtain ⟨a2, c2, h2⟩ := ha.asked.form
 subst h1 h2
 obtain ⟨aq, cq, rfl⟩ := hq.form
 have hsp := zcV vd
 have hal := zbX f
 refine G.in3 Tryz.func22 rfl Tryz.ntmps22 rfl (V.inn ?_)
 refine Vs 2 rfl ?_
 refine V.box 3 rfl rfl (fun b3 => ?_)
 refine V.box 4 rfl rfl (fun b4 => ?_)
 refine V.box 5 rfl rfl (fun b5 => ?_)
 refine Vs 11 rfl ?_
 refine V.ite rfl (fun m0 => ?_) (fun m0 => ?_)
 ·
  refine Vs 7 rfl ?_
  refine V.call2 Tryz.call35 rfl (fun w hI => qC f vd hr3 hs2 q.2 a.left v1 v2 v3 _ _ D1 D2 D w hla (Tr1 hI.k0 hf) (Tr1 hI.k0 hq) (Tr1 hI.k0 ha.left)) ?_
  rintro r2 w3 w4 hI3 hk34 hobs hlow2
  obtain ⟨ao, co, rfl⟩ := hobs.form
  refine Vs 6 rfl ?_
  refine V.ret1 Tryz.results22 rfl (fun w hI => ⟨_, rfl, by unfold yd; rw [if_pos m0], hI.k1⟩)
 ·
  refine Vs 8 rfl ?_
  refine V.call1 Tryz.call47 rfl (fun w hI => zhi a.asked q _ _ D D2 w (Tr1 hI.k0 ha.asked) (Tr1 hI.k0 hq)) ?_
  refine Vs 2 rfl ?_
  refine V.ite rfl (fun b0 => ?_) (fun b0 => ?_)
  ·
   refine Vs 7 rfl ?_
   refine V.ret1 Tryz.results22 rfl (fun w hI => ⟨_, rfl, by unfold yd; rw [if_neg m0, if_pos b0], hI.k0⟩)
  ·
   refine Vs 3 rfl ?_
   refine Vw [3, 4, 5] [] rfl ?_
   refine Vd [0, 1, 2, 3] 0 (by kernel_rfl) rfl rfl rfl ?_
   refine VD.call2 4 0 Tryz.call48 rfl (by kernel_rfl) rfl rfl (fun w hI => zhg f vd v1 v2 v3 D1 w (Tr1 hI.k0 hf)) ?_
   rintro r1 w1 w2 hI1 hk12 hall hlow
   obtain ⟨al, cl, rfl⟩ := hall.form
   refine VD.call2 5 1 Tryz.call35 rfl (by kernel_rfl) rfl rfl (fun w hI => qC f vd hr3 hs2 q.2 (qY f) v1 v2 v3 _ _ D1 D2 _ w (by omega) (Tr1 hI.k1 hf) (Tr1 hI.k1 hq) (hall.keep zb hI.k0 (fun b hb _ hs => by have := hlow b hs; omega))) ?_
   rintro r2 w3 w4 hI3 hk34 hobs hlow2
   obtain ⟨ao, co, rfl⟩ := hobs.form
   refine Vd [6, 7] 2 (by kernel_rfl) rfl rfl rfl ?_
   refine VD.done (by kernel_rfl) ?_
   refine Vs 2 rfl ?_
   refine V.ret1 Tryz.results22 rfl (fun w hI => ⟨_, rfl, by unfold yd; rw [if_neg m0, if_neg b0], hI.k2⟩)
theorem zd5 (a : Ac) (hla : a.left.length <= 5000) (ps : List Fl) (hz : ∀ f ∈ ps, SzOk f) (q : Qu) (u1 u2 pv qv : Value) (D D1 D2 : Nat -> Prop) (W : World) (ha : RAc D W a u1 u2) (hps : SlR 3 RPg D1 W pv ps) (hq : SlR 1 zv D2 W qv q.2) (ht : Tab W) :
  Calls Tryz.prog 20 #[.agg #[.int .i64 a.mode, .int .i64 a.budget, .int .i64 a.spent, u1, u2], pv, .agg #[.int .i64 q.1, qv]] W (Ret fun r w' => r = .tuple #[.int .i64 (if yW a ps q ≠ 0 then 0 else match zbZ ps q.1 with | none => 0 | some f => yd a f q), .int .i64 (yW a ps q)] /\ Ext W w') := by
 obtain ⟨qp, pub⟩ := q
 dsimp only at hq
 obtain ⟨a1, c1, h1⟩ := ha.left.form
 obtain ⟨a2, c2, h2⟩ := ha.asked.form
 subst h1 h2
 obtain ⟨ap, cp, rfl⟩ := hps.form
 obtain ⟨aq, cq, rfl⟩ := hq.form
 have hmp := hps.max
 refine G.in3 Tryz.func20 rfl Tryz.ntmps20 rfl (V.inn ?_)
 refine Vs 2 rfl ?_
 refine V.box 3 rfl rfl (fun b3 => ?_)
 refine V.box 5 rfl rfl (fun b5 => ?_)
 refine Vs 10 rfl ?_
 refine V.call1 Tryz.call45 rfl (fun w hI => zaL a ps hz (qp, pub) _ _ _ _ D D1 D2 w (Tr1 hI.k0 ha) (Tr1 hI.k0 hps) (Tr1 hI.k0 hq)) ?_
 refine Vs 9 rfl ?_
 refine V.ite rfl (fun e0 => ?_) (fun e0 => ?_)
 ·
  refine Vs 9 rfl ?_
  refine V.ret2 Tryz.results20 rfl rfl (fun w hI => ⟨_, rfl, by rw [if_pos e0], hI.k0⟩)
 ·
  have e0 := Decidable.not_not.1 e0
  obtain ⟨v0, f', hg, ha0, hr0, hi0⟩ := qB e0
  have hq1 : 0 <= qp /\ qp < ps.length := by
   rcases Int.lt_or_le qp 0 with h | h
   . rw [zbW (.inl h)] at hg; cases hg
   ·
    rcases Int.lt_or_le qp ps.length with h' | h'
    . exact ⟨h, h'⟩
    . rw [zbW (.inr h')] at hg; cases hg
  obtain ⟨k, rfl⟩ : ∃ k : Nat, qp = (k : Int) := ⟨qp.toNat, by omega⟩
  refine Vs 3 rfl ?_
  obtain ⟨f, he_f⟩ : ∃ z_, ps[k]? = some z_ := ⟨_, List.getElem?_eq_getElem (by omega)⟩
  have hm_f := List.mem_of_getElem? he_f
  obtain ⟨b_f, o_f, c_f, ha_f, _, hc_f, hR_f⟩ := hps.at he_f
  obtain ⟨v1_f, v2_f, v3_f, rfl, hf_f⟩ := hR_f
  obtain ⟨a1_f, n1_f, rfl⟩ := hf_f.vars.form
  obtain ⟨a2_f, n2_f, rfl⟩ := hf_f.hatches.form
  obtain ⟨a3_f, n3_f, rfl⟩ := hf_f.body.form
  refine V.fr 1000 0 rfl rfl hc_f ?_
  rw [zdI he_f] at hg
  have hfe := Option.some.inj hg
  subst hfe
  have vd := (jo (hz f hm_f) ha0).1
  refine Vw [3, 5, 1000] [] rfl ?_
  refine Vd [0, 1, 2, 3, 6] 0 (by kernel_rfl) rfl rfl rfl ?_
  refine VD.ix 4 1000 tR23 ts56 rfl (by kernel_rfl) rfl ha_f (by omega) (_) (rfl) rfl ?_
  refine Vd [5] 0 (by kernel_rfl) rfl rfl rfl ?_
  refine VD.call1 7 0 Tryz.call46 rfl (by kernel_rfl) rfl rfl (fun w hI => zaM a hla f vd ((k : Int), pub) _ _ _ _ _ _ D D1 D2 w (Tr1 hI.k0 ha) (Tr1 hI.k0 hf_f) (Tr1 hI.k0 hq) (Tr1 hI.k0 ht)) ?_
  refine Vd [8, 9] 0 (by kernel_rfl) rfl rfl rfl ?_
  refine VD.done (by kernel_rfl) ?_
  refine Vs 2 rfl ?_
  refine V.ret2 Tryz.results20 rfl rfl (fun w hI => ⟨_, rfl, by rw [if_neg (not_not_intro e0), e0, zdI he_f], hI.k0⟩)
structure AcB (a : Ac) : Prop where
 ll : a.left.length <= 5000
 al : a.asked.length <= 100000
 ql : ∀ p ∈ a.asked, p.2.length <= 17592186044416
theorem zeX {f : Fl} {pub : List Int} {o : Ob} {l : List Int} {i : Nat} {x : Int} (hx : l[i]? = some x) : yU f pub o (l.take (i + 1)) = yU f pub o (l.take i) ++ (if obN f pub x = o then [x] else []) := by
 unfold yU
 rw [zg hx, List.filter_append]
 congr 1
 by_cases e : obN f pub x = o <;> simp [e]
theorem zgg (f : Fl) (pub : List Int) (o : Ob) (l : List Int) : (yU f pub o l).length <= l.length := List.length_filter_le _ _
abbrev quE (q : Qu) (y : Option Addr × Nat × (Nat -> Prop)) : HE := DaP RQu y.2.2 q [.int .i64 q.1, .slice y.1 q.2.length y.2.1]
theorem ziI {H : Hp} {f : FuncId} {args : Array Value} {q : Qu} {w : World} (k : Nat) (hc : Calls Tryz.prog f args w (Ret fun r w' => (∃ u, r = .agg #[.int .i64 q.1, u] /\ SlR 1 zv (fun b => w.heap.size <= b) w' u q.2) /\ Ext w w')) :
  Calls Tryz.prog f args w (Ret fun r w' => ∃ y : Option Addr × Nat × (Nat -> Prop), r = .agg #[.int .i64 q.1, .slice y.1 q.2.length y.2.1] /\ Hands H [] [(k, quE q y)] w w') := by
 refine hc.mono ?_
 rintro _ w' ⟨_, rfl, ⟨ov, rfl, hd⟩, hk⟩
 obtain ⟨ao, co, rfl⟩ := hd.form
 refine ⟨_, rfl, (ao, co, fun b => w.heap.size <= b /\ b < w'.heap.size), rfl, hk.mono fun q _ h => h.elim, fun x hx => ?_, List.pairwise_singleton _ _⟩
 rw [List.mem_singleton] at hx
 subst hx
 exact ⟨⟨_, rfl, hd.narrow (by omega) yI⟩, DaP.loc, fun _ h => h, fun q hq => ⟨.inr hq.1, hq.2⟩⟩
theorem owf {α : Type} {R : Rel α} {e : TypeId} {kk : Nat} {F : Nat -> Prop} {w : World} {v : Value} {l : List α} (h : (OwP e kk R F v l).holds w) : ∃ ao c, v = .slice ao l.length c := by
 obtain ⟨ao, c, h, _⟩ := OwH.form (show OwH e kk R F w v l from h)
 exact ⟨ao, c, h⟩
theorem zeY (a : Ac) (hB : AcB a) (f : Fl) (vd : Valid f) (q : Qu) (hql : q.2.length <= 17592186044416) (n : Int) (hsn : 0 <= a.spent * n /\ a.spent * n <= 1048576) (o : Ob) (u1 u2 v1 v2 v3 qv ov : Value) (D D1 D2 D3 : Nat -> Prop) (W : World) (ha : RAc D W a u1 u2) (hf : RFl D1 W f v1 v2 v3) (hq : SlR 1 zv D2 W qv q.2) (ho : SlR 1 zv D3 W ov o.1) :
  Calls Tryz.prog 55 #[.agg #[.int .i64 a.mode, .int .i64 a.budget, .int .i64 a.spent, u1, u2], .agg #[v1, v2, v3], .agg #[.int .i64 q.1, qv], .int .i64 n, .agg #[ov, .int .i64 o.2]] W (Ret fun r w' => (∃ r1 r2, r = .agg #[.int .i64 a.mode, .int .i64 a.budget, .int .i64 (a.spent * n), r1, r2] /\ RAc (fun b => W.heap.size <= b) w' (zfW a f q n o) r1 r2) /\ Ext W w') := by
 have hl := ha.left
 have hqs := ha.asked
 obtain ⟨a1, c1, rfl⟩ := hl.form
 obtain ⟨a2, c2, rfl⟩ := hqs.form
 obtain ⟨aq, cq, rfl⟩ := hq.form
 obtain ⟨ao, co, rfl⟩ := ho.form
 have hb1 := hB.ll
 have hb2 := hB.al
 have hml := hl.max
 have hmq := hqs.max
 refine G.in5 Tryz.func55 rfl Tryz.ntmps55 rfl (V.inn ?_)
 refine Vs 2 rfl ?_
 refine V.box 5 rfl rfl (fun b5 => ?_)
 refine V.box 6 rfl rfl (fun b6 => ?_)
 refine V.box 7 rfl rfl (fun b7 => ?_)
 refine V.box 9 rfl rfl (fun b9 => ?_)
 refine V.alloc 10 tz37 rfl rfl (fun b10 => ?_)
 refine Va 12 rfl (by omega) ?_
 refine V.bld [Value.int IntKind.i64 0, Value.int IntKind.i64 0, Value.int IntKind.i64 0, Value.slice none 0 0, Value.slice none 0 0] [(0, 1), (1, 1), (2, 1), (3, 1), (4, 1)] [(0, _), (1, _), (2, _)] rfl rfl (fun _ => by kernel_rfl) ?_
 refine V.alloc 11 tz37 rfl rfl (fun b11 => ?_)
 refine Vs 12 rfl ?_
 refine V.nilrow 900 3 1 rfl ?_
 refine Vs 1 rfl ?_
 refine V.loopK (σ := Nat × Value) [5, 6, 7, 9, 10, 11, 26, 27] [5, 6, 7, 9, 10] [5, 6, 7, 9, 10, 11] rfl (fun e ⟨i, v⟩ => (28, .int .i64 i) :: e) (fun e ⟨i, v⟩ => (11, .own b11 [.int .i64 a.mode, .int .i64 a.budget, .int .i64 (a.spent * n), v, .slice none 0 0] 37) :: (900, .row 3 1 v (yU f q.2 o (a.left.take i)).length ((yU f q.2 o (a.left.take i)).map ze)) :: e) (fun ⟨i, v⟩ => i <= a.left.length) (fun ⟨i, v⟩ => a.left.length - i) ((0, .slice none 0 0)) (Sub.of rfl) (Has.of rfl) (fun _ => rfl) (fun _ => rfl) (fun _ => rfl) (Nat.zero_le _) ?_
 rintro ⟨i, v⟩ hi
 show V _ _ _ _ _ ((28, .int .i64 i) :: _) _ ((11, .own b11 [.int .i64 a.mode, .int .i64 a.budget, .int .i64 (a.spent * n), v, .slice none 0 0] 37) :: (900, .row 3 1 v (yU f q.2 o (a.left.take i)).length ((yU f q.2 o (a.left.take i)).map ze)) :: _) _
 have hlo := zgg f q.2 o (a.left.take i)
 rw [List.length_take] at hlo
 refine Vs 6 rfl ?_
 refine V.ite rfl (fun hlt => ?_) (fun hlt => ?_)
 ·
  refine Vs 6 rfl ?_
  obtain ⟨x, he_x⟩ : ∃ z_, a.left[i]? = some z_ := ⟨_, List.getElem?_eq_getElem (by omega)⟩
  have hm_x := List.mem_of_getElem? he_x
  obtain ⟨b_x, o_x, c_x, ha_x, _, hc_x, hR_x⟩ := hl.at he_x
  obtain rfl := hR_x
  refine V.fr 1000 0 rfl rfl hc_x ?_
  refine V.ix 1000 tR31 ts3 rfl ha_x (by omega) (_) (rfl) rfl ?_
  have hto := zeX (f := f) (pub := q.2) (o := o) he_x
  refine Vs 5 rfl ?_
  refine Vw [5, 6, 7, 9, 10, 11, 1000] [] rfl ?_
  refine Vd [0, 1, 2, 3, 5] 0 (by kernel_rfl) rfl rfl rfl ?_
  refine VD.callMs 4 0 [] (Hn := fun y : Option Addr × Nat × (Nat -> Prop) => [(905, obE (obN f q.2 x) y)]) [(5, some (5, 0)), (6, some (6, 0)), (7, some (7, 0)), (9, some (9, 0)), (10, some (10, 0)), (11, some (11, 0)), (30, some (1000, 0)), (33, some (7, 1))] Tryz.call49 rfl (by kernel_rfl) rfl rfl (fun _ => rfl) (fun _ _ => rfl) (fun _ => rfl) (fun w hI => zhd 905 (qk f vd q.2 x v1 v2 v3 _ D1 D2 w (Tr1 hI.k0 hf) (Tr1 hI.k0 hq))) ?_
  rintro _ ⟨ax, cx, G⟩ rfl
  refine VD.call1 6 0 Tryz.call54 rfl (by kernel_rfl) rfl rfl (fun w hI => xN (obN f q.2 x) o _ _ G D3 w (zeR (hI.at 905 rfl)) (Tr1 hI.k0 ho)) ?_
  refine Vd [7] 0 (by kernel_rfl) rfl rfl rfl ?_
  refine VD.done (by kernel_rfl) ?_
  refine Vs 1 rfl ?_
  refine V.ite rfl (fun c => ?_) (fun c => ?_)
  ·
   rw [if_pos (cmpOb_iff.1 c)] at hto
   refine Vs 4 rfl ?_
   refine V.bs 43 [(0, _)] tR31 ts3 tz3 (by decide) rfl rfl (by kernel_rfl) (fun b43 => ?_)
   refine V.ap 900 43 tu31 Tryz.el3 rfl (by decide) rfl rfl (by omega) (by omega) (fun u900 => ?_)
   refine Vs 1 rfl ?_
   refine V.opened 900 rfl (by omega) ?_
   rintro bq cq2 rfl hcap_900
   refine Va 8 rfl (by omega) ?_
   refine V.heq 900 rfl (e' := .row 3 1 (.slice (some ⟨bq, 0, none⟩) ((yU f q.2 o (a.left.take i)).length + 1) cq2) (yU f q.2 o (a.left.take (i + 1))).length ((yU f q.2 o (a.left.take (i + 1))).map ze)) (by rw [hto, List.length_append, List.map_append]; rfl) ?_
   refine V.back (⟨i + 1, _⟩) (Sub.of rfl) (Has.of rfl) (by omega) (by first | omega | (dsimp only; omega)) 0 rfl rfl
  ·
   rw [if_neg (fun e => c (cmpOb_iff.2 e)), List.append_nil] at hto
   refine V.heq 900 rfl (e' := .row 3 1 v (yU f q.2 o (a.left.take (i + 1))).length ((yU f q.2 o (a.left.take (i + 1))).map ze)) (by rw [hto]) ?_
   refine Va 7 rfl (by omega) ?_
   refine V.back (⟨i + 1, v⟩) (Sub.of rfl) (Has.of rfl) (by omega) (by first | omega | (dsimp only; omega)) 0 rfl rfl
 ·
  obtain rfl : i = a.left.length := by omega
  rw [List.take_length] at *
  refine Vs 14 rfl ?_
  refine V.fact (fun w hI => qG (show w.ownsRow 0 3 1 v _ _ from hI.at 900 rfl)) ?_
  rintro ⟨av, cv, rfl⟩
  refine V.nilrow 901 33 2 rfl ?_
  refine V.chg 901 (e' := OwP 33 2 RQu (fun _ => False) (.slice none 0 0) []) rfl (fun w hI => OwH.nil) OwP.loc (fun _ h => h) (fun q hq => hq.elim id False.elim) ?_
  refine Vs 1 rfl ?_
  refine V.loopK (σ := Nat × Option Addr × Nat × (Nat -> Prop)) [5, 7, 10, 11, 48, 49] [5, 7, 10] [5, 7, 10, 11] rfl (fun e ⟨j, aj, cj, F⟩ => (50, .int .i64 j) :: e) (fun e ⟨j, aj, cj, F⟩ => (11, .own b11 [.int .i64 a.mode, .int .i64 a.budget, .int .i64 (a.spent * n), .slice av (yU f q.2 o a.left).length cv, .slice aj (a.asked.take j).length cj] 37) :: (900, .row 3 1 (.slice av (yU f q.2 o a.left).length cv) (yU f q.2 o a.left).length ((yU f q.2 o a.left).map ze)) :: (901, OwP 33 2 RQu F (.slice aj (a.asked.take j).length cj) (a.asked.take j)) :: e) (fun ⟨j, aj, cj, F⟩ => j <= a.asked.length) (fun ⟨j, aj, cj, F⟩ => a.asked.length - j) ((0, none, 0, fun _ => False)) (Sub.of rfl) (Has.of rfl) (fun _ => rfl) (fun _ => rfl) (fun _ => rfl) (Nat.zero_le _) ?_
  rintro ⟨j, aj, cj, F⟩ hj
  show V _ _ _ _ _ ((50, .int .i64 j) :: _) _ ((11, .own b11 [.int .i64 a.mode, .int .i64 a.budget, .int .i64 (a.spent * n), .slice av (yU f q.2 o a.left).length cv, .slice aj (a.asked.take j).length cj] 37) :: (900, .row 3 1 (.slice av (yU f q.2 o a.left).length cv) (yU f q.2 o a.left).length ((yU f q.2 o a.left).map ze)) :: (901, OwP 33 2 RQu F (.slice aj (a.asked.take j).length cj) (a.asked.take j)) :: _) _
  have hjl : (a.asked.take j).length = j := by rw [List.length_take]; omega
  refine Vs 6 rfl ?_
  refine V.ite rfl (fun hlt2 => ?_) (fun hlt2 => ?_)
  ·
   refine Vs 6 rfl ?_
   obtain ⟨p, he_p⟩ : ∃ z_, a.asked[j]? = some z_ := ⟨_, List.getElem?_eq_getElem (by omega)⟩
   have hm_p := List.mem_of_getElem? he_p
   obtain ⟨b_p, o_p, c_p, ha_p, _, hc_p, hR_p⟩ := hqs.at he_p
   obtain ⟨v1_p, rfl, hs_p⟩ := hR_p
   obtain ⟨a1_p, n1_p, rfl⟩ := hs_p.form
   refine V.fr 2000 0 rfl rfl hc_p ?_
   refine V.ix 2000 tR24 ts33 rfl ha_p (by omega) (_) (rfl) rfl ?_
   have hpl := hB.ql p hm_p
   have htj := zg he_p
   refine Vs 1 rfl ?_
   refine V.alloc 15 tz33 rfl rfl (fun b15 => ?_)
   refine Vs 3 rfl ?_
   refine Vw [5, 7, 10, 11, 2000, 15] [7] rfl ?_
   refine Vd [0, 1, 2] 0 (by kernel_rfl) rfl rfl rfl ?_
   refine VD.callMs 3 0 [] (Hn := fun y : Option Addr × Nat × (Nat -> Prop) => [(906, quE p y)]) [(5, some (5, 0)), (7, some (7, 0)), (10, some (10, 0)), (11, some (11, 0)), (15, some (15, 0)), (52, some (2000, 0)), (54, some (11, 4))] Tryz.call69 rfl (by kernel_rfl) rfl rfl (fun _ => rfl) (fun _ _ => rfl) (fun _ => rfl) (fun w hI => ziI 906 (zd3 p hpl _ D w (Tr1 hI.k0 hs_p))) ?_
   rintro _ ⟨ax, cx, G⟩ rfl
   refine VD.bs 4 58 0 [(0, _)] tR24 ts33 tz33 (by decide) rfl (by kernel_rfl) rfl rfl (by kernel_rfl) (fun b58 => ?_)
   refine VD.opMs 5 0 [901, 906] (Hn := fun u => [(901, OwP 33 2 RQu (fun q => F q \/ G q) u (a.asked.take j ++ [p]))]) (u := fun u => u) [(5, some (5, 0)), (7, some (7, 0)), (10, some (10, 0)), (11, some (11, 0)), (15, some (15, 0)), (52, some (2000, 0)), (54, some (11, 4))] rfl (by kernel_rfl) rfl rfl (fun _ => rfl) (fun _ => rfl) (fun _ => rfl) (fun w hI => M.apOw 901 906 58 hI rfl rfl rfl rfl tu24 Tryz.el33 rfl (by decide) rfl rfl rfl (fun D x cs h => zhw D x cs h) (by omega) (by omega)) (fun u901 => ?_)
   refine VD.fact (p := ∃ ao c, u901 = .slice ao (a.asked.take j ++ [p]).length c) (fun w hI => owf (hI.at 901 rfl)) (fun hu => ?_)
   obtain ⟨an, cn, rfl⟩ := hu
   refine Vd [6] 0 (by kernel_rfl) rfl rfl rfl ?_
   refine Vl 7 rfl (by kernel_rfl) rfl ?_
   refine VDx.done (by kernel_rfl) ?_
   refine Va 6 rfl (by omega) ?_
   rw [<- htj] at *
   refine V.back (⟨j + 1, an, cn, fun q => F q \/ G q⟩) (Sub.of rfl) (Has.of rfl) (by omega) (by first | omega | (dsimp only; omega)) 0 rfl rfl
  ·
   obtain rfl : j = a.asked.length := by omega
   rw [List.take_length] at *
   refine Vs 10 rfl ?_
   refine V.call1 Tryz.call83 rfl (fun w hI => zd2 a q _ _ _ _ _ _ D D2 w (Tr1 hI.k0 ha) (Tr1 hI.k0 hq)) ?_
   refine V.ops1 rfl (fun w hI => R.notU rfl (by first | exact za | rfl)) ?_
   refine Vs 2 rfl ?_
   refine V.ite rfl (fun b0 => ?_) (fun b0 => ?_)
   ·
    have hA : zfW a f q n o = ⟨a.mode, a.budget, a.spent * n, yU f q.2 o a.left, a.asked ++ [q]⟩ := by unfold zfW; rw [if_neg b0]
    rw [hA]
    refine Vw [5, 7, 10, 11] [7] rfl ?_
    refine Vd [0, 1, 2] 0 (by kernel_rfl) rfl rfl rfl ?_
    refine VD.callMs 3 0 [] (Hn := fun y : Option Addr × Nat × (Nat -> Prop) => [(906, quE q y)]) [(5, some (5, 0)), (7, some (7, 0)), (10, some (10, 0)), (11, some (11, 0)), (66, some (11, 4))] Tryz.call69 rfl (by kernel_rfl) rfl rfl (fun _ => rfl) (fun _ _ => rfl) (fun _ => rfl) (fun w hI => ziI 906 (zd3 q hql _ D2 w (Tr1 hI.k0 hq))) ?_
    rintro _ ⟨ax, cx, G⟩ rfl
    refine VD.bs 4 70 0 [(0, _)] tR24 ts33 tz33 (by decide) rfl (by kernel_rfl) rfl rfl (by kernel_rfl) (fun b70 => ?_)
    refine VD.opMs 5 0 [901, 906] (Hn := fun u => [(901, OwP 33 2 RQu (fun q => F q \/ G q) u (a.asked ++ [q]))]) (u := fun u => u) [(5, some (5, 0)), (7, some (7, 0)), (10, some (10, 0)), (11, some (11, 0)), (66, some (11, 4))] rfl (by kernel_rfl) rfl rfl (fun _ => rfl) (fun _ => rfl) (fun _ => rfl) (fun w hI => M.apOw 901 906 70 hI rfl rfl rfl rfl tu24 Tryz.el33 rfl (by decide) rfl rfl rfl (fun D x cs h => zhw D x cs h) (by omega) (by omega)) (fun u901 => ?_)
    refine VD.fact (p := ∃ ao c, u901 = .slice ao (a.asked ++ [q]).length c) (fun w hI => owf (hI.at 901 rfl)) (fun hu => ?_)
    obtain ⟨an, cn, rfl⟩ := hu
    refine Vd [6] 0 (by kernel_rfl) rfl rfl rfl ?_
    refine Vl 7 rfl (by kernel_rfl) rfl ?_
    refine VDx.done (by kernel_rfl) ?_
    refine Vs 8 rfl ?_
    refine V.retC Tryz.results55 tg37 ts37 rfl rfl rfl (fun w hI => ⟨_, rfl, ⟨_, _, rfl, ⟨SlR.ofRow1 ze (fun _ _ => rfl) (hI.at 900 rfl) (fun b hb => hI.own 900 0 rfl rfl b hb), (show OwH _ _ _ _ _ _ _ from hI.at 901 rfl).sl (by omega) (fun q hq => hI.own 901 0 rfl rfl q hq)⟩⟩, hI.k0⟩)
   ·
    have hA : zfW a f q n o = ⟨a.mode, a.budget, a.spent * n, yU f q.2 o a.left, a.asked⟩ := by unfold zfW; rw [if_pos (Decidable.not_not.1 b0)]
    rw [hA]
    refine Vs 9 rfl ?_
    refine V.retC Tryz.results55 tg37 ts37 rfl rfl rfl (fun w hI => ⟨_, rfl, ⟨_, _, rfl, ⟨SlR.ofRow1 ze (fun _ _ => rfl) (hI.at 900 rfl) (fun b hb => hI.own 900 0 rfl rfl b hb), (show OwH _ _ _ _ _ _ _ from hI.at 901 rfl).sl (by omega) (fun q hq => hI.own 901 0 rfl rfl q hq)⟩⟩, hI.k0⟩)
end Go.Proofs.YtbkhagigkglgoaaGreatDoor
namespace Go.GL
theorem V.ret5 {P : Program} {fn : Func} {R : Ending -> World -> Prop} {n : Nat} {env : Env} {A : Tgs} {H : Hp} {Bs : yk} {p s1 s2 q s3 : Tmp} {ty ty2 : TypeId} {k off z k2 off2 z2 : Nat} {cs l cs2 l2 : List Value} {x1 x2 x3 : Value} (h : fn.results = #[.cell p ty, .tmp s1, .tmp s2, .cell q ty2, .tmp s3]) (ht : ∀ w, (isAgg ty).run P w = .ok true w) (hz : ∀ w, (sizeOf ty).run P w = .ok z w) (ht2 : ∀ w, (isAgg ty2).run P w = .ok true w) (hz2 : ∀ w, (sizeOf ty2).run P w = .ok z2 w)
  (hn : (tgt A p, get env s1, get env s2, tgt A q, get env s3) = (some (k, off), some x1, some x2, some (k2, off2), some x3)) (hc : qo H k = some cs) (hs : zhp z off cs = some l) (hc2 : qo H k2 = some cs2) (hs2 : zhp z2 off2 cs2 = some l2) (hR : ∀ w, VI Bs H w -> R (.returned (.tuple #[.agg l.toArray, x1, x2, .agg l2.toArray, x3])) w) : V P n (bodyPost P fn R) [] (.e .ret) env A H Bs := fun hA w hw => by
 simp only [Prod.mk.injEq] at hn
 obtain ⟨n1, n2, n3, n4, n5⟩ := hn
 obtain ⟨a, h1, h2⟩ := kT hA hw n1 hc hs ht hz
 obtain ⟨b, h3, h4⟩ := kT hA hw n4 hc2 hs2 ht2 hz2
 intro a' ha
 have g1 := ha.get p _ h1
 have g2 := ha.get s1 _ n2
 have g3 := ha.get s2 _ n3
 have g4 := ha.get q _ h3
 have g5 := ha.get s3 _ n5
 refine bodyPost_ret (v := .tuple #[.agg l.toArray, x1, x2, .agg l2.toArray, x3]) ?_ ha.defs (hR w hw)
 simp [results, h, Array.getD_eq_getD_getElem?, g1, g2, g3, g4, g5, asAddr, h2, h4]
theorem RAc.narrow {D : Nat -> Prop} {w : World} {a : Ac} {v1 v2 : Value} (h : RAc D w a v1 v2) : RAc (fun b => D b /\ b < w.heap.size) w a v1 v2 := ⟨h.left.narrow (by omega) yI, h.asked.narrow (by omega) zcK⟩
theorem VI.hs {Bs : yk} {H : Hp} {w W : World} (hI : VI Bs H w) (hp : (W, fun _ => False) ∈ Bs) {q : Nat} (h : HS H q) : W.heap.size <= q := by
 obtain ⟨x, hx, hq⟩ := h
 exact ((hI.base _ hp).2 x hx q hq).elim False.elim id
end Go.GL
namespace Go.Proofs.YtbkhagigkglgoaaGreatDoor
open Go.GL
def zgw (m b n : Int) : Int := if ¬ (m = 0 \/ m = 1) then 1 else if b < 1 \/ 1048576 < b \/ n < 1 \/ 4096 < n then 3 else 0
def qD (n : Nat) : List Int := (List.range n).map fun i : Nat => (i : Int)
def zgx (m b n : Int) : Ac := if zgw m b n = 0 then ⟨m, b, 1, qD n.toNat, []⟩ else ac0
theorem zeZ {n i : Nat} (h : i < n) : (qD n)[i]? = some (i : Int) := by simp [qD, List.getElem?_range h]
theorem zf0 (n : Nat) : (qD n).length = n := by simp [qD]
theorem ziJ (m b n : Int) (W : World) : Calls Tryz.prog 14 #[.int .i64 m, .int .i64 b, .int .i64 n] W (Ret fun r w' => (∃ r1 r2, r = .tuple #[.agg #[.int .i64 (zgx m b n).mode, .int .i64 (zgx m b n).budget, .int .i64 (zgx m b n).spent, r1, r2], .int .i64 (zgw m b n)] /\ RAc (fun q => W.heap.size <= q) w' (zgx m b n) r1 r2 /\ (zgw m b n ≠ 0 -> r1 = .slice none 0 0 /\ r2 = .slice none 0 0)) /\ Ext W w') := by
 refine G.in3 Tryz.func14 rfl Tryz.ntmps14 rfl (V.inn ?_)
 refine Vs 2 rfl ?_
 refine V.alloc 6 tz37 rfl rfl (fun b6 => ?_)
 refine Vs 5 rfl ?_
 refine V.cutK (σ := Unit) [0, 1, 2, 6] [6] [6] rfl (fun e u => (15, .bool (decide (¬ (m = 0 \/ m = 1)))) :: e) (fun e u => e) (fun u => True) (fun _ => rfl) (fun _ => rfl) ?_ ?_
 ·
  refine Vs 4 rfl ?_
  refine V.sp 12 rfl (fun k1_ => ?_) (fun k1_ => ?_)
  ·
   refine Vs 4 rfl ?_
   refine V.meet (()) (Sub.cons (by first | exact yo (by omega) | exact yp (by omega) | exact yq (by omega)) (Sub.of rfl)) (Has.of rfl) (trivial) 0 rfl rfl
  ·
   refine Vs 4 rfl ?_
   refine V.meet (()) (Sub.cons (by first | exact yo (by omega) | exact yp (by omega) | exact yq (by omega)) (Sub.of rfl)) (Has.of rfl) (trivial) 0 rfl rfl
 rintro u _
 refine Vs 1 rfl ?_
 refine V.ite rfl (fun c1 => ?_) (fun c1 => ?_)
 ·
  have hc : zgw m b n = 1 := if_pos c1
  have ha : zgx m b n = ac0 := if_neg (by rw [hc]; decide)
  refine Vs 2 rfl ?_
  refine V.bld [Value.int IntKind.i64 0, Value.int IntKind.i64 0, Value.int IntKind.i64 0, Value.slice none 0 0, Value.slice none 0 0] [(0, 1), (1, 1), (2, 1), (3, 1), (4, 1)] [] rfl rfl (fun _ => by kernel_rfl) ?_
  refine Vs 6 rfl ?_
  refine V.retCT Tryz.results14 tg37 ts37 rfl rfl rfl rfl (fun w hI => ⟨_, rfl, ⟨_, _, by rw [hc, ha]; rfl, by rw [ha]; exact ⟨SlR.nil, SlR.nil⟩, fun _ => ⟨rfl, rfl⟩⟩, hI.k0⟩)
 ·
  refine Vs 4 rfl ?_
  refine V.cutK (σ := Unit) [0, 1, 2, 6] [6] [6] rfl (fun e u => (30, .bool (decide (b < 1 \/ 1048576 < b \/ n < 1 \/ 4096 < n))) :: e) (fun e u => e) (fun u => True) (fun _ => rfl) (fun _ => rfl) ?_ ?_
  ·
   refine Vs 4 rfl ?_
   refine V.sp 19 rfl (fun k1_ => ?_) (fun k1_ => ?_)
   ·
    refine Vs 12 rfl ?_
    refine V.meet (()) (Sub.cons (by first | exact yo (by omega) | exact yp (by omega) | exact yq (by omega)) (Sub.of rfl)) (Has.of rfl) (trivial) 0 rfl rfl
   ·
    refine Vs 4 rfl ?_
    refine V.sp 23 rfl (fun k2_ => ?_) (fun k2_ => ?_)
    ·
     refine Vs 8 rfl ?_
     refine V.meet (()) (Sub.cons (by first | exact yo (by omega) | exact yp (by omega) | exact yq (by omega)) (Sub.of rfl)) (Has.of rfl) (trivial) 0 rfl rfl
    ·
     refine Vs 4 rfl ?_
     refine V.sp 27 rfl (fun k3_ => ?_) (fun k3_ => ?_)
     ·
      refine Vs 4 rfl ?_
      refine V.meet (()) (Sub.cons (by first | exact yo (by omega) | exact yp (by omega) | exact yq (by omega)) (Sub.of rfl)) (Has.of rfl) (trivial) 0 rfl rfl
     ·
      refine Vs 4 rfl ?_
      refine V.meet (()) (Sub.cons (by first | exact yo (by omega) | exact yp (by omega) | exact yq (by omega)) (Sub.of rfl)) (Has.of rfl) (trivial) 0 rfl rfl
  rintro u _
  refine Vs 1 rfl ?_
  refine V.ite rfl (fun c2 => ?_) (fun c2 => ?_)
  ·
   have hc : zgw m b n = 3 := by unfold zgw; rw [if_neg c1, if_pos c2]
   have ha : zgx m b n = ac0 := if_neg (by rw [hc]; decide)
   refine Vs 2 rfl ?_
   refine V.bld [Value.int IntKind.i64 0, Value.int IntKind.i64 0, Value.int IntKind.i64 0, Value.slice none 0 0, Value.slice none 0 0] [(0, 1), (1, 1), (2, 1), (3, 1), (4, 1)] [] rfl rfl (fun _ => by kernel_rfl) ?_
   refine Vs 6 rfl ?_
   refine V.retCT Tryz.results14 tg37 ts37 rfl rfl rfl rfl (fun w hI => ⟨_, rfl, ⟨_, _, by rw [hc, ha]; rfl, by rw [ha]; exact ⟨SlR.nil, SlR.nil⟩, fun _ => ⟨rfl, rfl⟩⟩, hI.k0⟩)
  ·
   have hc : zgw m b n = 0 := by unfold zgw; rw [if_neg c1, if_neg c2]
   have ha : zgx m b n = ⟨m, b, 1, qD n.toNat, []⟩ := if_pos hc
   obtain ⟨k, rfl⟩ : ∃ k : Nat, n = (k : Int) := ⟨n.toNat, by omega⟩
   rw [Int.toNat_natCast] at ha
   have hrl := zf0 k
   refine Vs 6 rfl ?_
   refine V.bld [Value.int IntKind.i64 0, Value.int IntKind.i64 0, Value.int IntKind.i64 0, Value.slice none 0 0, Value.slice none 0 0] [(0, 1), (1, 1), (2, 1), (3, 1), (4, 1)] [(0, _), (1, _), (2, _)] rfl rfl (fun _ => by kernel_rfl) ?_
   refine V.alloc 8 tz37 rfl rfl (fun b8 => ?_)
   refine Vs 10 rfl ?_
   refine V.nilrow 900 3 1 rfl ?_
   refine Vs 1 rfl ?_
   refine V.loopK (σ := Nat × Value) [6, 8, 35] [6] [6, 8] rfl (fun e ⟨i, v⟩ => (36, .int .i64 i) :: e) (fun e ⟨i, v⟩ => (8, .own b8 [.int .i64 m, .int .i64 b, .int .i64 1, v, .slice none 0 0] 37) :: (900, .row 3 1 v i (((qD k).take i).map ze)) :: e) (fun ⟨i, v⟩ => i <= k) (fun ⟨i, v⟩ => k - i) ((0, .slice none 0 0)) (Sub.of rfl) (Has.of rfl) (fun _ => rfl) (fun _ => rfl) (fun _ => rfl) (Nat.zero_le _) ?_
   rintro ⟨i, v⟩ hi
   show V _ _ _ _ _ ((36, .int .i64 i) :: _) _ ((8, .own b8 [.int .i64 m, .int .i64 b, .int .i64 1, v, .slice none 0 0] 37) :: (900, .row 3 1 v i (((qD k).take i).map ze)) :: _) _
   refine Vs 6 rfl ?_
   refine V.ite rfl (fun hlt => ?_) (fun hlt => ?_)
   ·
    have zm := zeZ (n := k) (i := i) (by omega)
    refine Vs 14 rfl ?_
    refine V.bs 42 [(0, _)] tR31 ts3 tz3 (by decide) rfl rfl (by kernel_rfl) (fun b42 => ?_)
    refine V.ap 900 42 tu31 Tryz.el3 rfl (by decide) rfl rfl (by omega) (by omega) (fun u900 => ?_)
    refine Vs 1 rfl ?_
    refine V.opened 900 rfl (by omega) ?_
    rintro bq cq rfl hcap_900
    refine Va 8 rfl (by omega) ?_
    refine V.heq 900 rfl (e' := .row 3 1 (.slice (some ⟨bq, 0, none⟩) (i + 1) cq) (i + 1) (((qD k).take (i + 1)).map ze)) (by rw [List.take_add_one, zm, List.map_append]; rfl) ?_
    refine V.back (⟨i + 1, _⟩) (Sub.of rfl) (Has.of rfl) (by omega) (by first | omega | (dsimp only; omega)) 0 rfl rfl
   ·
    obtain rfl : i = k := by omega
    refine Vs 6 rfl ?_
    refine V.fact (fun w hI => qG (show w.ownsRow 0 3 1 v _ _ from hI.at 900 rfl)) ?_
    rintro ⟨av, cv, rfl⟩
    refine V.heq 900 rfl (e' := .row 3 1 (.slice av i cv) (qD i).length ((qD i).map ze)) (by rw [hrl, List.take_of_length_le (by rw [hrl]; exact Nat.le_refl _)]) ?_
    refine Vs 7 rfl ?_
    refine V.retCT Tryz.results14 tg37 ts37 rfl rfl rfl rfl (fun w hI => ⟨_, rfl, ⟨_, _, by rw [hc, ha], by rw [ha]; exact ⟨SlR.ofRow1 ze (fun _ _ => rfl) (by have := hI.at 900 rfl; exact this) (fun b hb => hI.own 900 0 rfl rfl b hb), SlR.nil⟩, fun h => absurd hc h⟩, hI.k0⟩)
theorem zhj (x o : Ob) (u ov : Value) (b : Nat) (D D' : Nat -> Prop) (W : World) (hx : SlR 1 zv D W u x.1) (ho : SlR 1 zv D' W ov o.1) (hB : Cells W b 0 [ov, .int .i64 o.2]) :
  Calls Tryz.prog 53 #[.agg #[u, .int .i64 x.2], .pointer (some ⟨b, 0, none⟩)] W (Ret fun r w' => r = .bool (decide (x = o)) /\ Ext W w') := by
 obtain ⟨a1, c1, rfl⟩ := hx.form
 obtain ⟨a2, c2, rfl⟩ := ho.form
 refine G.in2 Tryz.func53 rfl Tryz.ntmps53 rfl (V.inn ?_)
 refine V.frS 900 0 rfl rfl (fun h => h) hB ?_
 refine V.tag 1 900 0 rfl rfl ?_
 refine Vs 2 rfl ?_
 refine V.box 2 rfl rfl (fun b2 => ?_)
 refine Vs 7 rfl ?_
 refine V.call1 Tryz.call54 rfl (fun w hI => xN x o _ _ D D' w (Tr1 hI.k0 hx) (Tr1 hI.k0 ho)) ?_
 refine Vs 5 rfl ?_
 refine V.ret1 Tryz.results53 rfl (fun w hI => ⟨_, rfl, by rw [decide_eq_decide.2 (cmpOb_iff (x := x) (y := o))], hI.k0⟩)
theorem zer {ps : List Fl} {i : Int} {f : Fl} (h : zbZ ps i = some f) : ∃ k : Nat, i = (k : Int) /\ ps[k]? = some f := by
 unfold zbZ at h
 split at h
 . cases h
 . exact ⟨i.toNat, by omega, h⟩
theorem zhk {a : Ac} {ps : List Fl} {q : Qu} {s : Int} (h : yW a ps q ≠ 0) : zcP a ps q s = zi5 (yW a ps q) := if_pos h
theorem zgh {a : Ac} {ps : List Fl} {q : Qu} {s : Int} (h : yW a ps q = 0) (hs : s ∉ a.left) : zcP a ps q s = zi5 11 := by unfold zcP; rw [if_neg (not_not_intro h), if_pos hs]
theorem zgi {a : Ac} {ps : List Fl} {q : Qu} {s : Int} {f : Fl} (h : yW a ps q = 0) (hs : s ∈ a.left) (hf : zbZ ps q.1 = some f) (hn : a.budget.tdiv a.spent < yd a f q) : zcP a ps q s = zi5 18 := by
 unfold zcP
 rw [if_neg (not_not_intro h), if_neg (not_not_intro hs), hf]
 exact if_pos hn
theorem zhl {a : Ac} {ps : List Fl} {q : Qu} {s : Int} {f : Fl} (h : yW a ps q = 0) (hs : s ∈ a.left) (hf : zbZ ps q.1 = some f) (hn : ¬ a.budget.tdiv a.spent < yd a f q) : zcP a ps q s = ziE a f q s := by
 unfold zcP
 rw [if_neg (not_not_intro h), if_neg (not_not_intro hs), hf]
 exact if_neg hn
theorem zgj (a : Ac) (hA : AcB a) (ps : List Fl) (hz : ∀ f ∈ ps, SzOk f) (q : Qu) (hql : q.2.length <= 17592186044416) (s : Int) (u1 u2 pv qv : Value) (D D1 D2 : Nat -> Prop) (W : World) (ha : RAc D W a u1 u2) (hps : SlR 3 RPg D1 W pv ps) (hq : SlR 1 zv D2 W qv q.2) (ht : Tab W) :
  Calls Tryz.prog 24 #[.agg #[.int .i64 a.mode, .int .i64 a.budget, .int .i64 a.spent, u1, u2], pv, .agg #[.int .i64 q.1, qv], .int .i64 s] W (Ret fun r w' => (∃ r1 r2 ov, r = .tuple #[.agg #[.int .i64 (zcP a ps q s).ac.mode, .int .i64 (zcP a ps q s).ac.budget, .int .i64 (zcP a ps q s).ac.spent, r1, r2], .int .i64 (zcP a ps q s).answer, .int .i64 (zcP a ps q s).charge, .agg #[ov, .int .i64 (zcP a ps q s).ob.2], .int .i64 (zcP a ps q s).code] /\ RAc (fun b => W.heap.size <= b) w' (zcP a ps q s).ac r1 r2 /\ SlR 1 zv (fun b => W.heap.size <= b) w' ov (zcP a ps q s).ob.1) /\ Ext W w') := by
 obtain ⟨qp, pub⟩ := q
 dsimp only at hq hql
 obtain ⟨a1, c1, h1⟩ := ha.left.form
 obtain ⟨a2, c2, h2⟩ := ha.asked.form
 subst h1 h2
 obtain ⟨ap, cp, rfl⟩ := hps.form
 obtain ⟨aq, cq, rfl⟩ := hq.form
 have hmp := hps.max
 refine G.in4 Tryz.func24 rfl Tryz.ntmps24 rfl (V.inn ?_)
 refine Vs 2 rfl ?_
 refine V.box 4 rfl rfl (fun b4 => ?_)
 refine V.box 6 rfl rfl (fun b6 => ?_)
 refine V.alloc 8 tz37 rfl rfl (fun b8 => ?_)
 refine Vs 2 rfl ?_
 refine V.alloc 11 tz60 rfl rfl (fun b11 => ?_)
 refine Vs 9 rfl ?_
 refine V.call1 Tryz.call45 rfl (fun w hI => zaL a ps hz (qp, pub) _ _ _ _ D D1 D2 w (Tr1 hI.k0 ha) (Tr1 hI.k0 hps) (Tr1 hI.k0 hq)) ?_
 refine Vs 9 rfl ?_
 refine V.ite rfl (fun e0 => ?_) (fun e0 => ?_)
 ·
  rw [zhk e0]
  refine Vs 2 rfl ?_
  refine V.bld [Value.int IntKind.i64 0, Value.int IntKind.i64 0, Value.int IntKind.i64 0, Value.slice none 0 0, Value.slice none 0 0] [(0, 1), (1, 1), (2, 1), (3, 1), (4, 1)] [] rfl rfl (fun _ => by kernel_rfl) ?_
  refine V.bld [Value.slice none 0 0, Value.int IntKind.i64 0] [(0, 1), (1, 1)] [] rfl rfl (fun _ => by kernel_rfl) ?_
  refine Vs 10 rfl ?_
  refine V.ret5 tr24 tg37 ts37 tg60 ts60 rfl rfl rfl rfl rfl (fun w hI => ⟨_, rfl, ⟨_, _, _, rfl, ⟨SlR.nil, SlR.nil⟩, SlR.nil⟩, hI.k0⟩)
 ·
  have e0 := Decidable.not_not.1 e0
  obtain ⟨v0, f', hg, ha0, hr0, hi0⟩ := qB e0
  refine Vs 8 rfl ?_
  refine V.call1 Tryz.call25 rfl (fun w hI => zcW a.left s _ D w (Tr1 hI.k0 ha.left)) ?_
  refine V.ops1 rfl (fun w hI => R.notU rfl (by first | exact za | rfl)) ?_
  refine Vs 2 rfl ?_
  refine V.ite rfl (fun l0 => ?_) (fun l0 => ?_)
  ·
   rw [zgh e0 l0]
   refine Vs 2 rfl ?_
   refine V.bld [Value.int IntKind.i64 0, Value.int IntKind.i64 0, Value.int IntKind.i64 0, Value.slice none 0 0, Value.slice none 0 0] [(0, 1), (1, 1), (2, 1), (3, 1), (4, 1)] [] rfl rfl (fun _ => by kernel_rfl) ?_
   refine V.bld [Value.slice none 0 0, Value.int IntKind.i64 0] [(0, 1), (1, 1)] [] rfl rfl (fun _ => by kernel_rfl) ?_
   refine Vs 9 rfl ?_
   refine V.ret5 tr24 tg37 ts37 tg60 ts60 rfl rfl rfl rfl rfl (fun w hI => ⟨_, rfl, ⟨_, _, _, rfl, ⟨SlR.nil, SlR.nil⟩, SlR.nil⟩, hI.k0⟩)
  ·
   have l0 := Decidable.not_not.1 l0
   obtain ⟨k, hk, hgk⟩ := zer hg
   dsimp only at hk
   subst hk
   have hkl := (List.getElem?_eq_some_iff.1 hgk).1
   refine Vs 7 rfl ?_
   obtain ⟨f, he_f⟩ : ∃ z_, ps[k]? = some z_ := ⟨_, List.getElem?_eq_getElem (by omega)⟩
   have hm_f := List.mem_of_getElem? he_f
   obtain ⟨b_f, o_f, c_f, ha_f, _, hc_f, hR_f⟩ := hps.at he_f
   obtain ⟨v1_f, v2_f, v3_f, rfl, hf_f⟩ := hR_f
   obtain ⟨a1_f, n1_f, rfl⟩ := hf_f.vars.form
   obtain ⟨a2_f, n2_f, rfl⟩ := hf_f.hatches.form
   obtain ⟨a3_f, n3_f, rfl⟩ := hf_f.body.form
   refine V.fr 1000 0 rfl rfl hc_f ?_
   refine V.ix 1000 tR23 ts56 rfl ha_f (by omega) (_) (rfl) rfl ?_
   rw [he_f] at hgk
   have hfe := Option.some.inj hgk
   subst hfe
   have vd := (jo (hz f hm_f) ha0).1
   have b1 := v0.b1
   have b2 := v0.b2
   have s1 := v0.s1
   have s2 := v0.s2
   have hsp := zcV vd
   have hal := zbX f
   refine Vs 1 rfl ?_
   refine V.alloc 14 tz56 rfl rfl (fun b14 => ?_)
   refine Vs 8 rfl ?_
   refine V.call1 Tryz.call46 rfl (fun w hI => zaM a hA.ll f vd ((k : Int), pub) _ _ _ _ _ _ D D1 D2 w (Tr1 hI.k0 ha) (Tr1 hI.k0 hf_f) (Tr1 hI.k0 hq) (Tr1 hI.k0 ht)) ?_
   refine Vs 11 rfl ?_
   refine V.ops1 rfl (fun w hI => R.quo rfl rfl (by omega) (by omega)) ?_
   refine Vs 3 rfl ?_
   refine V.ite rfl (fun n0 => ?_) (fun n0 => ?_)
   ·
    rw [zgi e0 l0 hg n0]
    refine Vs 2 rfl ?_
    refine V.bld [Value.int IntKind.i64 0, Value.int IntKind.i64 0, Value.int IntKind.i64 0, Value.slice none 0 0, Value.slice none 0 0] [(0, 1), (1, 1), (2, 1), (3, 1), (4, 1)] [] rfl rfl (fun _ => by kernel_rfl) ?_
    refine V.bld [Value.slice none 0 0, Value.int IntKind.i64 0] [(0, 1), (1, 1)] [] rfl rfl (fun _ => by kernel_rfl) ?_
    refine Vs 9 rfl ?_
    refine V.ret5 tr24 tg37 ts37 tg60 ts60 rfl rfl rfl rfl rfl (fun w hI => ⟨_, rfl, ⟨_, _, _, rfl, ⟨SlR.nil, SlR.nil⟩, SlR.nil⟩, hI.k0⟩)
   ·
    rw [zhl e0 l0 hg n0]
    have hpp := zcQ (q := ((k : Int), pub)) v0 hi0
    have hsn := zaK (b := a.budget) (s := a.spent) (p := yd a f ((k : Int), pub)) (by omega) s1 (by omega)
    have hsn0 : 0 <= a.spent * yd a f ((k : Int), pub) := Int.mul_nonneg (by omega) (by omega)
    refine Vs 8 rfl ?_
    refine V.callMs [] (Hn := fun y : Option Addr × Nat × (Nat -> Prop) => [(905, obE (obN f pub s) y)]) [(4, some (4, 0)), (6, some (6, 0)), (8, some (8, 0)), (11, some (11, 0)), (14, some (14, 0)), (27, some (4, 3)), (35, some (6, 0)), (37, some (1000, 0)), (44, some (4, 1)), (46, some (4, 2)), (53, some (6, 1))] Tryz.call49 rfl (fun _ _ => rfl) (fun _ => rfl) (fun w hI => zhd 905 (qk f vd pub s _ _ _ _ D1 D2 w (Tr1 hI.k0 hf_f) (Tr1 hI.k0 hq))) ?_
    rintro _ ⟨ax, cx, G⟩ rfl
    refine V.alloc 16 tz60 rfl rfl (fun b16 => ?_)
    refine Vs 4 rfl ?_
    refine Vw [4, 6, 8, 11, 1000, 14, 16] [] rfl ?_
    refine Vd [0, 1, 2, 3, 6] 0 (by kernel_rfl) rfl rfl rfl ?_
    refine VD.call2 4 0 Tryz.call52 rfl (by kernel_rfl) rfl rfl (fun w hI => zhz f vd _ _ _ D1 w (Tr1 hI.k0 hf_f)) ?_
    rintro r1 w1 w2 hI1 hk12 hall hlow
    obtain ⟨al, cl, rfl⟩ := hall.form
    refine VD.call2 5 1 Tryz.call51 rfl (by kernel_rfl) rfl rfl (fun w hI => jn f vd pub (qY f) _ _ _ _ _ D1 D2 _ w (by omega) (Tr1 hI.k1 hf_f) (Tr1 hI.k1 hq) (hall.keep zb hI.k0 (fun b hb _ hs => by have := hlow b hs; omega)) (Tr1 hI.k1 ht)) ?_
    rintro r2 w3 w4 hI3 hk34 hobs hlow2
    obtain ⟨ao, co, rfl⟩ := hobs.form
    refine VD.call1 7 2 Tryz.call50 rfl (by kernel_rfl) rfl rfl (fun w hI => zel (fun x => decide (x = obN f pub s)) (zgt f pub (qY f)) _ _ _ _ w Tryz.call53 (hobs.keep zaG hI.k0 (fun b hb _ hs => by have := hlow2 b hs; omega)) (fun x u w' hE _ hd => zhj x (obN f pub s) u _ b16 _ _ w' hd ((zeR (hI.at 905 rfl)).ext zb hE) (hE.cells (Blk.cells (hI.at 16 rfl)) (fun h => h)))) ?_
    refine Vd [8] 2 (by kernel_rfl) rfl rfl rfl ?_
    refine VD.done (by kernel_rfl) ?_
    refine Vs 2 rfl ?_
    refine Vw [4, 6, 1000, 14, 16] [] rfl ?_
    refine Vd [0, 1, 2, 3, 4, 6, 7, 8] 0 (by kernel_rfl) rfl rfl rfl ?_
    refine VD.call2 5 0 Tryz.call55 rfl (by kernel_rfl) rfl rfl (fun w hI => zeY a hA f vd ((k : Int), pub) hql (yd a f ((k : Int), pub)) ⟨hsn0, by omega⟩ (obN f pub s) _ _ _ _ _ _ _ D D1 D2 _ w (Tr1 hI.k2 ha) (Tr1 hI.k2 hf_f) (Tr1 hI.k2 hq) (zeR (hI.at 905 rfl))) ?_
    rintro r3 w5 w6 hI5 hk56 ⟨r1, r2, rfl, hac⟩ hlow3
    obtain ⟨al1, cl1, hl1⟩ := hac.left.form
    obtain ⟨al2, cl2, hl2⟩ := hac.asked.form
    subst hl1 hl2
    have e5 : W.heap.size <= w5.heap.size := hI5.k2.size
    refine Ve 9 1 rfl (by kernel_rfl) rfl rfl rfl ?_
    refine Vd [10, 11] 1 (by kernel_rfl) rfl rfl rfl ?_
    refine Ve 12 1 rfl (by kernel_rfl) rfl rfl rfl ?_
    refine Vd [13] 1 (by kernel_rfl) rfl rfl rfl ?_
    refine VD.done (by kernel_rfl) ?_
    refine Vs 2 rfl ?_
    refine V.dat 910 0 rfl rfl rfl (hac.left) (fun q hq _ hs => by have := hlow3 q hs; omega) ?_
    refine V.dat 911 0 rfl rfl rfl (hac.asked) (fun q hq _ hs => by have := hlow3 q hs; omega) ?_
    refine V.ret5 tr24 tg37 ts37 tg60 ts60 rfl rfl rfl rfl rfl (fun w hI => ⟨_, rfl, ⟨_, _, _, by rw [zg4]; rfl, ⟨(hI.at 910 rfl).1.wide zb (fun q hq => by omega), (hI.at 911 rfl).1.wide xT (fun q hq => by omega)⟩, (zeR (hI.at 905 rfl)).wide zb (fun q hq => hI.own 905 3 rfl rfl q hq)⟩, hI.k3⟩)
end Go.Proofs.YtbkhagigkglgoaaGreatDoor
namespace Go.GL
structure MI where
 i : Nat
 o : Oper
 d : Nat
 dp : List Nat
 q : Bool
 Φ : (Nat -> Value) -> Value -> Hp -> Prop
abbrev MK := Nat × Nat × List Nat × Bool
def MI.key (x : MI) : MK := (x.i, x.d, x.dp, x.q)
def zgk (x : MK) (J : List MK) : Bool := x.2.2.1.all fun m => J.all fun y => !Nat.beq y.2.1 m
def zhm (i : Nat) (J : List MK) : List MK := J.filter fun y => !Nat.beq y.1 i
def zhC (ops : Array Oper) (l : Array Bool) (x : MK) : Bool := x.2.2.2 && (Region.noSelect ops && Region.free .any ops l x.1 && (Region.ready .any ops l).contains x.1)
def zhn (i : Nat) : List MK -> Option MK
 | [] => none
 | y :: r => cond (Nat.beq y.1 i) (some y) (zhn i r)
def kK (ops : Array Oper) (L3 : Array Bool) : Nat -> List MK -> Array Bool -> Bool
 | 0, J, l => J.isEmpty && (l == L3)
 | k + 1, J, l => match J.find? (zhC ops l) with
  | some x => zgk x J && kK ops L3 k (zhm x.1 J) (l.setIfInBounds x.1 true)
  | none => !(Region.ready .any ops l).isEmpty && (Region.ready .any ops l).all fun j => match zhn j J with
   | some x => !x.2.2.2 && zgk x J && kK ops L3 k (zhm x.1 J) (l.setIfInBounds x.1 true)
   | none => false
theorem zd6 {i : Nat} : ∀ {J : List MK} {x : MK}, zhn i J = some x -> x ∈ J /\ x.1 = i
 | [], _, h => by cases h
 | y :: r, x, h => by
  simp only [zhn] at h
  cases hb : Nat.beq y.1 i with
  | true => rw [hb] at h; cases h; exact ⟨List.mem_cons_self .., Nat.eq_of_beq_eq_true hb⟩
  | false => rw [hb] at h; obtain ⟨h1, h2⟩ := zd6 h; exact ⟨List.mem_cons_of_mem _ h1, h2⟩
structure Dn (w w' : World) (hx : Hp) (lo hi : Nat) : Prop where
 p0 : w.heap.size <= lo
 le : lo <= hi
 p1 : hi <= w'.heap.size
 ok : ∀ z ∈ hx, z.2.holds w' /\ z.2.loc /\ (∀ b, ¬ z.2.fz b) /\ ∀ q, z.2.S q -> lo <= q /\ q < hi
 apart : hx.Pairwise (fun x y => ∀ q, x.2.S q -> ¬ y.2.S q)
theorem Dn.ext {w w' w2 : World} {hx : Hp} {lo hi : Nat} (h : Dn w w' hx lo hi) (hk : Ext w' w2) : Dn w w2 hx lo hi :=
 ⟨h.p0, h.le, Nat.le_trans h.p1 hk.size, fun z hz => by
  obtain ⟨h1, h2, h3, h4⟩ := h.ok z hz
  exact ⟨HE.keep h1 h2 hk (fun _ _ h => h) (fun _ _ h => h), h2, h3, h4⟩, h.apart⟩
theorem zaN {w w' : World} {hx : Hp} (h : Hands [] [] hx w w') : Ext w w' := h.keep.mono fun q _ ⟨x, hx, _⟩ => by cases hx
theorem Dn.of {w a a' : World} {hx : Hp} (hk : Ext w a) (h : Hands [] [] hx a a') : Dn w a' hx a.heap.size a'.heap.size :=
 ⟨hk.size, (zaN h).size, Nat.le_refl _, fun z hz => by
  obtain ⟨h1, h2, h3, h4⟩ := h.ok z hz
  refine ⟨h1, h2, h3, fun q hq => ⟨?_, (h4 q hq).2⟩⟩
  rcases (h4 q hq).1 with ⟨x, hx, _⟩ | h5
  . cases hx
  ·
   exact h5, h.apart⟩
theorem zd7 : ∀ H : Hp, yT [] H = H
 | [] => rfl
 | x :: r => by show x :: yT [] r = x :: r; rw [zd7 r]
theorem zgl {Bs : yk} {H : Hp} {w w' : World} {hn : Nat -> Hp} {lo hi : Nat -> Nat} (hI : VI Bs H w) (hk : Ext w w') (K : List Nat) (hnd : K.Nodup) (hd : ∀ m ∈ K, Dn w w' (hn m) (lo m) (hi m)) (hap : ∀ m ∈ K, ∀ m' ∈ K, m ≠ m' -> hi m <= lo m' \/ hi m' <= lo m) : VI Bs (K.flatMap hn ++ H) w' := by
 have hh : Hands H [] (K.flatMap hn) w w' := by
  refine ⟨hk.mono fun q _ h => h.elim, fun z hz => ?_, ?_⟩
  ·
   obtain ⟨m, hm, hz⟩ := List.mem_flatMap.1 hz
   obtain ⟨h1, h2, h3, h4⟩ := (hd m hm).ok z hz
   exact ⟨h1, h2, h3, fun q hq => ⟨.inr (Nat.le_trans (hd m hm).p0 (h4 q hq).1), Nat.lt_of_lt_of_le (h4 q hq).2 (hd m hm).p1⟩⟩
  ·
   clear hI
   induction K with
   | nil => exact List.Pairwise.nil
   | cons m r ih =>
    rw [List.nodup_cons] at hnd
    rw [List.flatMap_cons]
    refine List.pairwise_append.2 ⟨(hd m (List.mem_cons_self ..)).apart, ih hnd.2 (fun x hx => hd x (List.mem_cons_of_mem _ hx)) (fun x hx y hy => hap x (List.mem_cons_of_mem _ hx) y (List.mem_cons_of_mem _ hy)), fun x hx y hy q hq hq' => ?_⟩
    obtain ⟨m', hm', hy⟩ := List.mem_flatMap.1 hy
    have g1 := ((hd m (List.mem_cons_self ..)).ok x hx).2.2.2 q hq
    have g2 := ((hd m' (List.mem_cons_of_mem _ hm')).ok y hy).2.2.2 q hq'
    rcases hap m (List.mem_cons_self ..) m' (List.mem_cons_of_mem _ hm') (fun e => hnd.1 (e ▸ hm')) with h | h <;> omega
 have := hI.hands hh
 rw [zd7] at this
 exact this
theorem zgm {env : Env} {val : Nat -> Value} : ∀ (D : List Nat) (m : Nat) (v : Value), get (D.map (fun d => (d, val d)) ++ env) m = some v -> (m ∈ D /\ v = val m) \/ get env m = some v
 | [], _, _, h => .inr h
 | d :: r, m, v, h => by
  rw [List.map_cons, List.cons_append] at h
  simp only [GL.get] at h
  cases hb : Nat.beq d m with
  | true =>
   rw [hb] at h
   have e := Nat.eq_of_beq_eq_true hb
   subst e
   exact .inl ⟨List.mem_cons_self .., (Option.some.inj h).symm⟩
  | false =>
   rw [hb] at h
   rcases zgm r m v h with ⟨h1, h2⟩ | h1
   . exact .inl ⟨List.mem_cons_of_mem _ h1, h2⟩
   . exact .inr h1
section
variable {P : Program} {n : Nat} {Q : Exit -> Act -> World -> Prop} {ks : List Fr} {env : Env} {A : Tgs} {H Hs : Hp} {Bs B0 : yk} {ops : Array Oper} {L : List Nat} {fuel : Nat} {listed : Array Bool}
abbrev MI.Ds (I : List MI) (x : MI) (val : Nat -> Value) (hn : Nat -> Hp) : Prop := ∀ y ∈ I, y.d ∈ x.dp -> y.Φ val (val y.d) (hn y.d)
theorem zib {I : List MI} {x : MI} {J : List MI} (_ : (I.map (·.d)).Nodup) (_ : ∀ y ∈ J, y ∈ I) (h : zgk x.key (J.map MI.key) = true) {y : MI} (_ : y ∈ I) (hd : y.d ∈ x.dp) : y ∉ J := by
 intro hyJ
 unfold zgk at h
 rw [List.all_eq_true] at h
 have := h y.d hd
 rw [List.all_eq_true] at this
 have := this y.key (List.mem_map.2 ⟨y, hyJ, rfl⟩)
 simp [MI.key, Nat.beq_refl] at this
theorem VD.many (j : Nat) (I : List MI) (L3 : Array Bool) (hI : ∀ x ∈ I, ops[x.i]? = some x.o /\ x.o.guard = none /\ x.o.dst = some x.d /\ Nat.blt x.d n = true /\ get env x.d = none /\ ∀ m ∈ x.dp, m ∈ I.map (·.d))
  (hnd : (I.map (·.d)).Nodup) (hni : (I.map (·.i)).Nodup) (hdp : ∀ x ∈ I, x.dp.Nodup) (hr : kK ops L3 I.length (I.map MI.key) listed = true) (hB : Bs.drop j = B0) (hu : qJ (Hs.map (·.1)) = true)
  (hΦ : ∀ x ∈ I, ∀ val val' v hx, (∀ m ∈ x.dp, val m = val' m) -> x.Φ val v hx -> x.Φ val' v hx)
  (hc : ∀ x ∈ I, x.q = false -> ∀ val hn, x.Ds I val hn -> ∀ w, VI Bs (x.dp.flatMap hn ++ H) w -> Does P x.o (x.dp.map (fun m => (m, val m)) ++ env) w (fun v w' => ∃ hx, x.Φ val v hx /\ Hands [] [] hx w w'))
  (hq : ∀ x ∈ I, x.q = true -> ∀ val hn, x.Ds I val hn -> ∃ v, x.Φ val v [] /\ ∀ w, yr P x.o (x.dp.map (fun m => (m, val m)) ++ env) w v w)
  (h : ∀ val hn, (∀ x ∈ I, x.Φ val (val x.d) (hn x.d)) -> Hs.map (fun y => zm ((I.map (·.d)).flatMap hn ++ H) y.1) = Hs.map (fun y => some y.2) /\ VD P n Q ks ops Hs B0 L fuel L3 (I.map (fun x => (x.d, val x.d)) ++ env) [] ((I.map (·.d)).flatMap hn ++ H) Bs) :
  VD P n Q ks ops Hs B0 L (fuel + I.length) listed env A H Bs := by
 subst hB
 intro hH _ w hw
 have key : ∀ (k : Nat) (J : List MI) (listed : Array Bool) (env' : Env) (w' : World) (val : Nat -> Value) (hn : Nat -> Hp) (lo hi : Nat -> Nat), (∀ x ∈ J, x ∈ I) -> kK ops L3 k (J.map MI.key) listed = true -> Ext w w' -> Sub env env' ->
   (∀ x ∈ I, x ∉ J -> get env' x.d = some (val x.d) /\ x.Φ val (val x.d) (hn x.d) /\ Dn w w' (hn x.d) (lo x.d) (hi x.d) /\ ∀ m ∈ x.dp, ∀ y ∈ I, y.d = m -> y ∉ J) -> (∀ x ∈ I, x ∉ J -> ∀ y ∈ I, y ∉ J -> x.d ≠ y.d -> hi x.d <= lo y.d \/ hi y.d <= lo x.d) ->
   WD P n ops (QK P Q ks) (VI (Bs.drop j) Hs) L (fuel + k) listed env' w' := by
  intro k
  induction k with
  | zero =>
   intro J listed env' w' val hn lo hi hJ ho hE hsub hdone hap
   rw [kK, Bool.and_eq_true, List.isEmpty_iff, List.map_eq_nil_iff] at ho
   obtain ⟨rfl, ho⟩ := ho
   have e : listed = L3 := by simpa using ho
   rw [e]
   have hall : ∀ x ∈ I, x ∉ ([] : List MI) := fun x _ => by simp
   obtain ⟨g1, g2⟩ := h val hn fun x hx => (hdone x hx (hall x hx)).2.1
   have hVI : VI Bs ((I.map (·.d)).flatMap hn ++ H) w' := zgl hw hE _ hnd (fun m hm => by
    obtain ⟨x, hx, rfl⟩ := List.mem_map.1 hm
    exact (hdone x hx (hall x hx)).2.2.1) (fun m hm m' hm' hne => by
    obtain ⟨x, hx, rfl⟩ := List.mem_map.1 hm
    obtain ⟨y, hy, rfl⟩ := List.mem_map.1 hm'
    exact hap x hx (hall x hx) y hy (hall y hy) hne)
   refine (g2 (Has.of g1) TgOk.nil w' hVI).sub ?_
   intro m v hv
   have hv' : get (I.map (fun x => (x.d, val x.d)) ++ env) m = some v := hv
   rw [show (I.map fun x => (x.d, val x.d)) = (I.map (·.d)).map (fun d => (d, val d)) by rw [List.map_map]; rfl] at hv'
   rcases zgm _ m v hv' with ⟨h1, h2⟩ | h1
   ·
    obtain ⟨x, hx, rfl⟩ := List.mem_map.1 h1
    rw [h2]; exact (hdone x hx (hall x hx)).1
   . exact hsub m v h1
  | succ k ih =>
   intro J listed env' w' val hn lo hi hJ ho hE hsub hdone hap
   have one : ∀ x ∈ J, zgk x.key (J.map MI.key) = true -> kK ops L3 k (zhm x.i (J.map MI.key)) (listed.setIfInBounds x.i true) = true ->
     (Sub (x.dp.map (fun m => (m, val m)) ++ env) env' /\ x.Ds I val hn /\ VI Bs (x.dp.flatMap hn ++ H) w') /\
     ∀ v w2 hx, x.Φ val v hx -> Hands [] [] hx w' w2 -> WD P n ops (QK P Q ks) (VI (Bs.drop j) Hs) L (fuel + k) (listed.setIfInBounds x.i true) ((x.d, v) :: env') w2 := by
    intro x hx hmd hmo
    have hxI := hJ x hx
    have hdn : ∀ m ∈ x.dp, ∃ y ∈ I, y.d = m /\ y ∉ J := fun m hm => by
     obtain ⟨y, hy, e⟩ := List.mem_map.1 ((hI x hxI).2.2.2.2.2 m hm)
     exact ⟨y, hy, e, zib hnd hJ hmd hy (by rw [e]; exact hm)⟩
    refine ⟨⟨?_, fun y hy hd => (hdone y hy (zib hnd hJ hmd hy hd)).2.1, zgl (lo := lo) (hi := hi) hw hE _ (hdp x hxI) (fun m hm => ?_) (fun m hm m' hm' hne => ?_)⟩, ?_⟩
    ·
     intro m v hv
     rcases zgm _ m v hv with ⟨h1, h2⟩ | h1
     ·
      obtain ⟨y, hy, e, hyJ⟩ := hdn m h1
      rw [h2, <- e]; exact (hdone y hy hyJ).1
     . exact hsub m v h1
    ·
     obtain ⟨y, hy, e, hyJ⟩ := hdn m hm
     rw [<- e]; exact (hdone y hy hyJ).2.2.1
    ·
     obtain ⟨y, hy, e, hyJ⟩ := hdn m hm
     obtain ⟨z, hz, e', hzJ⟩ := hdn m' hm'
     rw [<- e, <- e']; exact hap y hy hyJ z hz hzJ (by rw [e, e']; exact hne)
    ·
     intro v w2 hx2 hv hh
     have k2 := zaN hh
     have hne : ∀ y ∈ I, y ∉ J -> y.d ≠ x.d := fun y hy hyJ e => hyJ (by rw [qw hnd hy hxI e]; exact hx)
     have hmem : ∀ z ∈ I, z ∉ J.filter (fun y => !Nat.beq y.i x.i) -> z = x \/ z ∉ J := by
      intro z hz hz2
      by_cases hzJ : z ∈ J
      ·
       left
       cases e : Nat.beq z.i x.i with
       | true => exact qw hni hz hxI (Nat.eq_of_beq_eq_true e)
       | false => exact absurd (List.mem_filter.2 ⟨hzJ, by simp [e]⟩) hz2
      . exact .inr hzJ
     have hval : ∀ z ∈ I, (z = x \/ z ∉ J) -> ∀ m ∈ z.dp, val m = (if m = x.d then v else val m) := by
      intro z hz hzc m hm
      by_cases e : m = x.d
      ·
       exfalso
       rcases hzc with rfl | hzJ
       ·
        obtain ⟨y, hy, e', hyJ⟩ := hdn m hm
        exact hne y hy hyJ (e'.trans e)
       . exact (hdone z hz hzJ).2.2.2 m hm x hxI e.symm hx
      . rw [if_neg e]
     refine ih (J.filter (fun y => !Nat.beq y.i x.i)) (listed.setIfInBounds x.i true) ((x.d, v) :: env') w2 (fun m => if m = x.d then v else val m) (fun m => if m = x.d then hx2 else hn m) (fun m => if m = x.d then w'.heap.size else lo m) (fun m => if m = x.d then w2.heap.size else hi m) (fun z hz => hJ z (List.mem_filter.1 hz).1) ?_ (hE.ext k2) ?_ ?_ ?_
     ·
      have := hmo
      unfold zhm at this
      rw [List.filter_map] at this
      exact this
     ·
      intro m u hu2
      simp only [GL.get]
      cases hb : Nat.beq x.d m with
      | true =>
       have e := Nat.eq_of_beq_eq_true hb
       rw [<- e, (hI x hxI).2.2.2.2.1] at hu2
       cases hu2
      | false => exact hsub m u hu2
     ·
      intro z hz hz2
      have hzc := hmem z hz hz2
      have hdz : ∀ m ∈ z.dp, ∀ y ∈ I, y.d = m -> y ∉ J.filter (fun y => !Nat.beq y.i x.i) := by
       intro m hm y hy e hyf
       have hyJ := (List.mem_filter.1 hyf).1
       rcases hzc with rfl | hzJ
       . exact zib hnd hJ hmd hy (by rw [e]; exact hm) hyJ
       . exact (hdone z hz hzJ).2.2.2 m hm y hy e hyJ
      rcases hzc with rfl | hzJ
      ·
       refine ⟨by simp [GL.get, Nat.beq_refl], ?_, ?_, hdz⟩
       ·
        simp only [if_true]
        exact hΦ _ hxI _ _ _ _ (hval _ hxI (.inl rfl)) hv
       ·
        simp only [if_true]
        exact Dn.of hE hh
      ·
       have hzd := hne z hz hzJ
       simp only [hzd, if_false]
       obtain ⟨g1, g2, g3, g4⟩ := hdone z hz hzJ
       refine ⟨?_, hΦ z hz _ _ _ _ (hval z hz (.inr hzJ)) g2, g3.ext k2, hdz⟩
       simp only [GL.get]
       cases hb : Nat.beq x.d z.d with
       | true => exact absurd (Nat.eq_of_beq_eq_true hb).symm hzd
       | false => exact g1
     ·
      intro z hz hz2 y hy hy2 hzy
      rcases hmem z hz hz2 with rfl | hzJ <;> rcases hmem y hy hy2 with rfl | hyJ
      . exact absurd rfl hzy
      ·
       simp only [hne y hy hyJ, if_false, if_true]
       exact .inr (hdone y hy hyJ).2.2.1.p1
      ·
       simp only [hne z hz hzJ, if_false, if_true]
       exact .inl (hdone z hz hzJ).2.2.1.p1
      ·
       simp only [hne z hz hzJ, hne y hy hyJ, if_false]
       exact hap z hz hzJ y hy hyJ hzy
   have hfind : ∀ y ∈ J.map MI.key, ∃ x ∈ J, x.key = y := fun y hy => by
    obtain ⟨x, hx, e⟩ := List.mem_map.1 hy
    exact ⟨x, hx, e⟩
   rw [kK] at ho
   split at ho
   ·
    rename_i y hy
    obtain ⟨x, hx, rfl⟩ := hfind y (List.mem_of_find?_eq_some hy)
    have hqx := List.find?_some hy
    unfold zhC at hqx
    rw [Bool.and_eq_true] at hqx
    rw [Bool.and_eq_true] at ho
    obtain ⟨⟨g1, g2, _⟩, g3⟩ := one x hx ho.1 ho.2
    obtain ⟨q1, q2, q3, q4, _⟩ := hI x (hJ x hx)
    obtain ⟨v, hv, hrun⟩ := hq x (hJ x hx) hqx.1 val hn g2
    exact WD.takeP x.i q1 hqx.2 q3 q4 (.inl ⟨fun a _ => by simp [Region.wanted, q2], fun w3 m a ha => hrun w3 m a (ha.sub g1)⟩) (g3 v w' [] hv ⟨Keep.refl _ _, fun z hz => (by cases hz), List.Pairwise.nil⟩)
   ·
    intro a ha
    rw [Bool.and_eq_true, List.all_eq_true] at ho
    refine ⟨fun h0 => (by rw [h0] at ho; simp at ho), fun i hi => ?_⟩
    have h1 := ho.2 i hi
    split at h1
    ·
     rename_i y hy
     obtain ⟨h2, h3⟩ := zd6 hy
     obtain ⟨x, hx, rfl⟩ := hfind y h2
     have h3 : x.i = i := h3
     subst h3
     rw [Bool.and_eq_true, Bool.and_eq_true, Bool.not_eq_true'] at h1
     obtain ⟨⟨g1, g2, g4⟩, g3⟩ := one x hx h1.1.2 h1.2
     obtain ⟨q1, q2, q3, q4, _⟩ := hI x (hJ x hx)
     refine zfh q1 q2 q3 ha ((hc x (hJ x hx) h1.1.1 val hn g2 w' g4).sub g1) ?_
     rintro v w2 ⟨hx2, hv, hh⟩
     have k2 := zaN hh
     exact ⟨fun _ _ => ((hw.ext (hE.ext k2)).drop j).pick hH hu, g3 v w2 hx2 hv hh _ (ha.put q4)⟩
    . cases h1
 exact key I.length I listed env w (fun _ => undef) (fun _ => []) (fun _ => 0) (fun _ => 0) (fun x hx => hx) hr (Keep.refl _ _) (Sub.refl _) (fun x hx h => absurd hx h) (fun x hx h => absurd hx h)
theorem VD.tags (A1 : Tgs) (hA1 : A1.map (fun p => zev env p.1) = A1.map (fun p => kL H p.2)) (hA2 : A1.all (fun p => (kL H p.2).isSome) = true) (h : VD P n Q ks ops Hs B0 L fuel listed env A1 H Bs) : VD P n Q ks ops Hs B0 L fuel listed env A H Bs := fun hH _ w hI => h hH (TgOk.of hA1 hA2) w hI
end
abbrev Ph := (Nat -> Value) -> Value -> Hp -> Prop
abbrev Psi := Nat -> Ph
def psi : List (Nat × Ph) -> Psi
 | [], _ => fun _ _ _ => False
 | (k, f) :: r, m => match Nat.beq k m with
  | true => f
  | false => psi r m
def zaS (Ψ : Psi) (val : Nat -> Value) (hn : Nat -> Hp) : List Nat -> Prop
 | [] => True
 | m :: r => Ψ m val (val m) (hn m) /\ zaS Ψ val hn r
def zho (val : Nat -> Value) : List Nat -> Env -> Env
 | [], env => env
 | m :: r, env => (m, val m) :: zho val r env
def hpD (hn : Nat -> Hp) : List Nat -> Hp -> Hp
 | [], H => H
 | m :: r, H => hn m ++ hpD hn r H
theorem zaO (val : Nat -> Value) (env : Env) : ∀ D : List Nat, zho val D env = D.map (fun m => (m, val m)) ++ env
 | [] => rfl
 | m :: r => by rw [zho, zaO val env r]; rfl
theorem zes (hn : Nat -> Hp) (H : Hp) : ∀ D : List Nat, hpD hn D H = D.flatMap hn ++ H
 | [] => rfl
 | m :: r => by rw [hpD, zes hn H r, List.flatMap_cons, List.append_assoc]
theorem dpAll_iff {Ψ : Psi} {val : Nat -> Value} {hn : Nat -> Hp} : ∀ {D : List Nat}, zaS Ψ val hn D ↔ ∀ m ∈ D, Ψ m val (val m) (hn m)
 | [] => by simp [zaS]
 | m :: r => by simp only [zaS, List.forall_mem_cons]; rw [dpAll_iff]
def zbc : List Nat -> Bool
 | [] => true
 | x :: r => r.all (fun y => !Nat.beq x y) && zbc r
theorem jS : ∀ {l : List Nat}, zbc l = true -> l.Nodup
 | [], _ => List.Pairwise.nil
 | x :: r, h => by
  rw [zbc, Bool.and_eq_true, List.all_eq_true] at h
  refine List.nodup_cons.2 ⟨fun hx => ?_, jS h.2⟩
  have := h.1 x hx
  simp [Nat.beq_refl] at this
def ziK (I : List MK) (env : Env) : Bool := zbc (I.map (·.2.1)) && zbc (I.map (·.1)) && I.all fun x => (get env x.2.1).isNone && zbc x.2.2.1 && x.2.2.1.all fun m => (I.map (·.2.1)).any fun y => Nat.beq y m
section
variable {P : Program} {n : Nat} {Q : Exit -> Act -> World -> Prop} {ks : List Fr} {env : Env} {A : Tgs} {H Hs : Hp} {Bs B0 : yk} {ops : Array Oper} {L : List Nat} {fuel : Nat} {listed : Array Bool} {Ψ : Psi}
def MP (P : Program) (n : Nat) (ops : Array Oper) (env : Env) (H : Hp) (Bs : yk) (Ψ : Psi) (x : MK) : Prop := ∃ o, (ops[x.1]? = some o /\ o.guard = none /\ o.dst = some x.2.1 /\ Nat.blt x.2.1 n = true) /\ (∀ val val' v hx, (∀ m ∈ x.2.2.1, val m = val' m) -> Ψ x.2.1 val v hx -> Ψ x.2.1 val' v hx) /\
 (x.2.2.2 = false -> ∀ val hn, zaS Ψ val hn x.2.2.1 -> ∀ w, VI Bs (hpD hn x.2.2.1 H) w -> Does P o (zho val x.2.2.1 env) w (fun v w' => ∃ hx, Ψ x.2.1 val v hx /\ Hands [] [] hx w w')) /\
 (x.2.2.2 = true -> ∀ val hn, zaS Ψ val hn x.2.2.1 -> ∃ v, Ψ x.2.1 val v [] /\ ∀ w, yr P o (zho val x.2.2.1 env) w v w)
def MPs (P : Program) (n : Nat) (ops : Array Oper) (env : Env) (H : Hp) (Bs : yk) (Ψ : Psi) : List MK -> Prop
 | [] => True
 | x :: r => MP P n ops env H Bs Ψ x /\ MPs P n ops env H Bs Ψ r
theorem MPs.all : ∀ {I : List MK}, MPs P n ops env H Bs Ψ I -> ∀ x ∈ I, MP P n ops env H Bs Ψ x
 | y :: r, h, x, hx => by
  rcases List.mem_cons.1 hx with rfl | hx
  . exact h.1
  . exact MPs.all h.2 x hx
theorem MP.loud {i d : Nat} {dp : List Nat} {op : Op} {ty : TypeId} {ps : String} {aft : Array Edge} (hi : ops[i]? = some ⟨some d, op, ty, ps, aft, none⟩) (hb : Nat.blt d n = true) (hΦ : ∀ val val' v hx, (∀ m ∈ dp, val m = val' m) -> Ψ d val v hx -> Ψ d val' v hx)
  (hc : ∀ val hn, zaS Ψ val hn dp -> ∀ w, VI Bs (hpD hn dp H) w -> Does P ⟨some d, op, ty, ps, aft, none⟩ (zho val dp env) w (fun v w' => ∃ hx, Ψ d val v hx /\ Hands [] [] hx w w')) : MP P n ops env H Bs Ψ (i, d, dp, false) :=
 ⟨_, ⟨hi, rfl, rfl, hb⟩, hΦ, fun _ => hc, fun h => by cases h⟩
theorem MP.quiet {i d : Nat} {dp : List Nat} {op : Op} {ty : TypeId} {ps : String} {aft : Array Edge} (hi : ops[i]? = some ⟨some d, op, ty, ps, aft, none⟩) (hb : Nat.blt d n = true) (hΦ : ∀ val val' v hx, (∀ m ∈ dp, val m = val' m) -> Ψ d val v hx -> Ψ d val' v hx)
  (hc : ∀ val hn, zaS Ψ val hn dp -> ∃ v, Ψ d val v [] /\ ∀ w, yr P ⟨some d, op, ty, ps, aft, none⟩ (zho val dp env) w v w) : MP P n ops env H Bs Ψ (i, d, dp, true) :=
 ⟨_, ⟨hi, rfl, rfl, hb⟩, hΦ, fun h => Bool.noConfusion h, fun _ => hc⟩
theorem Does.new {o : Oper} {w : World} {f : Nat -> Value} {cs : List Value} {e : TypeId} (K : Nat) (h : yA P o env w (fun u w' => ∃ b, u = f b /\ New w cs e b w')) : Does P o env w (fun v w' => ∃ hx, (∃ b, v = f b /\ hx = [(K, HE.own b cs e)]) /\ Hands [] [] hx w w') := by
 obtain ⟨v, w', hr, b, rfl, h1, h2, h3, h4⟩ := h
 refine .inl ⟨_, w', hr, _, ⟨b, rfl, rfl⟩, h4.mono fun q _ h => h.elim, fun z hz => ?_, List.pairwise_singleton _ _⟩
 rw [List.mem_singleton] at hz
 subst hz
 exact ⟨h3, trivial, fun _ h => h, fun q hq => by have hq : q = b := hq; exact ⟨.inr (by omega), by omega⟩⟩
theorem ko {H : Hp} {f : FuncId} {args : Array Value} {w : World} {α : Type} {Φ : Value -> α -> Prop} {Hn : α -> Hp} (hc : Calls P f args w (Ret fun r w' => ∃ y, Φ r y /\ Hands H [] (Hn y) w w')) : Calls P f args w (Ret fun r w' => ∃ hx, (∃ y, Φ r y /\ hx = Hn y) /\ Hands [] [] hx w w') := by
 refine hc.mono ?_
 rintro _ w' ⟨r, rfl, y, h1, h2⟩
 refine ⟨r, rfl, _, ⟨y, h1, rfl⟩, h2.keep.mono fun q _ ⟨x, _, h, _⟩ => by simp [zdX] at h, fun z hz => ?_, h2.apart⟩
 obtain ⟨g1, g2, g3, g4⟩ := h2.ok z hz
 refine ⟨g1, g2, g3, fun q hq => ⟨.inr ?_, (g4 q hq).2⟩⟩
 rcases (g4 q hq).1 with ⟨x, _, h, _⟩ | h
 . simp [zdX] at h
 . exact h
theorem VD.manyP (fuel j : Nat) (I : List MK) (Ψ : Psi) (hr : kK ops (zc6 (I.map (·.1)) listed) I.length I listed = true) (hs : ziK I env = true) (hB : Bs.drop j = B0) (hu : qJ (Hs.map (·.1)) = true) (hM : MPs P n ops env H Bs Ψ I)
  (h : ∀ val hn, zaS Ψ val hn (I.map (·.2.1)) -> Hs.map (fun y => zm (hpD hn (I.map (·.2.1)) H) y.1) = Hs.map (fun y => some y.2) /\ VD P n Q ks ops Hs B0 L fuel (zc6 (I.map (·.1)) listed) (zho val (I.map (·.2.1)) env) [] (hpD hn (I.map (·.2.1)) H) Bs) :
  VD P n Q ks ops Hs B0 L (fuel + I.length) listed env A H Bs := by
 unfold ziK at hs
 simp only [Bool.and_eq_true, List.all_eq_true, List.any_eq_true, Option.isNone_iff_eq_none] at hs
 obtain ⟨⟨s1, s2⟩, s3⟩ := hs
 let mk : MK -> MI := fun x => ⟨x.1, (ops[x.1]?).getD ⟨none, .nilCheck (.tmp 0), 0, "", #[], none⟩, x.2.1, x.2.2.1, x.2.2.2, Ψ x.2.1⟩
 have e1 : (I.map mk).map (·.d) = I.map (·.2.1) := by rw [List.map_map]; rfl
 have e2 : (I.map mk).map (·.i) = I.map (·.1) := by rw [List.map_map]; rfl
 have e3 : (I.map mk).map MI.key = I := by rw [List.map_map]; exact List.map_id'' (fun x => rfl) I
 have e4 : (I.map mk).length = I.length := List.length_map ..
 have hds : ∀ x ∈ I, ∀ val hn, MI.Ds (I.map mk) (mk x) val hn -> zaS Ψ val hn x.2.2.1 := fun x hx val hn hD => dpAll_iff.2 fun m hm => by
  obtain ⟨y, hy, he⟩ := (s3 x hx).2 m hm
  obtain ⟨z, hz, rfl⟩ := List.mem_map.1 hy
  have he := Nat.eq_of_beq_eq_true he
  have := hD (mk z) (List.mem_map.2 ⟨z, hz, rfl⟩) (by show z.2.1 ∈ x.2.2.1; rw [he]; exact hm)
  rw [<- he]
  exact this
 rw [<- e4]
 refine VD.many j (I.map mk) (zc6 (I.map (·.1)) listed) ?_ (by rw [e1]; exact jS s1) (by rw [e2]; exact jS s2) ?_ (by rw [e3, e4]; exact hr) hB hu ?_ ?_ ?_ ?_
 ·
  intro y hy
  obtain ⟨x, hx, rfl⟩ := List.mem_map.1 hy
  obtain ⟨o, ⟨h1, h2, h3, h4⟩, _⟩ := hM.all x hx
  have ho : (mk x).o = o := by show (ops[x.1]?).getD _ = o; rw [h1]; rfl
  refine ⟨by rw [ho]; exact h1, by rw [ho]; exact h2, by rw [ho]; exact h3, h4, (s3 x hx).1.1, fun m hm => ?_⟩
  rw [e1]
  obtain ⟨z, hz, he⟩ := (s3 x hx).2 m hm
  rw [<- Nat.eq_of_beq_eq_true he]; exact hz
 ·
  intro y hy
  obtain ⟨x, hx, rfl⟩ := List.mem_map.1 hy
  exact jS (s3 x hx).1.2
 ·
  intro y hy
  obtain ⟨x, hx, rfl⟩ := List.mem_map.1 hy
  obtain ⟨o, _, h2, _⟩ := hM.all x hx
  exact h2
 ·
  intro y hy hq val hn hD w hw
  obtain ⟨x, hx, rfl⟩ := List.mem_map.1 hy
  obtain ⟨o, ⟨h1, _⟩, _, h3, _⟩ := hM.all x hx
  have ho : (mk x).o = o := by show (ops[x.1]?).getD _ = o; rw [h1]; rfl
  have := h3 hq val hn (hds x hx val hn hD) w (by rw [zes]; exact hw)
  rw [zaO] at this
  rw [ho]; exact this
 ·
  intro y hy hq val hn hD
  obtain ⟨x, hx, rfl⟩ := List.mem_map.1 hy
  obtain ⟨o, ⟨h1, _⟩, _, _, h4⟩ := hM.all x hx
  have ho : (mk x).o = o := by show (ops[x.1]?).getD _ = o; rw [h1]; rfl
  have := h4 hq val hn (hds x hx val hn hD)
  rw [zaO] at this
  rw [ho]; exact this
 ·
  intro val hn hall
  have := h val hn (dpAll_iff.2 fun m hm => by
   obtain ⟨x, hx, rfl⟩ := List.mem_map.1 hm
   exact hall (mk x) (List.mem_map.2 ⟨x, hx, rfl⟩))
  rw [zes, zaO] at this
  rw [e1]
  refine ⟨this.1, ?_⟩
  rw [show (I.map mk).map (fun x => (x.d, val x.d)) = (I.map (·.2.1)).map (fun m => (m, val m)) by rw [List.map_map, List.map_map]; rfl]
  exact this.2
theorem VD.cast {val : Nat -> Value} {hn : Nat -> Hp} {D : List Nat} (A1 : Tgs) (vals : List (Nat × Value)) (Hn : Hp) (he : D.map (fun m => (m, val m)) = vals) (hh : D.flatMap hn = Hn) (h1 : Hs.map (fun y => zm (Hn ++ H) y.1) = Hs.map (fun y => some y.2)) (hA1 : A1.map (fun p => zev (vals ++ env) p.1) = A1.map (fun p => kL (Hn ++ H) p.2)) (hA2 : A1.all (fun p => (kL (Hn ++ H) p.2).isSome) = true)
  (h : VD P n Q ks ops Hs B0 L fuel listed (vals ++ env) A1 (Hn ++ H) Bs) :
  Hs.map (fun y => zm (hpD hn D H) y.1) = Hs.map (fun y => some y.2) /\ VD P n Q ks ops Hs B0 L fuel listed (zho val D env) [] (hpD hn D H) Bs := by
 rw [zaO, zes]
 subst he hh
 exact ⟨h1, VD.tags A1 hA1 hA2 h⟩
end
end Go.GL
namespace Go.Proofs.YtbkhagigkglgoaaGreatDoor
open Go.GL
def zic : Tm := .mk 24 0 []
def zid : Tm := .mk 24 1 []
def zj3 : Tm := .mk 13 0 [zic, zid]
def ziL : St := .mk 1 0 0 0 zj3 [] [] []
def exF51 : Fl := ⟨[⟨⟨#[120]⟩, 1, 0, 3, 0⟩, ⟨⟨#[103]⟩, 2, 0, 3, 0⟩], [], [ziL]⟩
theorem zie {D : Nat -> Prop} {w : World} {s : St} {b : Nat} {cs : List Value} {t : TypeId} (hB : Blk w b cs t) (hD : D b) (hl : cs.length = 10) (h : RSt D w s cs) : SlR 10 RSt D w (.slice (some ⟨b, 0, none⟩) 1 1) [s] :=
 SlR.ofBlk hB hD rfl (Nat.le_refl _) (by decide) (fun i x hx => by
  cases i with
  | zero => simp at hx; subst hx; exact ⟨cs, hl, fun j u hu => by simpa using hu, h⟩
  | succ i => simp at hx)
theorem zif {D : Nat -> Prop} {w : World} {b3 b6 b9 b11 : Nat} {t3 t6 t9 t11 : TypeId} (d3 : D b3) (d6 : D b6) (d9 : D b9) (d11 : D b11) (h3 : Blk w b3 [.string ⟨#[120]⟩, .int .i64 1, .int .i64 0, .int .i64 3, .int .i64 0, .string ⟨#[103]⟩, .int .i64 2, .int .i64 0, .int .i64 3, .int .i64 0] t3) (h6 : Blk w b6 [.int .i64 24, .int .i64 0, .slice none 0 0, .int .i64 24, .int .i64 1, .slice none 0 0] t6)
  (h9 : Blk w b9 [.int .i64 1, .int .i64 0, .int .i64 0, .int .i64 0, .int .i64 13, .int .i64 0, .slice (some ⟨b6, 0, none⟩) 2 2, .slice none 0 0, .slice none 0 0, .slice none 0 0] t9) (h11 : Blk w b11 [.slice (some ⟨b3, 0, none⟩) 2 2, .slice none 0 0, .slice (some ⟨b9, 0, none⟩) 1 1] t11) : SlR 3 RPg D w (.slice (some ⟨b11, 0, none⟩) 1 1) [exF51] := by
 have k6 : SlR 3 RTm D w (.slice (some ⟨b6, 0, none⟩) 2 2) [zic, zid] := SlR.ofBlk h6 d6 rfl (Nat.le_refl _) (by decide) fun i x hx => by
  match i, hx with
  | 0, hx => cases hx; exact ⟨[.int .i64 24, .int .i64 0, .slice none 0 0], rfl, fun j u hu => by
    match j, hu with
    | 0, hu => exact hu
    | 1, hu => exact hu
    | 2, hu => exact hu
    | j + 3, hu => simp at hu, RTm.put (t := zic) SlR.nil⟩
  | 1, hx => cases hx; exact ⟨[.int .i64 24, .int .i64 1, .slice none 0 0], rfl, fun j u hu => by
    match j, hu with
    | 0, hu => exact hu
    | 1, hu => exact hu
    | 2, hu => exact hu
    | j + 3, hu => simp at hu, RTm.put (t := zid) SlR.nil⟩
  | i + 2, hx => simp at hx
 have k9 := zie h9 d9 rfl (RSt.put (s := ziL) (v1 := .slice (some ⟨b6, 0, none⟩) 2 2) k6 SlR.nil SlR.nil SlR.nil)
 have k3 : SlR 5 RVr D w (.slice (some ⟨b3, 0, none⟩) 2 2) exF51.vars := SlR.ofBlk h3 d3 rfl (Nat.le_refl _) (by decide) (fun i x hx => by
  match i, hx with
  | 0, hx => cases hx; exact ⟨[.string ⟨#[120]⟩, .int .i64 1, .int .i64 0, .int .i64 3, .int .i64 0], rfl, fun j u hu => by
    match j, hu with
    | 0, hu => exact hu
    | 1, hu => exact hu
    | 2, hu => exact hu
    | 3, hu => exact hu
    | 4, hu => exact hu
    | j + 5, hu => simp at hu, rfl⟩
  | 1, hx => cases hx; exact ⟨[.string ⟨#[103]⟩, .int .i64 2, .int .i64 0, .int .i64 3, .int .i64 0], rfl, fun j u hu => by
    match j, hu with
    | 0, hu => exact hu
    | 1, hu => exact hu
    | 2, hu => exact hu
    | 3, hu => exact hu
    | 4, hu => exact hu
    | j + 5, hu => simp at hu, rfl⟩
  | i + 2, hx => simp [exF51] at hx)
 exact SlR.ofBlk h11 d11 rfl (Nat.le_refl _) (by decide) (fun i x hx => by
  match i, hx with
  | 0, hx => cases hx; exact ⟨_, rfl, fun j u hu => by
    match j, hu with
    | 0, hu => exact hu
    | 1, hu => exact hu
    | 2, hu => exact hu
    | j + 3, hu => simp at hu, _, _, _, rfl, ⟨k3, SlR.nil, k9⟩⟩
  | i + 1, hx => simp at hx)
theorem qE (W : World) : Calls Tryz.prog 41 #[] W (Ret fun r w' => SlR 3 RPg (fun b => W.heap.size <= b) w' r [exF51] /\ Ext W w') := by
 refine G.in0 Tryz.func41 rfl Tryz.ntmps41 (V.inn ?_)
 refine Vs 7 rfl ?_
 refine V.bld [Value.string { data := #[] }, Value.int IntKind.i64 0, Value.int IntKind.i64 0, Value.int IntKind.i64 0, Value.int IntKind.i64 0] [(0, 1), (1, 1), (2, 1), (3, 1), (4, 1)] [(0, _), (1, _), (3, _)] rfl rfl (fun _ => by kernel_rfl) ?_
 refine V.bld [Value.string { data := #[] }, Value.int IntKind.i64 0, Value.int IntKind.i64 0, Value.int IntKind.i64 0, Value.int IntKind.i64 0] [(0, 1), (1, 1), (2, 1), (3, 1), (4, 1)] [(0, _), (1, _), (3, _)] rfl rfl (fun _ => by kernel_rfl) ?_
 refine V.bs 3 [(0, _), (1, _)] tR52 ts120 tz120 (by decide) rfl rfl (by kernel_rfl) (fun b3 => ?_)
 refine V.bld [Value.int IntKind.i64 0, Value.int IntKind.i64 0, Value.slice none 0 0] [(0, 1), (1, 1), (2, 1)] [(0, _)] rfl rfl (fun _ => by kernel_rfl) ?_
 refine V.bld [Value.int IntKind.i64 0, Value.int IntKind.i64 0, Value.slice none 0 0] [(0, 1), (1, 1), (2, 1)] [(0, _), (1, _)] rfl rfl (fun _ => by kernel_rfl) ?_
 refine V.bs 6 [(0, _), (1, _)] tR130 ts132 tz132 (by decide) rfl rfl (by kernel_rfl) (fun b6 => ?_)
 refine V.bld [Value.int IntKind.i64 0, Value.int IntKind.i64 0, Value.slice none 0 0] [(0, 1), (1, 1), (2, 1)] [(0, _), (2, _)] rfl rfl (fun _ => by kernel_rfl) ?_
 refine V.bld [Value.int IntKind.i64 0, Value.int IntKind.i64 0, Value.int IntKind.i64 0, Value.int IntKind.i64 0, Value.int IntKind.i64 0, Value.int IntKind.i64 0, Value.slice none 0 0, Value.slice none 0 0, Value.slice none 0 0, Value.slice none 0 0] [(0, 1), (1, 1), (2, 1), (3, 1), (4, 3), (7, 1), (8, 1), (9, 1)] [(0, _), (4, _)] rfl rfl (fun _ => by kernel_rfl) ?_
 refine V.bs 9 [(0, _)] tR54 ts134 tz134 (by decide) rfl rfl (by kernel_rfl) (fun b9 => ?_)
 refine V.bld [Value.slice none 0 0, Value.slice none 0 0, Value.slice none 0 0] [(0, 1), (1, 1), (2, 1)] [(0, _), (2, _)] rfl rfl (fun _ => by kernel_rfl) ?_
 refine V.bs 11 [(0, _)] tR23 ts56 tz56 (by decide) rfl rfl (by kernel_rfl) (fun b11 => ?_)
 refine Vs 4 rfl ?_
 refine V.ret1 Tryz.results41 rfl (fun w hI => ⟨_, rfl, zif (hI.own 3 0 rfl rfl _ rfl) (hI.own 6 0 rfl rfl _ rfl) (hI.own 9 0 rfl rfl _ rfl) (hI.own 11 0 rfl rfl _ rfl) (hI.at 3 rfl) (hI.at 6 rfl) (hI.at 9 rfl) (hI.at 11 rfl), hI.k0⟩)
def kA0 : Ac := zgx 0 4 4
def kR (a : Ac) (g : Int) : Res := zcP a [exF51] (0, [g]) 3
def kA1 : Ac := ⟨0, 4, 2, [0, 2, 3], [(0, [1])]⟩
def kA2 : Ac := ⟨0, 4, 4, [0, 3], [(0, [1]), (0, [2])]⟩
theorem zet : kA0 = ⟨0, 4, 1, [0, 1, 2, 3], []⟩ := by decide +kernel
theorem zj4 : (kR kA0 1).code = 0 := by decide +kernel
theorem zj5 : (kR kA0 1).ac = kA1 := by decide +kernel
theorem zj6 : (kR kA0 1).charge = 2 := by decide +kernel
theorem zj7 : (kR kA0 1).ob.1 = [0] := by decide +kernel
theorem zj8 : (kR kA0 1).answer = 0 := by decide +kernel
theorem kr_2 : (kR kA1 2).code = 0 /\ (kR kA1 2).ac = kA2 := by decide +kernel
theorem kr_3 : (kR kA2 0).code = 18 := by decide +kernel
def kR1 : Res := ⟨kA1, 0, 2, ([0], (kR kA0 1).ob.2), 0⟩
def kR2 : Res := ⟨kA2, (kR kA1 2).answer, (kR kA1 2).charge, (kR kA1 2).ob, 0⟩
def kR3 : Res := ⟨(kR kA2 0).ac, (kR kA2 0).answer, (kR kA2 0).charge, (kR kA2 0).ob, 18⟩
theorem zdM {r : Res} {a : Ac} {x c : Int} {o : Ob} {k : Int} (h1 : r.ac = a) (h2 : r.answer = x) (h3 : r.charge = c) (h4 : r.ob = o) (h5 : r.code = k) : r = ⟨a, x, c, o, k⟩ := by subst h1 h2 h3 h4 h5; rfl
theorem ziM : kR kA0 1 = kR1 := zdM zj5 zj8 zj6 (Prod.ext zj7 rfl) zj4
theorem ziN : kR kA1 2 = kR2 := zdM kr_2.2 rfl rfl rfl kr_2.1
theorem ziO : kR kA2 0 = kR3 := zdM rfl rfl rfl rfl kr_3
theorem kB0 : AcB kA0 := by rw [zet]; exact ⟨by decide, by decide, by decide⟩
theorem kB1 : AcB kA1 := ⟨by decide, by decide, by decide⟩
theorem kB2 : AcB kA2 := ⟨by decide, by decide, by decide⟩
theorem kSz : SzOk exF51 := ⟨by decide, by decide⟩
structure Rc where
 x0 : Int
 x1 : Int
 x2 : Int
 x3 : Int
 x4 : Int
 prog : Int
 pub : Int
 ans : Int
 charge : Int
def RRc : Rel Rc := fun _ _ r cs => cs = [.int .i64 r.x0, .int .i64 r.x1, .int .i64 r.x2, .int .i64 r.x3, .int .i64 r.x4, .int .i64 r.prog, .int .i64 r.pub, .int .i64 r.ans, .int .i64 r.charge]
theorem zd8 : yb RRc := fun _ _ _ _ _ _ _ _ h => h
theorem zgn : xP RRc := fun _ _ _ _ h => h
instance : StC RRc := ⟨zd8⟩
instance : Dt RRc := ⟨zd8, zgn⟩
def zgo (f : Fl) (r : Rc) : Qu := (r.prog, (zG (zd 2 f.vars) r.pub).1)
def zjg (l : List Ob) (i : Int) : Option Ob := if i < 0 then none else l[i.toNat]?
def ziP (a : Ac) (f : Fl) (r : Rc) : Ac × Int :=
 if zbO f ≠ 0 then (ac0, zbO f)
 else if zr 2 f.vars r.pub ≠ 0 then (ac0, 3)
 else if ¬ xV f a.left then (ac0, 2)
 else if r.charge ≠ yd a f (zgo f r) \/ a.budget.tdiv a.spent < yd a f (zgo f r) then (ac0, 13)
 else match zjg (zgt f (zgo f r).2 (qY f)) r.ans with
  | none => (ac0, 2)
  | some o => if yU f (zgo f r).2 o a.left = [] then (ac0, 2) else (zfW a f (zgo f r) r.charge o, 0)
def zdb (a : Ac) (ps : List Fl) (r : Rc) : Ac × Int := match zbZ ps r.prog with
 | none => (ac0, 3)
 | some f => ziP a f r
def yS (ps : List Fl) : Ac -> List Rc -> Ac × Int
 | a, [] => (a, 0)
 | a, r :: rs => if r.charge = 0 then yS ps a rs else if (zdb a ps r).2 ≠ 0 then (ac0, (zdb a ps r).2) else yS ps (zdb a ps r).1 rs
theorem zd9 {f : Fl} (h : zQ f = 0) : (zj 2 f.vars).isSome = true := by
 have h1 := (yh h).2.1
 unfold zx at h1
 split at h1
 . rename_i h2; exact absurd h1 h2
 ·
  split at h1
  . cases h1
  ·
   rename_i h2
   unfold yH at h2
   cases h3 : zj 2 f.vars with
   | none => exact absurd (by rw [h3]; simp) h2
   | some _ => rfl
theorem zgp {a : Ac} {f : Fl} {q : Qu} {o : Ob} (hv : ValidA a) (hi : xV f a.left) (hp : yd a f q <= a.budget.tdiv a.spent) (hl : yU f q.2 o a.left ≠ []) : ValidA (zfW a f q (yd a f q) o) := by
 obtain ⟨s, hs⟩ := List.exists_mem_of_ne_nil _ hl
 have h1 := List.mem_filter.1 hs
 have h2 := of_decide_eq_true h1.2
 exact h2 ▸ hv.ans h1.1 hi hp
theorem ziQ {a : Ac} {ps : List Fl} {r : Rc} (hz : ∀ f ∈ ps, SzOk f) (hv : ValidA a) (h : (zdb a ps r).2 = 0) : ValidA (zdb a ps r).1 /\ (zdb a ps r).1.asked.length <= a.asked.length + 1 /\ ∀ p ∈ (zdb a ps r).1.asked, p ∈ a.asked \/ p.2.length <= 1000000 := by
 unfold zdb at h ⊢
 cases hg : zbZ ps r.prog with
 | none => rw [hg] at h; cases h
 | some f =>
  rw [hg] at h
  simp only at h ⊢
  have hf : f ∈ ps := by
   unfold zbZ at hg
   split at hg
   . cases hg
   . exact List.mem_of_getElem? hg
  unfold ziP at h ⊢
  by_cases h1 : zbO f = 0
  ·
   obtain ⟨vd, _⟩ := jo (hz f hf) h1
   rw [if_neg (not_not_intro h1)] at h ⊢
   split at h
   . cases h
   ·
    rename_i h2
    rw [if_neg h2]
    split at h
    . cases h
    ·
     rename_i h3
     rw [if_neg h3]
     split at h
     . cases h
     ·
      rename_i h4
      rw [if_neg h4]
      cases ho : zjg (zgt f (zgo f r).2 (qY f)) r.ans with
      | none => rw [ho] at h; cases h
      | some o =>
       rw [ho] at h
       simp only at h ⊢
       split at h
       . cases h
       ·
        rename_i h5
        rw [if_neg h5]
        have hc : r.charge = yd a f (zgo f r) := by omega
        refine ⟨?_, ?_, fun p hp => ?_⟩
        . rw [hc]; exact zgp hv (Decidable.not_not.1 h3) (by omega) h5
        ·
         show (if zgo f r ∈ a.asked then a.asked else a.asked ++ [zgo f r]).length <= _
         split
         . omega
         . simp
        ·
         have hp : p ∈ (if zgo f r ∈ a.asked then a.asked else a.asked ++ [zgo f r]) := hp
         split at hp
         . exact .inl hp
         ·
          rcases List.mem_append.1 hp with hp | hp
          . exact .inl hp
          ·
           rw [List.mem_singleton.1 hp]
           refine .inr ?_
           have := qi (zd 2 f.vars) r.pub
           have := yK 2 f.vars
           have := vd.lens
           show (zG (zd 2 f.vars) r.pub).1.length <= _
           omega
  . rw [if_pos h1] at h; exact absurd h h1
theorem zdN {ps : List Fl} {a : Ac} {rs : List Rc} {i : Nat} {r : Rc} (hr : rs[i]? = some r) (h : r.charge = 0) : yS ps a (rs.drop i) = yS ps a (rs.drop (i + 1)) := by
 rw [yD hr, yS, if_pos h]
theorem zf1 {ps : List Fl} {a : Ac} {rs : List Rc} {i : Nat} {r : Rc} (hr : rs[i]? = some r) (h : r.charge ≠ 0) (h1 : (zdb a ps r).2 ≠ 0) : yS ps a (rs.drop i) = (ac0, (zdb a ps r).2) := by
 rw [yD hr, yS, if_neg h, if_pos h1]
theorem zdO {ps : List Fl} {a : Ac} {rs : List Rc} {i : Nat} {r : Rc} (hr : rs[i]? = some r) (h : r.charge ≠ 0) (h1 : (zdb a ps r).2 = 0) : yS ps a (rs.drop i) = yS ps (zdb a ps r).1 (rs.drop (i + 1)) := by
 rw [yD hr, yS, if_neg h, if_neg (not_not_intro h1)]
structure RpIn (ps : List Fl) (a : Ac) (rs : List Rc) (i : Nat) (b : Ac) : Prop where
 le : i <= rs.length
 ok : ValidA b
 al : b.asked.length <= a.asked.length + i
 ql : ∀ p ∈ b.asked, p.2.length <= 17592186044416
 eq : yS ps b (rs.drop i) = yS ps a rs
theorem RpIn.start {ps : List Fl} {a : Ac} {rs : List Rc} (hv : ValidA a) (hq : ∀ p ∈ a.asked, p.2.length <= 17592186044416) : RpIn ps a rs 0 a := ⟨Nat.zero_le _, hv, by omega, hq, rfl⟩
theorem RpIn.skip {ps : List Fl} {a b : Ac} {rs : List Rc} {i : Nat} {r : Rc} (h : RpIn ps a rs i b) (hr : rs[i]? = some r) (h1 : r.charge = 0) : RpIn ps a rs (i + 1) b := ⟨(List.getElem?_eq_some_iff.1 hr).1, h.ok, by have := h.al; omega, h.ql, by rw [<- zdN hr h1]; exact h.eq⟩
theorem RpIn.next {ps : List Fl} {a b : Ac} {rs : List Rc} {i : Nat} {r : Rc} (hz : ∀ f ∈ ps, SzOk f) (h : RpIn ps a rs i b) (hr : rs[i]? = some r) (h1 : r.charge ≠ 0) (h2 : (zdb b ps r).2 = 0) : RpIn ps a rs (i + 1) (zdb b ps r).1 := by
 obtain ⟨g1, g2, g3⟩ := ziQ hz h.ok h2
 exact ⟨(List.getElem?_eq_some_iff.1 hr).1, g1, by have := h.al; omega, fun p hp => (g3 p hp).elim (h.ql p) (fun h => by omega), by rw [<- zdO hr h1 h2]; exact h.eq⟩
theorem RpIn.bad {ps : List Fl} {a b : Ac} {rs : List Rc} {i : Nat} {r : Rc} (h : RpIn ps a rs i b) (hr : rs[i]? = some r) (h1 : r.charge ≠ 0) (h2 : (zdb b ps r).2 ≠ 0) : yS ps a rs = (ac0, (zdb b ps r).2) := by
 rw [<- h.eq]; exact zf1 hr h1 h2
theorem RpIn.done {ps : List Fl} {a b : Ac} {rs : List Rc} (h : RpIn ps a rs rs.length b) : yS ps a rs = (b, 0) := by
 rw [<- h.eq, List.drop_length]; rfl
end Go.Proofs.YtbkhagigkglgoaaGreatDoor
namespace Go.GL
section
variable {P : Program} {n : Nat} {Q : Exit -> Act -> World -> Prop} {ks : List Fr} {env : Env} {A : Tgs} {H Hs : Hp} {Bs B0 : yk} {ops : Array Oper} {L : List Nat} {fuel : Nat} {listed : Array Bool}
theorem VD.skip (i j : Nat) {d : Nat} {op : Op} {ty : TypeId} {ps : String} {aft : Array Edge} {g : Option (Nat × Bool)} (hi : ops[i]? = some ⟨some d, op, ty, ps, aft, g⟩) (hr : Region.ready .any ops listed = [i]) (hn : (Nat.blt d n, gd ops env g, qJ (Hs.map (·.1))) = (true, some false, true)) (hB : Bs.drop j = B0)
  (h : VD P n Q ks ops Hs B0 L fuel (listed.setIfInBounds i true) ((d, undef) :: env) ((d, none) :: A) H Bs) : VD P n Q ks ops Hs B0 L (fuel + 1) listed env A H Bs := by
 simp only [Prod.mk.injEq] at hn
 subst hB
 refine fun hH hA w hI => WD.skip i hi hr (xO hn.2.1) rfl hn.1 ((hI.drop j).pick hH hn.2.2) (h hH hA.none w hI)
end
theorem RAc.stable {D D' : Nat -> Prop} {w w' : World} {a : Ac} {v1 v2 : Value} (h : RAc D w a v1 v2) (hD : ∀ b, D b -> D' b) (hk : ∀ b, D b -> b < w.heap.size -> w'.heap[b]? = w.heap[b]?) : RAc D' w' a v1 v2 := ⟨h.left.stable zb hD hk, h.asked.stable xT hD hk⟩
abbrev AcP (F : Nat -> Prop) (a : Ac) (v1 v2 : Value) : HE := .res F (fun w => RAc F w a v1 v2)
abbrev AcD (F : Nat -> Prop) (a : Ac) (v1 v2 : Value) : HE := .dat F (fun w => RAc F w a v1 v2)
theorem AcP.loc {F : Nat -> Prop} {a : Ac} {v1 v2 : Value} : (AcP F a v1 v2).loc := fun _ _ _ hx hk hT => hx.stable (fun _ h => h) (fun b hb hlt => hk.block b hlt (hT b hlt hb))
theorem AcD.loc {F : Nat -> Prop} {a : Ac} {v1 v2 : Value} : (AcD F a v1 v2).loc := fun _ _ _ hx hk hT => hx.stable (fun _ h => h) (fun b hb hlt => hk.block b hlt (hT b hb))
end Go.GL
namespace Go.Proofs.YtbkhagigkglgoaaGreatDoor
open Go.GL
abbrev Y5 := Option Addr × Nat × Option Addr × Nat × (Nat -> Prop)
abbrev acY (F : Nat -> Prop) (a : Ac) (y : Y5) : HE := AcP F a (.slice y.1 a.left.length y.2.1) (.slice y.2.2.1 a.asked.length y.2.2.2.1)
theorem zig {H : Hp} {kk : List Nat} {f : FuncId} {args : Array Value} {A : Ac × Int} {w : World} (k : Nat) (hc : Calls Tryz.prog f args w (Ret fun r w' => (∃ r1 r2, r = .tuple #[.agg #[.int .i64 A.1.mode, .int .i64 A.1.budget, .int .i64 A.1.spent, r1, r2], .int .i64 A.2] /\ RAc (fun b => w.heap.size <= b) w' A.1 r1 r2) /\ Ext w w')) :
  Calls Tryz.prog f args w (Ret fun r w' => ∃ y : Y5, r = .tuple #[.agg #[.int .i64 A.1.mode, .int .i64 A.1.budget, .int .i64 A.1.spent, .slice y.1 A.1.left.length y.2.1, .slice y.2.2.1 A.1.asked.length y.2.2.2.1], .int .i64 A.2] /\ Hands H kk [(k, acY y.2.2.2.2 A.1 y)] w w') := by
 refine hc.mono ?_
 rintro _ w' ⟨_, rfl, ⟨r1, r2, rfl, hd⟩, hk⟩
 obtain ⟨a1, c1, h1⟩ := hd.left.form
 obtain ⟨a2, c2, h2⟩ := hd.asked.form
 subst h1 h2
 refine ⟨_, rfl, (a1, c1, a2, c2, fun b => w.heap.size <= b /\ b < w'.heap.size), rfl, hk.mono fun q _ h => h.elim, fun x hx => ?_, List.pairwise_singleton _ _⟩
 rw [List.mem_singleton] at hx
 subst hx
 exact ⟨hd.narrow, AcP.loc, fun _ h => h, fun q hq => ⟨.inr hq.1, hq.2⟩⟩
theorem AcB.of {a : Ac} (hv : ValidA a) (h1 : a.asked.length <= 100000) (h2 : ∀ p ∈ a.asked, p.2.length <= 17592186044416) : AcB a := ⟨by have := hv.l2; omega, h1, h2⟩
abbrev Y8 := Option Addr × Nat × Option Addr × Nat × Option Addr × Nat × (Nat -> Prop)
abbrev aoY (F : Nat -> Prop) (r : Res) (y : Y8) : HE := .res F (fun w => RAc F w r.ac (.slice y.1 r.ac.left.length y.2.1) (.slice y.2.2.1 r.ac.asked.length y.2.2.2.1) /\ SlR 1 zv F w (.slice y.2.2.2.2.1 r.ob.1.length y.2.2.2.2.2.1) r.ob.1)
abbrev PgP (F : Nat -> Prop) (v : Value) (l : List Fl) : HE := .res F (fun w => SlR 3 RPg F w v l)
theorem PgP.loc {F : Nat -> Prop} {v : Value} {l : List Fl} : (PgP F v l).loc := fun _ _ _ hx hk hT => hx.stable zaH (fun _ h => h) (fun b hb hlt => hk.block b hlt (hT b hlt hb))
theorem aoY.loc {F : Nat -> Prop} {r : Res} {y : Y8} : (aoY F r y).loc := fun _ _ _ hx hk hT => ⟨hx.1.stable (fun _ h => h) (fun b hb hlt => hk.block b hlt (hT b hlt hb)), hx.2.stable zb (fun _ h => h) (fun b hb hlt => hk.block b hlt (hT b hlt hb))⟩
theorem zgq {H : Hp} {f : FuncId} {args : Array Value} {l : List Fl} {w : World} (k : Nat) (hc : Calls Tryz.prog f args w (Ret fun r w' => SlR 3 RPg (fun b => w.heap.size <= b) w' r l /\ Ext w w')) :
  Calls Tryz.prog f args w (Ret fun r w' => ∃ y : Option Addr × Nat × (Nat -> Prop), r = .slice y.1 l.length y.2.1 /\ Hands H [] [(k, PgP y.2.2 (.slice y.1 l.length y.2.1) l)] w w') := by
 refine hc.mono ?_
 rintro _ w' ⟨r, rfl, hd, hk⟩
 obtain ⟨ao, co, rfl⟩ := hd.form
 refine ⟨_, rfl, (ao, co, fun b => w.heap.size <= b /\ b < w'.heap.size), rfl, hk.mono fun q _ h => h.elim, fun x hx => ?_, List.pairwise_singleton _ _⟩
 rw [List.mem_singleton] at hx
 subst hx
 exact ⟨hd.narrow (by omega) zcL, PgP.loc, fun _ h => h, fun q hq => ⟨.inr hq.1, hq.2⟩⟩
theorem ziR {H : Hp} {f : FuncId} {args : Array Value} {R : Res} {w : World} (k : Nat) (hc : Calls Tryz.prog f args w (Ret fun r w' => (∃ r1 r2 ov, r = .tuple #[.agg #[.int .i64 R.ac.mode, .int .i64 R.ac.budget, .int .i64 R.ac.spent, r1, r2], .int .i64 R.answer, .int .i64 R.charge, .agg #[ov, .int .i64 R.ob.2], .int .i64 R.code] /\ RAc (fun b => w.heap.size <= b) w' R.ac r1 r2 /\ SlR 1 zv (fun b => w.heap.size <= b) w' ov R.ob.1) /\ Ext w w')) :
  Calls Tryz.prog f args w (Ret fun r w' => ∃ y : Y8, r = .tuple #[.agg #[.int .i64 R.ac.mode, .int .i64 R.ac.budget, .int .i64 R.ac.spent, .slice y.1 R.ac.left.length y.2.1, .slice y.2.2.1 R.ac.asked.length y.2.2.2.1], .int .i64 R.answer, .int .i64 R.charge, .agg #[.slice y.2.2.2.2.1 R.ob.1.length y.2.2.2.2.2.1, .int .i64 R.ob.2], .int .i64 R.code] /\ Hands H [] [(k, aoY y.2.2.2.2.2.2 R y)] w w') := by
 refine hc.mono ?_
 rintro _ w' ⟨_, rfl, ⟨r1, r2, ov, rfl, hd, ho⟩, hk⟩
 obtain ⟨a1, c1, h1⟩ := hd.left.form
 obtain ⟨a2, c2, h2⟩ := hd.asked.form
 obtain ⟨a3, c3, h3⟩ := ho.form
 subst h1 h2 h3
 refine ⟨_, rfl, (a1, c1, a2, c2, a3, c3, fun b => w.heap.size <= b /\ b < w'.heap.size), rfl, hk.mono fun q _ h => h.elim, fun x hx => ?_, List.pairwise_singleton _ _⟩
 rw [List.mem_singleton] at hx
 subst hx
 exact ⟨⟨hd.narrow, ho.narrow (by omega) yI⟩, aoY.loc, fun _ h => h, fun q hq => ⟨.inr hq.1, hq.2⟩⟩
theorem ziS {H : Hp} {m b n : Int} {A : Ac} {c : Int} {w : World} (k : Nat) (h1 : zgx m b n = A) (h2 : zgw m b n = c) :
  Calls Tryz.prog 14 #[.int .i64 m, .int .i64 b, .int .i64 n] w (Ret fun r w' => ∃ y : Y5, r = .tuple #[.agg #[.int .i64 A.mode, .int .i64 A.budget, .int .i64 A.spent, .slice y.1 A.left.length y.2.1, .slice y.2.2.1 A.asked.length y.2.2.2.1], .int .i64 c] /\ Hands H [] [(k, acY y.2.2.2.2 A y)] w w') := by
 subst h1 h2
 refine zig (A := (zgx m b n, zgw m b n)) k ((ziJ m b n w).mono ?_)
 rintro _ w' ⟨_, rfl, ⟨r1, r2, rfl, hd, _⟩, hk⟩
 exact ⟨_, rfl, ⟨_, _, rfl, hd⟩, hk⟩
theorem zdP {H : Hp} (k : Nat) (a : Ac) (g : Int) (R : Res) (hg : ([g] : List Int).length <= 17592186044416) (hA : AcB a) {u1 u2 pv qv : Value} {D D1 D2 : Nat -> Prop} {w : World} (ha : RAc D w a u1 u2) (hps : SlR 3 RPg D1 w pv [exF51]) (hq : SlR 1 zv D2 w qv [g]) (ht : Tab w) (hR : kR a g = R) :
  Calls Tryz.prog 24 #[.agg #[.int .i64 a.mode, .int .i64 a.budget, .int .i64 a.spent, u1, u2], pv, .agg #[.int .i64 0, qv], .int .i64 3] w (Ret fun r w' => ∃ y : Y8, r = .tuple #[.agg #[.int .i64 R.ac.mode, .int .i64 R.ac.budget, .int .i64 R.ac.spent, .slice y.1 R.ac.left.length y.2.1, .slice y.2.2.1 R.ac.asked.length y.2.2.2.1], .int .i64 R.answer, .int .i64 R.charge, .agg #[.slice y.2.2.2.2.1 R.ob.1.length y.2.2.2.2.2.1, .int .i64 R.ob.2], .int .i64 R.code] /\ Hands H [] [(k, aoY y.2.2.2.2.2.2 R y)] w w') := by
 subst hR
 exact ziR k (zgj a hA [exF51] (fun f hf => by rw [List.mem_singleton] at hf; rw [hf]; exact kSz) (0, [g]) hg 3 _ _ _ _ D D1 D2 w ha hps hq ht)
theorem zf2 (W : World) (ht : Tab W) : Calls Tryz.prog 12 #[] W (Ret fun r w' => r = .bool true /\ Ext W w') := by
 refine G.in0 Tryz.func12 rfl Tryz.ntmps12 (V.inn ?_)
 refine Vs 7 rfl ?_
 refine V.callMs [] (Hn := fun y : Y5 => [(901, acY y.2.2.2.2 ⟨0, 4, 1, [0, 1, 2, 3], []⟩ y)]) [] Tryz.call14 rfl (fun _ _ => rfl) (fun _ => rfl) (fun w hI => ziS (c := 0) 901 zet (by decide)) ?_
 rintro _ ⟨ax1, cx1, az1, cz1, G1⟩ rfl
 refine Vs 3 rfl ?_
 refine V.alloc 1 tz37 rfl rfl (fun b1 => ?_)
 refine Vs 5 rfl ?_
 refine Vw [1] [] rfl ?_
 refine Vd [0] 0 (by kernel_rfl) rfl rfl rfl ?_
 refine VD.manyP 5 0 [(1, 24, [], false), (2, 25, [], false), (3, 26, [25], true), (4, 27, [24, 25, 26], false), (5, 22, [27], true), (6, 28, [27, 22], true), (7, 29, [27, 22], true), (8, 30, [27, 22], true), (9, 31, [27, 22], true), (10, 32, [27, 22], true), (11, 3, [], false), (12, 6, [], false)] (psi [(24, fun _ v hx => ∃ y : Option Addr × Nat × (Nat -> Prop), v = .slice y.1 1 y.2.1 /\ hx = [(921, PgP y.2.2 (.slice y.1 1 y.2.1) [exF51])]), (25, fun _ v hx => ∃ b, v = .slice (some ⟨b, 0, none⟩) 1 1 /\ hx = [(25, .own b [.int .i64 1] 3)]), (26, fun val v hx => v = Value.agg #[Value.int IntKind.i64 0, val 25] /\ hx = []), (27, fun _ v hx => ∃ y : Y8, v = .tuple #[.agg #[.int .i64 0, .int .i64 4, .int .i64 2, .slice y.1 3 y.2.1, .slice y.2.2.1 1 y.2.2.2.1], .int .i64 0, .int .i64 2, .agg #[.slice y.2.2.2.2.1 kR1.ob.1.length y.2.2.2.2.2.1, .int .i64 kR1.ob.2], .int .i64 0] /\ hx = [(902, aoY y.2.2.2.2.2.2 kR1 y)]), (22, fun val v hx => v = val 27 /\ hx = []), (28, fun val v hx => (∃ a, val 22 = .tuple a /\ a[0]? = some v) /\ hx = []), (29, fun val v hx => (∃ a, val 22 = .tuple a /\ a[1]? = some v) /\ hx = []), (30, fun val v hx => (∃ a, val 22 = .tuple a /\ a[2]? = some v) /\ hx = []), (31, fun val v hx => (∃ a, val 22 = .tuple a /\ a[3]? = some v) /\ hx = []), (32, fun val v hx => (∃ a, val 22 = .tuple a /\ a[4]? = some v) /\ hx = []), (3, fun _ v hx => ∃ b, v = .pointer (some ⟨b, 0, none⟩) /\ hx = [(3, .own b [Value.int IntKind.i64 0, Value.int IntKind.i64 0, Value.int IntKind.i64 0, Value.slice none 0 0, Value.slice none 0 0] 37)]), (6, fun _ v hx => ∃ b, v = .pointer (some ⟨b, 0, none⟩) /\ hx = [(6, .own b [Value.slice none 0 0, Value.int IntKind.i64 0] 60)])]) (by kernel_rfl) (by kernel_rfl) rfl rfl ⟨?_, ?_, ?_, ?_, ?_, ?_, ?_, ?_, ?_, ?_, ?_, ?_, True.intro⟩ ?_
 . exact MP.loud rfl rfl (fun _ _ _ _ _ h => h) (fun val hn _ w hI => Does.call (F.call Tryz.call41 (yt rfl)) (ko (H := []) (zgq 921 (qE w))))
 . exact MP.loud rfl rfl (fun _ _ _ _ _ h => h) (fun val hn _ w hI => Does.new 25 (M.buildSlice [(0, .int .i64 1)] tR31 ts3 tz3 (by decide) rfl (by kernel_rfl)))
 ·
  refine MP.quiet rfl rfl (fun val val' v hx hd h => by have h : v = Value.agg #[Value.int IntKind.i64 0, val 25] /\ hx = [] := h; exact (show v = Value.agg #[Value.int IntKind.i64 0, val' 25] /\ hx = [] from ⟨by rw [h.1, hd 25 (by decide)], h.2⟩)) (fun val hn hD => ?_)
  obtain ⟨⟨b25, e25, n25⟩, _⟩ := hD
  have q25 : val 25 = .slice (some ⟨b25, 0, none⟩) 1 1 := e25
  exact ⟨.agg #[Value.int IntKind.i64 0, .slice (some ⟨b25, 0, none⟩) 1 1], (⟨by rw [q25], rfl⟩ : Value.agg #[Value.int IntKind.i64 0, .slice (some ⟨b25, 0, none⟩) 1 1] = Value.agg #[Value.int IntKind.i64 0, val 25] /\ ([] : Hp) = []), fun w => R.build [(1, .slice (some ⟨b25, 0, none⟩) 1 1)] (by show [(1, some (val 25))] = _; rw [q25]; rfl) (fun _ => by kernel_rfl)⟩
 ·
  refine MP.loud rfl rfl (fun _ _ _ _ _ h => h) (fun val hn hD w hI => ?_)
  obtain ⟨⟨⟨aP, cP, GP⟩, e24, n24⟩, ⟨b25, e25, n25⟩, ⟨e26, n26⟩, _⟩ := hD
  have q24 : val 24 = .slice aP 1 cP := e24
  have q25 : val 25 = .slice (some ⟨b25, 0, none⟩) 1 1 := e25
  have q26 : val 26 = .agg #[Value.int IntKind.i64 0, .slice (some ⟨b25, 0, none⟩) 1 1] := by rw [show val 26 = Value.agg #[Value.int IntKind.i64 0, val 25] from e26, q25]
  have n24 : hn 24 = [(921, PgP GP (.slice aP 1 cP) [exF51])] := n24
  have n25 : hn 25 = [(25, .own b25 [.int .i64 1] 3)] := n25
  have n26 : hn 26 = [] := n26
  simp only [hpD, n24, n25, n26, List.cons_append, List.nil_append] at hI
  refine Does.call (F.call Tryz.call24 (yt rfl)) ?_
  simp only [q24, q26]
  exact ko (H := []) (zdP 902 ⟨0, 4, 1, [0, 1, 2, 3], []⟩ 1 kR1 (by decide) (zet ▸ kB0) (show RAc _ _ _ _ _ from hI.at 901 rfl) (show SlR 3 RPg _ _ _ _ from hI.at 921 rfl) (SlR.ofRow1 (D := fun _ => True) ze (fun _ _ => rfl) (yx (k := 1) (n := 1) (cap := 1) (hI.at 25 rfl) (Nat.le_refl _) (by decide) rfl) (fun _ _ => trivial)) (Tr1 hI.k0 ht) (zet ▸ ziM))
 . exact MP.quiet rfl rfl (fun val val' v hx hd h => by have h : v = val 27 /\ hx = [] := h; exact (show v = val' 27 /\ hx = [] from ⟨h.1.trans (hd 27 (by decide)), h.2⟩)) (fun val hn hD => ⟨val 27, (⟨rfl, rfl⟩ : val 27 = val 27 /\ ([] : Hp) = []), fun w => R.move rfl⟩)
 ·
  refine MP.quiet rfl rfl (fun val val' v hx hd h => by have h : (∃ a, val 22 = .tuple a /\ a[0]? = some v) /\ hx = [] := h; rw [hd 22 (by decide)] at h; exact h) (fun val hn hD => ?_)
  obtain ⟨⟨⟨ax27, cx27, az27, cz27, ao27, co27, GA27⟩, e27, n27⟩, ⟨e22, n22⟩, _⟩ := hD
  have q27 : val 27 = .tuple #[.agg #[.int .i64 0, .int .i64 4, .int .i64 2, .slice ax27 3 cx27, .slice az27 1 cz27], .int .i64 0, .int .i64 2, .agg #[.slice ao27 kR1.ob.1.length co27, .int .i64 kR1.ob.2], .int .i64 0] := e27
  have q22 : val 22 = .tuple #[.agg #[.int .i64 0, .int .i64 4, .int .i64 2, .slice ax27 3 cx27, .slice az27 1 cz27], .int .i64 0, .int .i64 2, .agg #[.slice ao27 kR1.ob.1.length co27, .int .i64 kR1.ob.2], .int .i64 0] := (show val 22 = val 27 from e22).trans q27
  exact ⟨.agg #[.int .i64 0, .int .i64 4, .int .i64 2, .slice ax27 3 cx27, .slice az27 1 cz27], (⟨⟨_, q22, rfl⟩, rfl⟩ : (∃ a, val 22 = .tuple a /\ a[0]? = some (.agg #[.int .i64 0, .int .i64 4, .int .i64 2, .slice ax27 3 cx27, .slice az27 1 cz27])) /\ ([] : Hp) = []), fun w => R.extract (congrArg some q22) rfl⟩
 ·
  refine MP.quiet rfl rfl (fun val val' v hx hd h => by have h : (∃ a, val 22 = .tuple a /\ a[1]? = some v) /\ hx = [] := h; rw [hd 22 (by decide)] at h; exact h) (fun val hn hD => ?_)
  obtain ⟨⟨⟨ax27, cx27, az27, cz27, ao27, co27, GA27⟩, e27, n27⟩, ⟨e22, n22⟩, _⟩ := hD
  have q27 : val 27 = .tuple #[.agg #[.int .i64 0, .int .i64 4, .int .i64 2, .slice ax27 3 cx27, .slice az27 1 cz27], .int .i64 0, .int .i64 2, .agg #[.slice ao27 kR1.ob.1.length co27, .int .i64 kR1.ob.2], .int .i64 0] := e27
  have q22 : val 22 = .tuple #[.agg #[.int .i64 0, .int .i64 4, .int .i64 2, .slice ax27 3 cx27, .slice az27 1 cz27], .int .i64 0, .int .i64 2, .agg #[.slice ao27 kR1.ob.1.length co27, .int .i64 kR1.ob.2], .int .i64 0] := (show val 22 = val 27 from e22).trans q27
  exact ⟨.int .i64 0, (⟨⟨_, q22, rfl⟩, rfl⟩ : (∃ a, val 22 = .tuple a /\ a[1]? = some (.int .i64 0)) /\ ([] : Hp) = []), fun w => R.extract (congrArg some q22) rfl⟩
 ·
  refine MP.quiet rfl rfl (fun val val' v hx hd h => by have h : (∃ a, val 22 = .tuple a /\ a[2]? = some v) /\ hx = [] := h; rw [hd 22 (by decide)] at h; exact h) (fun val hn hD => ?_)
  obtain ⟨⟨⟨ax27, cx27, az27, cz27, ao27, co27, GA27⟩, e27, n27⟩, ⟨e22, n22⟩, _⟩ := hD
  have q27 : val 27 = .tuple #[.agg #[.int .i64 0, .int .i64 4, .int .i64 2, .slice ax27 3 cx27, .slice az27 1 cz27], .int .i64 0, .int .i64 2, .agg #[.slice ao27 kR1.ob.1.length co27, .int .i64 kR1.ob.2], .int .i64 0] := e27
  have q22 : val 22 = .tuple #[.agg #[.int .i64 0, .int .i64 4, .int .i64 2, .slice ax27 3 cx27, .slice az27 1 cz27], .int .i64 0, .int .i64 2, .agg #[.slice ao27 kR1.ob.1.length co27, .int .i64 kR1.ob.2], .int .i64 0] := (show val 22 = val 27 from e22).trans q27
  exact ⟨.int .i64 2, (⟨⟨_, q22, rfl⟩, rfl⟩ : (∃ a, val 22 = .tuple a /\ a[2]? = some (.int .i64 2)) /\ ([] : Hp) = []), fun w => R.extract (congrArg some q22) rfl⟩
 ·
  refine MP.quiet rfl rfl (fun val val' v hx hd h => by have h : (∃ a, val 22 = .tuple a /\ a[3]? = some v) /\ hx = [] := h; rw [hd 22 (by decide)] at h; exact h) (fun val hn hD => ?_)
  obtain ⟨⟨⟨ax27, cx27, az27, cz27, ao27, co27, GA27⟩, e27, n27⟩, ⟨e22, n22⟩, _⟩ := hD
  have q27 : val 27 = .tuple #[.agg #[.int .i64 0, .int .i64 4, .int .i64 2, .slice ax27 3 cx27, .slice az27 1 cz27], .int .i64 0, .int .i64 2, .agg #[.slice ao27 kR1.ob.1.length co27, .int .i64 kR1.ob.2], .int .i64 0] := e27
  have q22 : val 22 = .tuple #[.agg #[.int .i64 0, .int .i64 4, .int .i64 2, .slice ax27 3 cx27, .slice az27 1 cz27], .int .i64 0, .int .i64 2, .agg #[.slice ao27 kR1.ob.1.length co27, .int .i64 kR1.ob.2], .int .i64 0] := (show val 22 = val 27 from e22).trans q27
  exact ⟨.agg #[.slice ao27 kR1.ob.1.length co27, .int .i64 kR1.ob.2], (⟨⟨_, q22, rfl⟩, rfl⟩ : (∃ a, val 22 = .tuple a /\ a[3]? = some (.agg #[.slice ao27 kR1.ob.1.length co27, .int .i64 kR1.ob.2])) /\ ([] : Hp) = []), fun w => R.extract (congrArg some q22) rfl⟩
 ·
  refine MP.quiet rfl rfl (fun val val' v hx hd h => by have h : (∃ a, val 22 = .tuple a /\ a[4]? = some v) /\ hx = [] := h; rw [hd 22 (by decide)] at h; exact h) (fun val hn hD => ?_)
  obtain ⟨⟨⟨ax27, cx27, az27, cz27, ao27, co27, GA27⟩, e27, n27⟩, ⟨e22, n22⟩, _⟩ := hD
  have q27 : val 27 = .tuple #[.agg #[.int .i64 0, .int .i64 4, .int .i64 2, .slice ax27 3 cx27, .slice az27 1 cz27], .int .i64 0, .int .i64 2, .agg #[.slice ao27 kR1.ob.1.length co27, .int .i64 kR1.ob.2], .int .i64 0] := e27
  have q22 : val 22 = .tuple #[.agg #[.int .i64 0, .int .i64 4, .int .i64 2, .slice ax27 3 cx27, .slice az27 1 cz27], .int .i64 0, .int .i64 2, .agg #[.slice ao27 kR1.ob.1.length co27, .int .i64 kR1.ob.2], .int .i64 0] := (show val 22 = val 27 from e22).trans q27
  exact ⟨.int .i64 0, (⟨⟨_, q22, rfl⟩, rfl⟩ : (∃ a, val 22 = .tuple a /\ a[4]? = some (.int .i64 0)) /\ ([] : Hp) = []), fun w => R.extract (congrArg some q22) rfl⟩
 . exact MP.loud rfl rfl (fun _ _ _ _ _ h => h) (fun val hn _ w hI => Does.new 3 (M.alloc tz37 rfl))
 . exact MP.loud rfl rfl (fun _ _ _ _ _ h => h) (fun val hn _ w hI => Does.new 6 (M.alloc tz60 rfl))
 rintro val hn ⟨⟨⟨aP, cP, GP⟩, e24, n24⟩, ⟨b25, e25, n25⟩, ⟨e26, n26⟩, ⟨⟨ax27, cx27, az27, cz27, ao27, co27, GA27⟩, e27, n27⟩, ⟨e22, n22⟩, ⟨⟨x28, e28, g28⟩, n28⟩, ⟨⟨x29, e29, g29⟩, n29⟩, ⟨⟨x30, e30, g30⟩, n30⟩, ⟨⟨x31, e31, g31⟩, n31⟩, ⟨⟨x32, e32, g32⟩, n32⟩, ⟨b3, e3, n3⟩, ⟨b6, e6, n6⟩, _⟩
 have q24 : val 24 = .slice aP 1 cP := e24
 have q25 : val 25 = .slice (some ⟨b25, 0, none⟩) 1 1 := e25
 have q26 : val 26 = .agg #[Value.int IntKind.i64 0, .slice (some ⟨b25, 0, none⟩) 1 1] := by rw [show val 26 = Value.agg #[Value.int IntKind.i64 0, val 25] from e26, q25]
 have q27 : val 27 = .tuple #[.agg #[.int .i64 0, .int .i64 4, .int .i64 2, .slice ax27 3 cx27, .slice az27 1 cz27], .int .i64 0, .int .i64 2, .agg #[.slice ao27 kR1.ob.1.length co27, .int .i64 kR1.ob.2], .int .i64 0] := e27
 have q22 : val 22 = .tuple #[.agg #[.int .i64 0, .int .i64 4, .int .i64 2, .slice ax27 3 cx27, .slice az27 1 cz27], .int .i64 0, .int .i64 2, .agg #[.slice ao27 kR1.ob.1.length co27, .int .i64 kR1.ob.2], .int .i64 0] := (show val 22 = val 27 from e22).trans q27
 have q28 : val 28 = .agg #[.int .i64 0, .int .i64 4, .int .i64 2, .slice ax27 3 cx27, .slice az27 1 cz27] := by rw [show val 22 = _ from q22] at e28; cases e28; exact (Option.some.inj (show some (.agg #[.int .i64 0, .int .i64 4, .int .i64 2, .slice ax27 3 cx27, .slice az27 1 cz27]) = some (val 28) from g28)).symm
 have q29 : val 29 = .int .i64 0 := by rw [show val 22 = _ from q22] at e29; cases e29; exact (Option.some.inj (show some (.int .i64 0) = some (val 29) from g29)).symm
 have q30 : val 30 = .int .i64 2 := by rw [show val 22 = _ from q22] at e30; cases e30; exact (Option.some.inj (show some (.int .i64 2) = some (val 30) from g30)).symm
 have q31 : val 31 = .agg #[.slice ao27 kR1.ob.1.length co27, .int .i64 kR1.ob.2] := by rw [show val 22 = _ from q22] at e31; cases e31; exact (Option.some.inj (show some (.agg #[.slice ao27 kR1.ob.1.length co27, .int .i64 kR1.ob.2]) = some (val 31) from g31)).symm
 have q32 : val 32 = .int .i64 0 := by rw [show val 22 = _ from q22] at e32; cases e32; exact (Option.some.inj (show some (.int .i64 0) = some (val 32) from g32)).symm
 have q3 : val 3 = .pointer (some ⟨b3, 0, none⟩) := e3
 have q6 : val 6 = .pointer (some ⟨b6, 0, none⟩) := e6
 have n24 : hn 24 = [(921, PgP GP (.slice aP 1 cP) [exF51])] := n24
 have n25 : hn 25 = [(25, .own b25 [.int .i64 1] 3)] := n25
 have n26 : hn 26 = [] := n26
 have n27 : hn 27 = [(902, aoY GA27 kR1 (ax27, cx27, az27, cz27, ao27, co27, GA27))] := n27
 have n22 : hn 22 = [] := n22
 have n28 : hn 28 = [] := n28
 have n29 : hn 29 = [] := n29
 have n30 : hn 30 = [] := n30
 have n31 : hn 31 = [] := n31
 have n32 : hn 32 = [] := n32
 have n3 : hn 3 = [(3, .own b3 [Value.int IntKind.i64 0, Value.int IntKind.i64 0, Value.int IntKind.i64 0, Value.slice none 0 0, Value.slice none 0 0] 37)] := n3
 have n6 : hn 6 = [(6, .own b6 [Value.slice none 0 0, Value.int IntKind.i64 0] 60)] := n6
 refine VD.cast [(1, some (1, 0)), (3, some (3, 0)), (6, some (6, 0))] [(24, .slice aP 1 cP), (25, .slice (some ⟨b25, 0, none⟩) 1 1), (26, .agg #[Value.int IntKind.i64 0, .slice (some ⟨b25, 0, none⟩) 1 1]), (27, .tuple #[.agg #[.int .i64 0, .int .i64 4, .int .i64 2, .slice ax27 3 cx27, .slice az27 1 cz27], .int .i64 0, .int .i64 2, .agg #[.slice ao27 kR1.ob.1.length co27, .int .i64 kR1.ob.2], .int .i64 0]), (22, .tuple #[.agg #[.int .i64 0, .int .i64 4, .int .i64 2, .slice ax27 3 cx27, .slice az27 1 cz27], .int .i64 0, .int .i64 2, .agg #[.slice ao27 kR1.ob.1.length co27, .int .i64 kR1.ob.2], .int .i64 0]), (28, .agg #[.int .i64 0, .int .i64 4, .int .i64 2, .slice ax27 3 cx27, .slice az27 1 cz27]), (29, .int .i64 0), (30, .int .i64 2), (31, .agg #[.slice ao27 kR1.ob.1.length co27, .int .i64 kR1.ob.2]), (32, .int .i64 0), (3, .pointer (some ⟨b3, 0, none⟩)), (6, .pointer (some ⟨b6, 0, none⟩))] [(921, PgP GP (.slice aP 1 cP) [exF51]), (25, .own b25 [.int .i64 1] 3), (902, aoY GA27 kR1 (ax27, cx27, az27, cz27, ao27, co27, GA27)), (3, .own b3 [Value.int IntKind.i64 0, Value.int IntKind.i64 0, Value.int IntKind.i64 0, Value.slice none 0 0, Value.slice none 0 0] 37), (6, .own b6 [Value.slice none 0 0, Value.int IntKind.i64 0] 60)] (by show [(24, val 24), (25, val 25), (26, val 26), (27, val 27), (22, val 22), (28, val 28), (29, val 29), (30, val 30), (31, val 31), (32, val 32), (3, val 3), (6, val 6)] = _; rw [q24, q25, q26, q27, q22, q28, q29, q30, q31, q32, q3, q6]) (by show (hn 24 ++ (hn 25 ++ (hn 26 ++ (hn 27 ++ (hn 22 ++ (hn 28 ++ (hn 29 ++ (hn 30 ++ (hn 31 ++ (hn 32 ++ (hn 3 ++ (hn 6 ++ [])))))))))))) = _; rw [n24, n25, n26, n27, n22, n28, n29, n30, n31, n32, n3, n6]; rfl) rfl rfl rfl ?_
 clear q24 n24 q25 n25 q26 n26 q27 n27 q22 n22 q28 n28 q29 n29 q30 n30 q31 n31 q32 n32 q3 n3 q6 n6
 refine Ve 13 0 rfl (by kernel_rfl) rfl rfl rfl ?_
 refine Vd [14, 15] 0 (by kernel_rfl) rfl rfl rfl ?_
 refine Ve 16 0 rfl (by kernel_rfl) rfl rfl rfl ?_
 refine Vd [17] 0 (by kernel_rfl) rfl rfl rfl ?_
 refine VD.done (by kernel_rfl) ?_
 refine Vs 2 rfl ?_
 refine Vw [1, 25, 3, 6] [] rfl ?_
 refine Vd [0] 0 (by kernel_rfl) rfl rfl rfl ?_
 refine VD.manyP 5 0 [(1, 35, [], false), (2, 36, [], false), (3, 37, [36], true), (4, 38, [35, 36, 37], false), (5, 33, [38], true), (6, 39, [38, 33], true), (7, 40, [38, 33], true), (8, 41, [38, 33], true), (9, 42, [38, 33], true), (10, 43, [38, 33], true), (11, 8, [], false), (12, 11, [], false)] (psi [(35, fun _ v hx => ∃ y : Option Addr × Nat × (Nat -> Prop), v = .slice y.1 1 y.2.1 /\ hx = [(922, PgP y.2.2 (.slice y.1 1 y.2.1) [exF51])]), (36, fun _ v hx => ∃ b, v = .slice (some ⟨b, 0, none⟩) 1 1 /\ hx = [(36, .own b [.int .i64 2] 3)]), (37, fun val v hx => v = Value.agg #[Value.int IntKind.i64 0, val 36] /\ hx = []), (38, fun _ v hx => ∃ y : Y8, v = .tuple #[.agg #[.int .i64 0, .int .i64 4, .int .i64 4, .slice y.1 2 y.2.1, .slice y.2.2.1 2 y.2.2.2.1], .int .i64 kR2.answer, .int .i64 kR2.charge, .agg #[.slice y.2.2.2.2.1 kR2.ob.1.length y.2.2.2.2.2.1, .int .i64 kR2.ob.2], .int .i64 0] /\ hx = [(903, aoY y.2.2.2.2.2.2 kR2 y)]), (33, fun val v hx => v = val 38 /\ hx = []), (39, fun val v hx => (∃ a, val 33 = .tuple a /\ a[0]? = some v) /\ hx = []), (40, fun val v hx => (∃ a, val 33 = .tuple a /\ a[1]? = some v) /\ hx = []), (41, fun val v hx => (∃ a, val 33 = .tuple a /\ a[2]? = some v) /\ hx = []), (42, fun val v hx => (∃ a, val 33 = .tuple a /\ a[3]? = some v) /\ hx = []), (43, fun val v hx => (∃ a, val 33 = .tuple a /\ a[4]? = some v) /\ hx = []), (8, fun _ v hx => ∃ b, v = .pointer (some ⟨b, 0, none⟩) /\ hx = [(8, .own b [Value.int IntKind.i64 0, Value.int IntKind.i64 0, Value.int IntKind.i64 0, Value.slice none 0 0, Value.slice none 0 0] 37)]), (11, fun _ v hx => ∃ b, v = .pointer (some ⟨b, 0, none⟩) /\ hx = [(11, .own b [Value.slice none 0 0, Value.int IntKind.i64 0] 60)])]) (by kernel_rfl) (by kernel_rfl) rfl rfl ⟨?_, ?_, ?_, ?_, ?_, ?_, ?_, ?_, ?_, ?_, ?_, ?_, True.intro⟩ ?_
 . exact MP.loud rfl rfl (fun _ _ _ _ _ h => h) (fun val hn _ w hI => Does.call (F.call Tryz.call41 (yt rfl)) (ko (H := []) (zgq 922 (qE w))))
 . exact MP.loud rfl rfl (fun _ _ _ _ _ h => h) (fun val hn _ w hI => Does.new 36 (M.buildSlice [(0, .int .i64 2)] tR31 ts3 tz3 (by decide) rfl (by kernel_rfl)))
 ·
  refine MP.quiet rfl rfl (fun val val' v hx hd h => by have h : v = Value.agg #[Value.int IntKind.i64 0, val 36] /\ hx = [] := h; exact (show v = Value.agg #[Value.int IntKind.i64 0, val' 36] /\ hx = [] from ⟨by rw [h.1, hd 36 (by decide)], h.2⟩)) (fun val hn hD => ?_)
  obtain ⟨⟨b36, e36, n36⟩, _⟩ := hD
  have q36 : val 36 = .slice (some ⟨b36, 0, none⟩) 1 1 := e36
  exact ⟨.agg #[Value.int IntKind.i64 0, .slice (some ⟨b36, 0, none⟩) 1 1], (⟨by rw [q36], rfl⟩ : Value.agg #[Value.int IntKind.i64 0, .slice (some ⟨b36, 0, none⟩) 1 1] = Value.agg #[Value.int IntKind.i64 0, val 36] /\ ([] : Hp) = []), fun w => R.build [(1, .slice (some ⟨b36, 0, none⟩) 1 1)] (by show [(1, some (val 36))] = _; rw [q36]; rfl) (fun _ => by kernel_rfl)⟩
 ·
  refine MP.loud rfl rfl (fun _ _ _ _ _ h => h) (fun val hn hD w hI => ?_)
  obtain ⟨⟨⟨aP, cP, GP⟩, e35, n35⟩, ⟨b36, e36, n36⟩, ⟨e37, n37⟩, _⟩ := hD
  have q35 : val 35 = .slice aP 1 cP := e35
  have q36 : val 36 = .slice (some ⟨b36, 0, none⟩) 1 1 := e36
  have q37 : val 37 = .agg #[Value.int IntKind.i64 0, .slice (some ⟨b36, 0, none⟩) 1 1] := by rw [show val 37 = Value.agg #[Value.int IntKind.i64 0, val 36] from e37, q36]
  have n35 : hn 35 = [(922, PgP GP (.slice aP 1 cP) [exF51])] := n35
  have n36 : hn 36 = [(36, .own b36 [.int .i64 2] 3)] := n36
  have n37 : hn 37 = [] := n37
  simp only [hpD, n35, n36, n37, List.cons_append, List.nil_append] at hI
  refine Does.call (F.call Tryz.call24 (yt rfl)) ?_
  simp only [q35, q37]
  exact ko (H := []) (zdP 903 kA1 2 kR2 (by decide) kB1 (show RAc _ _ kA1 _ _ from (hI.at 902 rfl).1) (show SlR 3 RPg _ _ _ _ from hI.at 922 rfl) (SlR.ofRow1 (D := fun _ => True) ze (fun _ _ => rfl) (yx (k := 1) (n := 1) (cap := 1) (hI.at 36 rfl) (Nat.le_refl _) (by decide) rfl) (fun _ _ => trivial)) (Tr1 hI.k0 ht) ziN)
 . exact MP.quiet rfl rfl (fun val val' v hx hd h => by have h : v = val 38 /\ hx = [] := h; exact (show v = val' 38 /\ hx = [] from ⟨h.1.trans (hd 38 (by decide)), h.2⟩)) (fun val hn hD => ⟨val 38, (⟨rfl, rfl⟩ : val 38 = val 38 /\ ([] : Hp) = []), fun w => R.move rfl⟩)
 ·
  refine MP.quiet rfl rfl (fun val val' v hx hd h => by have h : (∃ a, val 33 = .tuple a /\ a[0]? = some v) /\ hx = [] := h; rw [hd 33 (by decide)] at h; exact h) (fun val hn hD => ?_)
  obtain ⟨⟨⟨ax38, cx38, az38, cz38, ao38, co38, GA38⟩, e38, n38⟩, ⟨e33, n33⟩, _⟩ := hD
  have q38 : val 38 = .tuple #[.agg #[.int .i64 0, .int .i64 4, .int .i64 4, .slice ax38 2 cx38, .slice az38 2 cz38], .int .i64 kR2.answer, .int .i64 kR2.charge, .agg #[.slice ao38 kR2.ob.1.length co38, .int .i64 kR2.ob.2], .int .i64 0] := e38
  have q33 : val 33 = .tuple #[.agg #[.int .i64 0, .int .i64 4, .int .i64 4, .slice ax38 2 cx38, .slice az38 2 cz38], .int .i64 kR2.answer, .int .i64 kR2.charge, .agg #[.slice ao38 kR2.ob.1.length co38, .int .i64 kR2.ob.2], .int .i64 0] := (show val 33 = val 38 from e33).trans q38
  exact ⟨.agg #[.int .i64 0, .int .i64 4, .int .i64 4, .slice ax38 2 cx38, .slice az38 2 cz38], (⟨⟨_, q33, rfl⟩, rfl⟩ : (∃ a, val 33 = .tuple a /\ a[0]? = some (.agg #[.int .i64 0, .int .i64 4, .int .i64 4, .slice ax38 2 cx38, .slice az38 2 cz38])) /\ ([] : Hp) = []), fun w => R.extract (congrArg some q33) rfl⟩
 ·
  refine MP.quiet rfl rfl (fun val val' v hx hd h => by have h : (∃ a, val 33 = .tuple a /\ a[1]? = some v) /\ hx = [] := h; rw [hd 33 (by decide)] at h; exact h) (fun val hn hD => ?_)
  obtain ⟨⟨⟨ax38, cx38, az38, cz38, ao38, co38, GA38⟩, e38, n38⟩, ⟨e33, n33⟩, _⟩ := hD
  have q38 : val 38 = .tuple #[.agg #[.int .i64 0, .int .i64 4, .int .i64 4, .slice ax38 2 cx38, .slice az38 2 cz38], .int .i64 kR2.answer, .int .i64 kR2.charge, .agg #[.slice ao38 kR2.ob.1.length co38, .int .i64 kR2.ob.2], .int .i64 0] := e38
  have q33 : val 33 = .tuple #[.agg #[.int .i64 0, .int .i64 4, .int .i64 4, .slice ax38 2 cx38, .slice az38 2 cz38], .int .i64 kR2.answer, .int .i64 kR2.charge, .agg #[.slice ao38 kR2.ob.1.length co38, .int .i64 kR2.ob.2], .int .i64 0] := (show val 33 = val 38 from e33).trans q38
  exact ⟨.int .i64 kR2.answer, (⟨⟨_, q33, rfl⟩, rfl⟩ : (∃ a, val 33 = .tuple a /\ a[1]? = some (.int .i64 kR2.answer)) /\ ([] : Hp) = []), fun w => R.extract (congrArg some q33) rfl⟩
 ·
  refine MP.quiet rfl rfl (fun val val' v hx hd h => by have h : (∃ a, val 33 = .tuple a /\ a[2]? = some v) /\ hx = [] := h; rw [hd 33 (by decide)] at h; exact h) (fun val hn hD => ?_)
  obtain ⟨⟨⟨ax38, cx38, az38, cz38, ao38, co38, GA38⟩, e38, n38⟩, ⟨e33, n33⟩, _⟩ := hD
  have q38 : val 38 = .tuple #[.agg #[.int .i64 0, .int .i64 4, .int .i64 4, .slice ax38 2 cx38, .slice az38 2 cz38], .int .i64 kR2.answer, .int .i64 kR2.charge, .agg #[.slice ao38 kR2.ob.1.length co38, .int .i64 kR2.ob.2], .int .i64 0] := e38
  have q33 : val 33 = .tuple #[.agg #[.int .i64 0, .int .i64 4, .int .i64 4, .slice ax38 2 cx38, .slice az38 2 cz38], .int .i64 kR2.answer, .int .i64 kR2.charge, .agg #[.slice ao38 kR2.ob.1.length co38, .int .i64 kR2.ob.2], .int .i64 0] := (show val 33 = val 38 from e33).trans q38
  exact ⟨.int .i64 kR2.charge, (⟨⟨_, q33, rfl⟩, rfl⟩ : (∃ a, val 33 = .tuple a /\ a[2]? = some (.int .i64 kR2.charge)) /\ ([] : Hp) = []), fun w => R.extract (congrArg some q33) rfl⟩
 ·
  refine MP.quiet rfl rfl (fun val val' v hx hd h => by have h : (∃ a, val 33 = .tuple a /\ a[3]? = some v) /\ hx = [] := h; rw [hd 33 (by decide)] at h; exact h) (fun val hn hD => ?_)
  obtain ⟨⟨⟨ax38, cx38, az38, cz38, ao38, co38, GA38⟩, e38, n38⟩, ⟨e33, n33⟩, _⟩ := hD
  have q38 : val 38 = .tuple #[.agg #[.int .i64 0, .int .i64 4, .int .i64 4, .slice ax38 2 cx38, .slice az38 2 cz38], .int .i64 kR2.answer, .int .i64 kR2.charge, .agg #[.slice ao38 kR2.ob.1.length co38, .int .i64 kR2.ob.2], .int .i64 0] := e38
  have q33 : val 33 = .tuple #[.agg #[.int .i64 0, .int .i64 4, .int .i64 4, .slice ax38 2 cx38, .slice az38 2 cz38], .int .i64 kR2.answer, .int .i64 kR2.charge, .agg #[.slice ao38 kR2.ob.1.length co38, .int .i64 kR2.ob.2], .int .i64 0] := (show val 33 = val 38 from e33).trans q38
  exact ⟨.agg #[.slice ao38 kR2.ob.1.length co38, .int .i64 kR2.ob.2], (⟨⟨_, q33, rfl⟩, rfl⟩ : (∃ a, val 33 = .tuple a /\ a[3]? = some (.agg #[.slice ao38 kR2.ob.1.length co38, .int .i64 kR2.ob.2])) /\ ([] : Hp) = []), fun w => R.extract (congrArg some q33) rfl⟩
 ·
  refine MP.quiet rfl rfl (fun val val' v hx hd h => by have h : (∃ a, val 33 = .tuple a /\ a[4]? = some v) /\ hx = [] := h; rw [hd 33 (by decide)] at h; exact h) (fun val hn hD => ?_)
  obtain ⟨⟨⟨ax38, cx38, az38, cz38, ao38, co38, GA38⟩, e38, n38⟩, ⟨e33, n33⟩, _⟩ := hD
  have q38 : val 38 = .tuple #[.agg #[.int .i64 0, .int .i64 4, .int .i64 4, .slice ax38 2 cx38, .slice az38 2 cz38], .int .i64 kR2.answer, .int .i64 kR2.charge, .agg #[.slice ao38 kR2.ob.1.length co38, .int .i64 kR2.ob.2], .int .i64 0] := e38
  have q33 : val 33 = .tuple #[.agg #[.int .i64 0, .int .i64 4, .int .i64 4, .slice ax38 2 cx38, .slice az38 2 cz38], .int .i64 kR2.answer, .int .i64 kR2.charge, .agg #[.slice ao38 kR2.ob.1.length co38, .int .i64 kR2.ob.2], .int .i64 0] := (show val 33 = val 38 from e33).trans q38
  exact ⟨.int .i64 0, (⟨⟨_, q33, rfl⟩, rfl⟩ : (∃ a, val 33 = .tuple a /\ a[4]? = some (.int .i64 0)) /\ ([] : Hp) = []), fun w => R.extract (congrArg some q33) rfl⟩
 . exact MP.loud rfl rfl (fun _ _ _ _ _ h => h) (fun val hn _ w hI => Does.new 8 (M.alloc tz37 rfl))
 . exact MP.loud rfl rfl (fun _ _ _ _ _ h => h) (fun val hn _ w hI => Does.new 11 (M.alloc tz60 rfl))
 rintro val hn ⟨⟨⟨aP, cP, GP⟩, e35, n35⟩, ⟨b36, e36, n36⟩, ⟨e37, n37⟩, ⟨⟨ax38, cx38, az38, cz38, ao38, co38, GA38⟩, e38, n38⟩, ⟨e33, n33⟩, ⟨⟨x39, e39, g39⟩, n39⟩, ⟨⟨x40, e40, g40⟩, n40⟩, ⟨⟨x41, e41, g41⟩, n41⟩, ⟨⟨x42, e42, g42⟩, n42⟩, ⟨⟨x43, e43, g43⟩, n43⟩, ⟨b8, e8, n8⟩, ⟨b11, e11, n11⟩, _⟩
 have q35 : val 35 = .slice aP 1 cP := e35
 have q36 : val 36 = .slice (some ⟨b36, 0, none⟩) 1 1 := e36
 have q37 : val 37 = .agg #[Value.int IntKind.i64 0, .slice (some ⟨b36, 0, none⟩) 1 1] := by rw [show val 37 = Value.agg #[Value.int IntKind.i64 0, val 36] from e37, q36]
 have q38 : val 38 = .tuple #[.agg #[.int .i64 0, .int .i64 4, .int .i64 4, .slice ax38 2 cx38, .slice az38 2 cz38], .int .i64 kR2.answer, .int .i64 kR2.charge, .agg #[.slice ao38 kR2.ob.1.length co38, .int .i64 kR2.ob.2], .int .i64 0] := e38
 have q33 : val 33 = .tuple #[.agg #[.int .i64 0, .int .i64 4, .int .i64 4, .slice ax38 2 cx38, .slice az38 2 cz38], .int .i64 kR2.answer, .int .i64 kR2.charge, .agg #[.slice ao38 kR2.ob.1.length co38, .int .i64 kR2.ob.2], .int .i64 0] := (show val 33 = val 38 from e33).trans q38
 have q39 : val 39 = .agg #[.int .i64 0, .int .i64 4, .int .i64 4, .slice ax38 2 cx38, .slice az38 2 cz38] := by rw [show val 33 = _ from q33] at e39; cases e39; exact (Option.some.inj (show some (.agg #[.int .i64 0, .int .i64 4, .int .i64 4, .slice ax38 2 cx38, .slice az38 2 cz38]) = some (val 39) from g39)).symm
 have q40 : val 40 = .int .i64 kR2.answer := by rw [show val 33 = _ from q33] at e40; cases e40; exact (Option.some.inj (show some (.int .i64 kR2.answer) = some (val 40) from g40)).symm
 have q41 : val 41 = .int .i64 kR2.charge := by rw [show val 33 = _ from q33] at e41; cases e41; exact (Option.some.inj (show some (.int .i64 kR2.charge) = some (val 41) from g41)).symm
 have q42 : val 42 = .agg #[.slice ao38 kR2.ob.1.length co38, .int .i64 kR2.ob.2] := by rw [show val 33 = _ from q33] at e42; cases e42; exact (Option.some.inj (show some (.agg #[.slice ao38 kR2.ob.1.length co38, .int .i64 kR2.ob.2]) = some (val 42) from g42)).symm
 have q43 : val 43 = .int .i64 0 := by rw [show val 33 = _ from q33] at e43; cases e43; exact (Option.some.inj (show some (.int .i64 0) = some (val 43) from g43)).symm
 have q8 : val 8 = .pointer (some ⟨b8, 0, none⟩) := e8
 have q11 : val 11 = .pointer (some ⟨b11, 0, none⟩) := e11
 have n35 : hn 35 = [(922, PgP GP (.slice aP 1 cP) [exF51])] := n35
 have n36 : hn 36 = [(36, .own b36 [.int .i64 2] 3)] := n36
 have n37 : hn 37 = [] := n37
 have n38 : hn 38 = [(903, aoY GA38 kR2 (ax38, cx38, az38, cz38, ao38, co38, GA38))] := n38
 have n33 : hn 33 = [] := n33
 have n39 : hn 39 = [] := n39
 have n40 : hn 40 = [] := n40
 have n41 : hn 41 = [] := n41
 have n42 : hn 42 = [] := n42
 have n43 : hn 43 = [] := n43
 have n8 : hn 8 = [(8, .own b8 [Value.int IntKind.i64 0, Value.int IntKind.i64 0, Value.int IntKind.i64 0, Value.slice none 0 0, Value.slice none 0 0] 37)] := n8
 have n11 : hn 11 = [(11, .own b11 [Value.slice none 0 0, Value.int IntKind.i64 0] 60)] := n11
 refine VD.cast [(1, some (1, 0)), (3, some (3, 0)), (6, some (6, 0)), (8, some (8, 0)), (11, some (11, 0))] [(35, .slice aP 1 cP), (36, .slice (some ⟨b36, 0, none⟩) 1 1), (37, .agg #[Value.int IntKind.i64 0, .slice (some ⟨b36, 0, none⟩) 1 1]), (38, .tuple #[.agg #[.int .i64 0, .int .i64 4, .int .i64 4, .slice ax38 2 cx38, .slice az38 2 cz38], .int .i64 kR2.answer, .int .i64 kR2.charge, .agg #[.slice ao38 kR2.ob.1.length co38, .int .i64 kR2.ob.2], .int .i64 0]), (33, .tuple #[.agg #[.int .i64 0, .int .i64 4, .int .i64 4, .slice ax38 2 cx38, .slice az38 2 cz38], .int .i64 kR2.answer, .int .i64 kR2.charge, .agg #[.slice ao38 kR2.ob.1.length co38, .int .i64 kR2.ob.2], .int .i64 0]), (39, .agg #[.int .i64 0, .int .i64 4, .int .i64 4, .slice ax38 2 cx38, .slice az38 2 cz38]), (40, .int .i64 kR2.answer), (41, .int .i64 kR2.charge), (42, .agg #[.slice ao38 kR2.ob.1.length co38, .int .i64 kR2.ob.2]), (43, .int .i64 0), (8, .pointer (some ⟨b8, 0, none⟩)), (11, .pointer (some ⟨b11, 0, none⟩))] [(922, PgP GP (.slice aP 1 cP) [exF51]), (36, .own b36 [.int .i64 2] 3), (903, aoY GA38 kR2 (ax38, cx38, az38, cz38, ao38, co38, GA38)), (8, .own b8 [Value.int IntKind.i64 0, Value.int IntKind.i64 0, Value.int IntKind.i64 0, Value.slice none 0 0, Value.slice none 0 0] 37), (11, .own b11 [Value.slice none 0 0, Value.int IntKind.i64 0] 60)] (by show [(35, val 35), (36, val 36), (37, val 37), (38, val 38), (33, val 33), (39, val 39), (40, val 40), (41, val 41), (42, val 42), (43, val 43), (8, val 8), (11, val 11)] = _; rw [q35, q36, q37, q38, q33, q39, q40, q41, q42, q43, q8, q11]) (by show (hn 35 ++ (hn 36 ++ (hn 37 ++ (hn 38 ++ (hn 33 ++ (hn 39 ++ (hn 40 ++ (hn 41 ++ (hn 42 ++ (hn 43 ++ (hn 8 ++ (hn 11 ++ [])))))))))))) = _; rw [n35, n36, n37, n38, n33, n39, n40, n41, n42, n43, n8, n11]; rfl) rfl rfl rfl ?_
 clear q35 n35 q36 n36 q37 n37 q38 n38 q33 n33 q39 n39 q40 n40 q41 n41 q42 n42 q43 n43 q8 n8 q11 n11
 refine Ve 13 0 rfl (by kernel_rfl) rfl rfl rfl ?_
 refine Vd [14, 15] 0 (by kernel_rfl) rfl rfl rfl ?_
 refine Ve 16 0 rfl (by kernel_rfl) rfl rfl rfl ?_
 refine Vd [17] 0 (by kernel_rfl) rfl rfl rfl ?_
 refine VD.done (by kernel_rfl) ?_
 refine Vs 2 rfl ?_
 refine Vw [1, 25, 3, 6, 36, 8, 11] [] rfl ?_
 refine Vd [0] 0 (by kernel_rfl) rfl rfl rfl ?_
 refine VD.manyP 5 0 [(1, 46, [], false), (2, 47, [], false), (3, 48, [47], true), (4, 49, [46, 47, 48], false), (5, 44, [49], true), (6, 50, [49, 44], true), (7, 51, [49, 44], true), (8, 52, [49, 44], true), (9, 53, [49, 44], true), (10, 54, [49, 44], true), (11, 13, [], false), (12, 16, [], false)] (psi [(46, fun _ v hx => ∃ y : Option Addr × Nat × (Nat -> Prop), v = .slice y.1 1 y.2.1 /\ hx = [(923, PgP y.2.2 (.slice y.1 1 y.2.1) [exF51])]), (47, fun _ v hx => ∃ b, v = .slice (some ⟨b, 0, none⟩) 1 1 /\ hx = [(47, .own b [.int .i64 0] 3)]), (48, fun val v hx => v = Value.agg #[Value.int IntKind.i64 0, val 47] /\ hx = []), (49, fun _ v hx => ∃ y : Y8, v = .tuple #[.agg #[.int .i64 kR3.ac.mode, .int .i64 kR3.ac.budget, .int .i64 kR3.ac.spent, .slice y.1 kR3.ac.left.length y.2.1, .slice y.2.2.1 kR3.ac.asked.length y.2.2.2.1], .int .i64 kR3.answer, .int .i64 kR3.charge, .agg #[.slice y.2.2.2.2.1 kR3.ob.1.length y.2.2.2.2.2.1, .int .i64 kR3.ob.2], .int .i64 18] /\ hx = [(904, aoY y.2.2.2.2.2.2 kR3 y)]), (44, fun val v hx => v = val 49 /\ hx = []), (50, fun val v hx => (∃ a, val 44 = .tuple a /\ a[0]? = some v) /\ hx = []), (51, fun val v hx => (∃ a, val 44 = .tuple a /\ a[1]? = some v) /\ hx = []), (52, fun val v hx => (∃ a, val 44 = .tuple a /\ a[2]? = some v) /\ hx = []), (53, fun val v hx => (∃ a, val 44 = .tuple a /\ a[3]? = some v) /\ hx = []), (54, fun val v hx => (∃ a, val 44 = .tuple a /\ a[4]? = some v) /\ hx = []), (13, fun _ v hx => ∃ b, v = .pointer (some ⟨b, 0, none⟩) /\ hx = [(13, .own b [Value.int IntKind.i64 0, Value.int IntKind.i64 0, Value.int IntKind.i64 0, Value.slice none 0 0, Value.slice none 0 0] 37)]), (16, fun _ v hx => ∃ b, v = .pointer (some ⟨b, 0, none⟩) /\ hx = [(16, .own b [Value.slice none 0 0, Value.int IntKind.i64 0] 60)])]) (by kernel_rfl) (by kernel_rfl) rfl rfl ⟨?_, ?_, ?_, ?_, ?_, ?_, ?_, ?_, ?_, ?_, ?_, ?_, True.intro⟩ ?_
 . exact MP.loud rfl rfl (fun _ _ _ _ _ h => h) (fun val hn _ w hI => Does.call (F.call Tryz.call41 (yt rfl)) (ko (H := []) (zgq 923 (qE w))))
 . exact MP.loud rfl rfl (fun _ _ _ _ _ h => h) (fun val hn _ w hI => Does.new 47 (M.buildSlice [(0, .int .i64 0)] tR31 ts3 tz3 (by decide) rfl (by kernel_rfl)))
 ·
  refine MP.quiet rfl rfl (fun val val' v hx hd h => by have h : v = Value.agg #[Value.int IntKind.i64 0, val 47] /\ hx = [] := h; exact (show v = Value.agg #[Value.int IntKind.i64 0, val' 47] /\ hx = [] from ⟨by rw [h.1, hd 47 (by decide)], h.2⟩)) (fun val hn hD => ?_)
  obtain ⟨⟨b47, e47, n47⟩, _⟩ := hD
  have q47 : val 47 = .slice (some ⟨b47, 0, none⟩) 1 1 := e47
  exact ⟨.agg #[Value.int IntKind.i64 0, .slice (some ⟨b47, 0, none⟩) 1 1], (⟨by rw [q47], rfl⟩ : Value.agg #[Value.int IntKind.i64 0, .slice (some ⟨b47, 0, none⟩) 1 1] = Value.agg #[Value.int IntKind.i64 0, val 47] /\ ([] : Hp) = []), fun w => R.build [(1, .slice (some ⟨b47, 0, none⟩) 1 1)] (by show [(1, some (val 47))] = _; rw [q47]; rfl) (fun _ => by kernel_rfl)⟩
 ·
  refine MP.loud rfl rfl (fun _ _ _ _ _ h => h) (fun val hn hD w hI => ?_)
  obtain ⟨⟨⟨aP, cP, GP⟩, e46, n46⟩, ⟨b47, e47, n47⟩, ⟨e48, n48⟩, _⟩ := hD
  have q46 : val 46 = .slice aP 1 cP := e46
  have q47 : val 47 = .slice (some ⟨b47, 0, none⟩) 1 1 := e47
  have q48 : val 48 = .agg #[Value.int IntKind.i64 0, .slice (some ⟨b47, 0, none⟩) 1 1] := by rw [show val 48 = Value.agg #[Value.int IntKind.i64 0, val 47] from e48, q47]
  have n46 : hn 46 = [(923, PgP GP (.slice aP 1 cP) [exF51])] := n46
  have n47 : hn 47 = [(47, .own b47 [.int .i64 0] 3)] := n47
  have n48 : hn 48 = [] := n48
  simp only [hpD, n46, n47, n48, List.cons_append, List.nil_append] at hI
  refine Does.call (F.call Tryz.call24 (yt rfl)) ?_
  simp only [q46, q48]
  exact ko (H := []) (zdP 904 kA2 0 kR3 (by decide) kB2 (show RAc _ _ kA2 _ _ from (hI.at 903 rfl).1) (show SlR 3 RPg _ _ _ _ from hI.at 923 rfl) (SlR.ofRow1 (D := fun _ => True) ze (fun _ _ => rfl) (yx (k := 1) (n := 1) (cap := 1) (hI.at 47 rfl) (Nat.le_refl _) (by decide) rfl) (fun _ _ => trivial)) (Tr1 hI.k0 ht) ziO)
 . exact MP.quiet rfl rfl (fun val val' v hx hd h => by have h : v = val 49 /\ hx = [] := h; exact (show v = val' 49 /\ hx = [] from ⟨h.1.trans (hd 49 (by decide)), h.2⟩)) (fun val hn hD => ⟨val 49, (⟨rfl, rfl⟩ : val 49 = val 49 /\ ([] : Hp) = []), fun w => R.move rfl⟩)
 ·
  refine MP.quiet rfl rfl (fun val val' v hx hd h => by have h : (∃ a, val 44 = .tuple a /\ a[0]? = some v) /\ hx = [] := h; rw [hd 44 (by decide)] at h; exact h) (fun val hn hD => ?_)
  obtain ⟨⟨⟨ax49, cx49, az49, cz49, ao49, co49, GA49⟩, e49, n49⟩, ⟨e44, n44⟩, _⟩ := hD
  have q49 : val 49 = .tuple #[.agg #[.int .i64 kR3.ac.mode, .int .i64 kR3.ac.budget, .int .i64 kR3.ac.spent, .slice ax49 kR3.ac.left.length cx49, .slice az49 kR3.ac.asked.length cz49], .int .i64 kR3.answer, .int .i64 kR3.charge, .agg #[.slice ao49 kR3.ob.1.length co49, .int .i64 kR3.ob.2], .int .i64 18] := e49
  have q44 : val 44 = .tuple #[.agg #[.int .i64 kR3.ac.mode, .int .i64 kR3.ac.budget, .int .i64 kR3.ac.spent, .slice ax49 kR3.ac.left.length cx49, .slice az49 kR3.ac.asked.length cz49], .int .i64 kR3.answer, .int .i64 kR3.charge, .agg #[.slice ao49 kR3.ob.1.length co49, .int .i64 kR3.ob.2], .int .i64 18] := (show val 44 = val 49 from e44).trans q49
  exact ⟨.agg #[.int .i64 kR3.ac.mode, .int .i64 kR3.ac.budget, .int .i64 kR3.ac.spent, .slice ax49 kR3.ac.left.length cx49, .slice az49 kR3.ac.asked.length cz49], (⟨⟨_, q44, rfl⟩, rfl⟩ : (∃ a, val 44 = .tuple a /\ a[0]? = some (.agg #[.int .i64 kR3.ac.mode, .int .i64 kR3.ac.budget, .int .i64 kR3.ac.spent, .slice ax49 kR3.ac.left.length cx49, .slice az49 kR3.ac.asked.length cz49])) /\ ([] : Hp) = []), fun w => R.extract (congrArg some q44) rfl⟩
 ·
  refine MP.quiet rfl rfl (fun val val' v hx hd h => by have h : (∃ a, val 44 = .tuple a /\ a[1]? = some v) /\ hx = [] := h; rw [hd 44 (by decide)] at h; exact h) (fun val hn hD => ?_)
  obtain ⟨⟨⟨ax49, cx49, az49, cz49, ao49, co49, GA49⟩, e49, n49⟩, ⟨e44, n44⟩, _⟩ := hD
  have q49 : val 49 = .tuple #[.agg #[.int .i64 kR3.ac.mode, .int .i64 kR3.ac.budget, .int .i64 kR3.ac.spent, .slice ax49 kR3.ac.left.length cx49, .slice az49 kR3.ac.asked.length cz49], .int .i64 kR3.answer, .int .i64 kR3.charge, .agg #[.slice ao49 kR3.ob.1.length co49, .int .i64 kR3.ob.2], .int .i64 18] := e49
  have q44 : val 44 = .tuple #[.agg #[.int .i64 kR3.ac.mode, .int .i64 kR3.ac.budget, .int .i64 kR3.ac.spent, .slice ax49 kR3.ac.left.length cx49, .slice az49 kR3.ac.asked.length cz49], .int .i64 kR3.answer, .int .i64 kR3.charge, .agg #[.slice ao49 kR3.ob.1.length co49, .int .i64 kR3.ob.2], .int .i64 18] := (show val 44 = val 49 from e44).trans q49
  exact ⟨.int .i64 kR3.answer, (⟨⟨_, q44, rfl⟩, rfl⟩ : (∃ a, val 44 = .tuple a /\ a[1]? = some (.int .i64 kR3.answer)) /\ ([] : Hp) = []), fun w => R.extract (congrArg some q44) rfl⟩
 ·
  refine MP.quiet rfl rfl (fun val val' v hx hd h => by have h : (∃ a, val 44 = .tuple a /\ a[2]? = some v) /\ hx = [] := h; rw [hd 44 (by decide)] at h; exact h) (fun val hn hD => ?_)
  obtain ⟨⟨⟨ax49, cx49, az49, cz49, ao49, co49, GA49⟩, e49, n49⟩, ⟨e44, n44⟩, _⟩ := hD
  have q49 : val 49 = .tuple #[.agg #[.int .i64 kR3.ac.mode, .int .i64 kR3.ac.budget, .int .i64 kR3.ac.spent, .slice ax49 kR3.ac.left.length cx49, .slice az49 kR3.ac.asked.length cz49], .int .i64 kR3.answer, .int .i64 kR3.charge, .agg #[.slice ao49 kR3.ob.1.length co49, .int .i64 kR3.ob.2], .int .i64 18] := e49
  have q44 : val 44 = .tuple #[.agg #[.int .i64 kR3.ac.mode, .int .i64 kR3.ac.budget, .int .i64 kR3.ac.spent, .slice ax49 kR3.ac.left.length cx49, .slice az49 kR3.ac.asked.length cz49], .int .i64 kR3.answer, .int .i64 kR3.charge, .agg #[.slice ao49 kR3.ob.1.length co49, .int .i64 kR3.ob.2], .int .i64 18] := (show val 44 = val 49 from e44).trans q49
  exact ⟨.int .i64 kR3.charge, (⟨⟨_, q44, rfl⟩, rfl⟩ : (∃ a, val 44 = .tuple a /\ a[2]? = some (.int .i64 kR3.charge)) /\ ([] : Hp) = []), fun w => R.extract (congrArg some q44) rfl⟩
 ·
  refine MP.quiet rfl rfl (fun val val' v hx hd h => by have h : (∃ a, val 44 = .tuple a /\ a[3]? = some v) /\ hx = [] := h; rw [hd 44 (by decide)] at h; exact h) (fun val hn hD => ?_)
  obtain ⟨⟨⟨ax49, cx49, az49, cz49, ao49, co49, GA49⟩, e49, n49⟩, ⟨e44, n44⟩, _⟩ := hD
  have q49 : val 49 = .tuple #[.agg #[.int .i64 kR3.ac.mode, .int .i64 kR3.ac.budget, .int .i64 kR3.ac.spent, .slice ax49 kR3.ac.left.length cx49, .slice az49 kR3.ac.asked.length cz49], .int .i64 kR3.answer, .int .i64 kR3.charge, .agg #[.slice ao49 kR3.ob.1.length co49, .int .i64 kR3.ob.2], .int .i64 18] := e49
  have q44 : val 44 = .tuple #[.agg #[.int .i64 kR3.ac.mode, .int .i64 kR3.ac.budget, .int .i64 kR3.ac.spent, .slice ax49 kR3.ac.left.length cx49, .slice az49 kR3.ac.asked.length cz49], .int .i64 kR3.answer, .int .i64 kR3.charge, .agg #[.slice ao49 kR3.ob.1.length co49, .int .i64 kR3.ob.2], .int .i64 18] := (show val 44 = val 49 from e44).trans q49
  exact ⟨.agg #[.slice ao49 kR3.ob.1.length co49, .int .i64 kR3.ob.2], (⟨⟨_, q44, rfl⟩, rfl⟩ : (∃ a, val 44 = .tuple a /\ a[3]? = some (.agg #[.slice ao49 kR3.ob.1.length co49, .int .i64 kR3.ob.2])) /\ ([] : Hp) = []), fun w => R.extract (congrArg some q44) rfl⟩
 ·
  refine MP.quiet rfl rfl (fun val val' v hx hd h => by have h : (∃ a, val 44 = .tuple a /\ a[4]? = some v) /\ hx = [] := h; rw [hd 44 (by decide)] at h; exact h) (fun val hn hD => ?_)
  obtain ⟨⟨⟨ax49, cx49, az49, cz49, ao49, co49, GA49⟩, e49, n49⟩, ⟨e44, n44⟩, _⟩ := hD
  have q49 : val 49 = .tuple #[.agg #[.int .i64 kR3.ac.mode, .int .i64 kR3.ac.budget, .int .i64 kR3.ac.spent, .slice ax49 kR3.ac.left.length cx49, .slice az49 kR3.ac.asked.length cz49], .int .i64 kR3.answer, .int .i64 kR3.charge, .agg #[.slice ao49 kR3.ob.1.length co49, .int .i64 kR3.ob.2], .int .i64 18] := e49
  have q44 : val 44 = .tuple #[.agg #[.int .i64 kR3.ac.mode, .int .i64 kR3.ac.budget, .int .i64 kR3.ac.spent, .slice ax49 kR3.ac.left.length cx49, .slice az49 kR3.ac.asked.length cz49], .int .i64 kR3.answer, .int .i64 kR3.charge, .agg #[.slice ao49 kR3.ob.1.length co49, .int .i64 kR3.ob.2], .int .i64 18] := (show val 44 = val 49 from e44).trans q49
  exact ⟨.int .i64 18, (⟨⟨_, q44, rfl⟩, rfl⟩ : (∃ a, val 44 = .tuple a /\ a[4]? = some (.int .i64 18)) /\ ([] : Hp) = []), fun w => R.extract (congrArg some q44) rfl⟩
 . exact MP.loud rfl rfl (fun _ _ _ _ _ h => h) (fun val hn _ w hI => Does.new 13 (M.alloc tz37 rfl))
 . exact MP.loud rfl rfl (fun _ _ _ _ _ h => h) (fun val hn _ w hI => Does.new 16 (M.alloc tz60 rfl))
 rintro val hn ⟨⟨⟨aP, cP, GP⟩, e46, n46⟩, ⟨b47, e47, n47⟩, ⟨e48, n48⟩, ⟨⟨ax49, cx49, az49, cz49, ao49, co49, GA49⟩, e49, n49⟩, ⟨e44, n44⟩, ⟨⟨x50, e50, g50⟩, n50⟩, ⟨⟨x51, e51, g51⟩, n51⟩, ⟨⟨x52, e52, g52⟩, n52⟩, ⟨⟨x53, e53, g53⟩, n53⟩, ⟨⟨x54, e54, g54⟩, n54⟩, ⟨b13, e13, n13⟩, ⟨b16, e16, n16⟩, _⟩
 have q46 : val 46 = .slice aP 1 cP := e46
 have q47 : val 47 = .slice (some ⟨b47, 0, none⟩) 1 1 := e47
 have q48 : val 48 = .agg #[Value.int IntKind.i64 0, .slice (some ⟨b47, 0, none⟩) 1 1] := by rw [show val 48 = Value.agg #[Value.int IntKind.i64 0, val 47] from e48, q47]
 have q49 : val 49 = .tuple #[.agg #[.int .i64 kR3.ac.mode, .int .i64 kR3.ac.budget, .int .i64 kR3.ac.spent, .slice ax49 kR3.ac.left.length cx49, .slice az49 kR3.ac.asked.length cz49], .int .i64 kR3.answer, .int .i64 kR3.charge, .agg #[.slice ao49 kR3.ob.1.length co49, .int .i64 kR3.ob.2], .int .i64 18] := e49
 have q44 : val 44 = .tuple #[.agg #[.int .i64 kR3.ac.mode, .int .i64 kR3.ac.budget, .int .i64 kR3.ac.spent, .slice ax49 kR3.ac.left.length cx49, .slice az49 kR3.ac.asked.length cz49], .int .i64 kR3.answer, .int .i64 kR3.charge, .agg #[.slice ao49 kR3.ob.1.length co49, .int .i64 kR3.ob.2], .int .i64 18] := (show val 44 = val 49 from e44).trans q49
 have q50 : val 50 = .agg #[.int .i64 kR3.ac.mode, .int .i64 kR3.ac.budget, .int .i64 kR3.ac.spent, .slice ax49 kR3.ac.left.length cx49, .slice az49 kR3.ac.asked.length cz49] := by rw [show val 44 = _ from q44] at e50; cases e50; exact (Option.some.inj (show some (.agg #[.int .i64 kR3.ac.mode, .int .i64 kR3.ac.budget, .int .i64 kR3.ac.spent, .slice ax49 kR3.ac.left.length cx49, .slice az49 kR3.ac.asked.length cz49]) = some (val 50) from g50)).symm
 have q51 : val 51 = .int .i64 kR3.answer := by rw [show val 44 = _ from q44] at e51; cases e51; exact (Option.some.inj (show some (.int .i64 kR3.answer) = some (val 51) from g51)).symm
 have q52 : val 52 = .int .i64 kR3.charge := by rw [show val 44 = _ from q44] at e52; cases e52; exact (Option.some.inj (show some (.int .i64 kR3.charge) = some (val 52) from g52)).symm
 have q53 : val 53 = .agg #[.slice ao49 kR3.ob.1.length co49, .int .i64 kR3.ob.2] := by rw [show val 44 = _ from q44] at e53; cases e53; exact (Option.some.inj (show some (.agg #[.slice ao49 kR3.ob.1.length co49, .int .i64 kR3.ob.2]) = some (val 53) from g53)).symm
 have q54 : val 54 = .int .i64 18 := by rw [show val 44 = _ from q44] at e54; cases e54; exact (Option.some.inj (show some (.int .i64 18) = some (val 54) from g54)).symm
 have q13 : val 13 = .pointer (some ⟨b13, 0, none⟩) := e13
 have q16 : val 16 = .pointer (some ⟨b16, 0, none⟩) := e16
 have n46 : hn 46 = [(923, PgP GP (.slice aP 1 cP) [exF51])] := n46
 have n47 : hn 47 = [(47, .own b47 [.int .i64 0] 3)] := n47
 have n48 : hn 48 = [] := n48
 have n49 : hn 49 = [(904, aoY GA49 kR3 (ax49, cx49, az49, cz49, ao49, co49, GA49))] := n49
 have n44 : hn 44 = [] := n44
 have n50 : hn 50 = [] := n50
 have n51 : hn 51 = [] := n51
 have n52 : hn 52 = [] := n52
 have n53 : hn 53 = [] := n53
 have n54 : hn 54 = [] := n54
 have n13 : hn 13 = [(13, .own b13 [Value.int IntKind.i64 0, Value.int IntKind.i64 0, Value.int IntKind.i64 0, Value.slice none 0 0, Value.slice none 0 0] 37)] := n13
 have n16 : hn 16 = [(16, .own b16 [Value.slice none 0 0, Value.int IntKind.i64 0] 60)] := n16
 refine VD.cast [(1, some (1, 0)), (3, some (3, 0)), (6, some (6, 0)), (8, some (8, 0)), (11, some (11, 0)), (13, some (13, 0)), (16, some (16, 0))] [(46, .slice aP 1 cP), (47, .slice (some ⟨b47, 0, none⟩) 1 1), (48, .agg #[Value.int IntKind.i64 0, .slice (some ⟨b47, 0, none⟩) 1 1]), (49, .tuple #[.agg #[.int .i64 kR3.ac.mode, .int .i64 kR3.ac.budget, .int .i64 kR3.ac.spent, .slice ax49 kR3.ac.left.length cx49, .slice az49 kR3.ac.asked.length cz49], .int .i64 kR3.answer, .int .i64 kR3.charge, .agg #[.slice ao49 kR3.ob.1.length co49, .int .i64 kR3.ob.2], .int .i64 18]), (44, .tuple #[.agg #[.int .i64 kR3.ac.mode, .int .i64 kR3.ac.budget, .int .i64 kR3.ac.spent, .slice ax49 kR3.ac.left.length cx49, .slice az49 kR3.ac.asked.length cz49], .int .i64 kR3.answer, .int .i64 kR3.charge, .agg #[.slice ao49 kR3.ob.1.length co49, .int .i64 kR3.ob.2], .int .i64 18]), (50, .agg #[.int .i64 kR3.ac.mode, .int .i64 kR3.ac.budget, .int .i64 kR3.ac.spent, .slice ax49 kR3.ac.left.length cx49, .slice az49 kR3.ac.asked.length cz49]), (51, .int .i64 kR3.answer), (52, .int .i64 kR3.charge), (53, .agg #[.slice ao49 kR3.ob.1.length co49, .int .i64 kR3.ob.2]), (54, .int .i64 18), (13, .pointer (some ⟨b13, 0, none⟩)), (16, .pointer (some ⟨b16, 0, none⟩))] [(923, PgP GP (.slice aP 1 cP) [exF51]), (47, .own b47 [.int .i64 0] 3), (904, aoY GA49 kR3 (ax49, cx49, az49, cz49, ao49, co49, GA49)), (13, .own b13 [Value.int IntKind.i64 0, Value.int IntKind.i64 0, Value.int IntKind.i64 0, Value.slice none 0 0, Value.slice none 0 0] 37), (16, .own b16 [Value.slice none 0 0, Value.int IntKind.i64 0] 60)] (by show [(46, val 46), (47, val 47), (48, val 48), (49, val 49), (44, val 44), (50, val 50), (51, val 51), (52, val 52), (53, val 53), (54, val 54), (13, val 13), (16, val 16)] = _; rw [q46, q47, q48, q49, q44, q50, q51, q52, q53, q54, q13, q16]) (by show (hn 46 ++ (hn 47 ++ (hn 48 ++ (hn 49 ++ (hn 44 ++ (hn 50 ++ (hn 51 ++ (hn 52 ++ (hn 53 ++ (hn 54 ++ (hn 13 ++ (hn 16 ++ [])))))))))))) = _; rw [n46, n47, n48, n49, n44, n50, n51, n52, n53, n54, n13, n16]; rfl) rfl rfl rfl ?_
 clear q46 n46 q47 n47 q48 n48 q49 n49 q44 n44 q50 n50 q51 n51 q52 n52 q53 n53 q54 n54 q13 n13 q16 n16
 refine Ve 13 0 rfl (by kernel_rfl) rfl rfl rfl ?_
 refine Vd [14, 15] 0 (by kernel_rfl) rfl rfl rfl ?_
 refine Ve 16 0 rfl (by kernel_rfl) rfl rfl rfl ?_
 refine Vd [17] 0 (by kernel_rfl) rfl rfl rfl ?_
 refine VD.done (by kernel_rfl) ?_
 refine Vs 6 rfl ?_
 refine V.sp 57 rfl (fun k0 => ?_) (fun k0 => ?_)
 ·
  refine Vs 4 rfl ?_
  refine V.sp 61 rfl (fun k1 => ?_) (fun k1 => ?_)
  ·
   refine Vs 4 rfl ?_
   refine V.sp 65 rfl (fun k2 => ?_) (fun k2 => ?_)
   ·
    refine Vs 4 rfl ?_
    refine V.sp 69 rfl (fun k3 => ?_) (fun k3 => ?_)
    ·
     refine Vs 5 rfl ?_
     refine V.sp 74 rfl (fun k4 => ?_) (fun k4 => ?_)
     ·
      refine Vs 2 rfl ?_
      refine V.bs 77 [(0, _), (1, _), (2, _)] tR31 ts3 tz3 (by decide) rfl rfl (by kernel_rfl) (fun b77 => ?_)
      refine V.call1 tc18 rfl (fun w hI => jR [0, 2, 3] [0, 2, 3] _ _ _ _ w (hI.at 902 rfl).1.left (SlR.ofRow1 (D := fun _ => True) ze (fun _ _ => rfl) (yx (k := 1) (n := 3) (cap := 3) (hI.at 77 rfl) (Nat.le_refl _) (by decide) rfl) (fun _ _ => trivial))) ?_
      refine Vs 2 rfl ?_
      refine V.sp 80 rfl (fun k5 => ?_) (fun k5 => ?_)
      ·
       refine Vs 4 rfl ?_
       refine V.sp 84 rfl (fun k6 => ?_) (fun k6 => ?_)
       ·
        refine Vs 4 rfl ?_
        refine V.sp 88 rfl (fun k7 => ?_) (fun k7 => ?_)
        ·
         refine Vs 2 rfl ?_
         refine V.bs 91 [(0, _)] tR31 ts3 tz3 (by decide) rfl rfl (by kernel_rfl) (fun b91 => ?_)
         refine V.call1 tc18 rfl (fun w hI => jR [0] [0] _ _ _ _ w (hI.at 902 rfl).2 (SlR.ofRow1 (D := fun _ => True) ze (fun _ _ => rfl) (yx (k := 1) (n := 1) (cap := 1) (hI.at 91 rfl) (Nat.le_refl _) (by decide) rfl) (fun _ _ => trivial))) ?_
         refine Vs 2 rfl ?_
         refine V.sp 94 rfl (fun k8 => ?_) (fun k8 => ?_)
         ·
          refine Vs 5 rfl ?_
          refine V.sp 99 rfl (fun k9 => ?_) (fun k9 => ?_)
          ·
           refine Vs 2 rfl ?_
           refine V.bs 102 [(0, _), (1, _)] tR31 ts3 tz3 (by decide) rfl rfl (by kernel_rfl) (fun b102 => ?_)
           refine V.call1 tc18 rfl (fun w hI => jR [0, 3] [0, 3] _ _ _ _ w (hI.at 903 rfl).1.left (SlR.ofRow1 (D := fun _ => True) ze (fun _ _ => rfl) (yx (k := 1) (n := 2) (cap := 2) (hI.at 102 rfl) (Nat.le_refl _) (by decide) rfl) (fun _ _ => trivial))) ?_
           refine Vs 5 rfl ?_
           refine V.ret1 tr12 rfl (fun w hI => ⟨_, rfl, by first | rfl | (exfalso; omega) | (exfalso; simp_all), hI.k0⟩)
          ·
           refine Vs 9 rfl ?_
           refine V.ret1 tr12 rfl (fun w hI => ⟨_, rfl, by first | rfl | (exfalso; omega) | (exfalso; simp_all), hI.k0⟩)
         ·
          refine Vs 14 rfl ?_
          refine V.ret1 tr12 rfl (fun w hI => ⟨_, rfl, by first | rfl | (exfalso; omega) | (exfalso; simp_all), hI.k0⟩)
        ·
         refine Vs 20 rfl ?_
         refine V.ret1 tr12 rfl (fun w hI => ⟨_, rfl, by first | rfl | (exfalso; omega) | (exfalso; simp_all), hI.k0⟩)
       ·
        refine Vs 24 rfl ?_
        refine V.ret1 tr12 rfl (fun w hI => ⟨_, rfl, by first | rfl | (exfalso; omega) | (exfalso; simp_all), hI.k0⟩)
      ·
       refine Vs 28 rfl ?_
       refine V.ret1 tr12 rfl (fun w hI => ⟨_, rfl, by first | rfl | (exfalso; omega) | (exfalso; simp_all), hI.k0⟩)
     ·
      refine Vs 34 rfl ?_
      refine V.ret1 tr12 rfl (fun w hI => ⟨_, rfl, by first | rfl | (exfalso; omega) | (exfalso; simp_all), hI.k0⟩)
    ·
     refine Vs 39 rfl ?_
     refine V.ret1 tr12 rfl (fun w hI => ⟨_, rfl, by first | rfl | (exfalso; omega) | (exfalso; simp_all), hI.k0⟩)
   ·
    refine Vs 43 rfl ?_
    refine V.ret1 tr12 rfl (fun w hI => ⟨_, rfl, by first | rfl | (exfalso; omega) | (exfalso; simp_all), hI.k0⟩)
  ·
   refine Vs 47 rfl ?_
   refine V.ret1 tr12 rfl (fun w hI => ⟨_, rfl, by first | rfl | (exfalso; omega) | (exfalso; simp_all), hI.k0⟩)
 ·
  refine Vs 51 rfl ?_
  refine V.ret1 tr12 rfl (fun w hI => ⟨_, rfl, by first | rfl | (exfalso; omega) | (exfalso; simp_all), hI.k0⟩)
theorem zda (a : Ac) (ps : List Fl) (q : Qu) (u1 u2 pv qv : Value) (D D1 D2 : Nat -> Prop) (W : World) (ha : RAc D W a u1 u2) (hps : SlR 3 RPg D1 W pv ps) (hq : SlR 1 zv D2 W qv q.2) (ht : Tab W) :
  Calls Tryz.prog 4 #[.agg #[.int .i64 a.mode, .int .i64 a.budget, .int .i64 a.spent, u1, u2], pv, .agg #[.int .i64 q.1, qv]] W (Ret fun r w' => r = .bool true /\ Ext W w') := by
 obtain ⟨qp, pub⟩ := q
 dsimp only at hq
 obtain ⟨a1, c1, h1⟩ := ha.left.form
 obtain ⟨a2, c2, h2⟩ := ha.asked.form
 subst h1 h2
 obtain ⟨ap, cp, rfl⟩ := hps.form
 obtain ⟨aq, cq, rfl⟩ := hq.form
 have hmp := hps.max
 refine G.in3 Tryz.func4 rfl Tryz.ntmps4 rfl (V.inn ?_)
 refine Vs 2 rfl ?_
 refine V.box 3 rfl rfl (fun b3 => ?_)
 refine V.box 5 rfl rfl (fun b5 => ?_)
 refine Vs 6 rfl ?_
 refine V.call1 Tryz.call12 rfl (fun w hI => zf2 w (Tr1 hI.k0 ht)) ?_
 refine V.ops1 rfl (fun w hI => R.notU rfl (by first | exact za | rfl)) ?_
 refine Vs 2 rfl ?_
 refine V.bool rfl (fun k0 => ?_) (fun k0 => ?_)
 . cases k0
 ·
  refine Vs 3 rfl ?_
  refine V.cutK (σ := Unit) [1, 3, 5] [3, 5] [3, 5] rfl (fun e u => e) (fun e u => e) (fun u => a.left.length <= 20 /\ ps.length <= 4 /\ ∀ f ∈ ps, SzOk f) (fun _ => rfl) (fun _ => rfl) ?_ ?_
  ·
   refine Vs 4 rfl ?_
   refine V.call2 Tryz.call19 rfl (fun w hI => zhf a ps a.mode a.budget a.spent _ _ _ D D1 w (Tr1 hI.k0 ha) (Tr1 hI.k0 hps)) ?_
   rintro rr w1 w2 hI1 hk12 ⟨b0, rfl, hb0⟩ hlow
   refine V.ops1 rfl (fun w hI => R.notU rfl (by first | exact za | rfl)) ?_
   refine Vs 1 rfl ?_
   refine V.sb 16 rfl (fun q1 => ?_) (fun q1 => ?_)
   ·
    refine Vs 16 rfl ?_
    refine V.ret1 tr4 rfl (fun w hI => ⟨_, rfl, rfl, hI.k1⟩)
   ·
    have hb := hb0 (by simpa using q1)
    refine Vs 7 rfl ?_
    refine V.ite rfl (fun q2 => ?_) (fun q2 => ?_)
    ·
     refine Vs 8 rfl ?_
     refine V.ret1 tr4 rfl (fun w hI => ⟨_, rfl, rfl, hI.k1⟩)
    ·
     refine Vs 1 rfl ?_
     refine V.meet (()) (Sub.of rfl) (Has.of rfl) (⟨hb.2.1, hb.1, hb.2.2.2⟩) 1 rfl rfl
  rintro u ⟨hl, hpl, hz⟩
  refine Vs 6 rfl ?_
  refine V.call1 Tryz.call20 rfl (fun w hI => zd5 a (by omega) ps hz (qp, pub) _ _ _ _ D D1 D2 w (Tr1 hI.k0 ha) (Tr1 hI.k0 hps) (Tr1 hI.k0 hq) (Tr1 hI.k0 ht)) ?_
  refine Vs 13 rfl ?_
  refine V.call1 Tryz.call21 rfl (fun w hI => zdK a ps hz (qp, pub) _ _ _ _ D D1 D2 w (Tr1 hI.k0 ha) (Tr1 hI.k0 hps) (Tr1 hI.k0 hq)) ?_
  refine Vs 9 rfl ?_
  refine V.ite rfl (fun e0 => ?_) (fun e0 => ?_)
  ·
   refine Vs 6 rfl ?_
   refine V.sp 38 rfl (fun c1 => ?_) (fun c1 => ?_)
   ·
    refine Vs 8 rfl ?_
    refine V.ret1 tr4 rfl (fun w hI => ⟨_, rfl, by rw [if_pos e0]; rfl, hI.k0⟩)
   . exact absurd rfl c1
  ·
   have e0 := Decidable.not_not.1 e0
   obtain ⟨v0, f', hg, ha0, hr0, hi0⟩ := qB e0
   have hg' := hg
   obtain ⟨k, hk, hgk⟩ := zer hg
   dsimp only at hk
   subst hk
   have hkl := (List.getElem?_eq_some_iff.1 hgk).1
   obtain ⟨f, he_f⟩ : ∃ z_, ps[k]? = some z_ := ⟨_, List.getElem?_eq_getElem (by omega)⟩
   have hm_f := List.mem_of_getElem? he_f
   obtain ⟨b_f, o_f, c_f, ha_f, _, hc_f, hR_f⟩ := hps.at he_f
   obtain ⟨v1_f, v2_f, v3_f, rfl, hf_f⟩ := hR_f
   obtain ⟨a1_f, n1_f, rfl⟩ := hf_f.vars.form
   obtain ⟨a2_f, n2_f, rfl⟩ := hf_f.hatches.form
   obtain ⟨a3_f, n3_f, rfl⟩ := hf_f.body.form
   refine V.fr 1000 0 rfl rfl hc_f ?_
   rw [he_f] at hgk
   have hfe := Option.some.inj hgk
   subst hfe
   obtain ⟨vd, hr3⟩ := jo (hz f hm_f) ha0
   have hs2 := zd9 vd.ok
   rw [if_neg (not_not_intro e0), hg', e0]
   refine Vs 3 rfl ?_
   refine Vw [3, 5, 1000] [] rfl ?_
   refine Vd [0, 1, 2] 0 (by kernel_rfl) rfl rfl rfl ?_
   refine VD.sp 44 rfl (fun c1 => ?_) (fun c1 => ?_)
   ·
    refine Vd [3, 4, 5, 6, 7, 10] 0 (by kernel_rfl) rfl rfl rfl ?_
    refine VD.ix 8 1000 tR23 ts56 rfl (by kernel_rfl) rfl ha_f (by omega) (k) (by omega) rfl ?_
    refine Vd [9] 0 (by kernel_rfl) rfl rfl rfl ?_
    refine VD.call1 11 0 Tryz.call22 rfl (by kernel_rfl) rfl rfl (fun w hI => zdL a (by omega) f vd hr3 hs2 ((k : Int), pub) _ _ _ _ _ _ D D1 D2 w (Tr1 hI.k0 ha) (Tr1 hI.k0 hf_f) (Tr1 hI.k0 hq)) ?_
    refine Vd [12, 13, 14] 0 (by kernel_rfl) rfl rfl rfl ?_
    refine VD.done (by kernel_rfl) ?_
    refine Vs 2 rfl ?_
    refine V.ret1 tr4 rfl (fun w hI => ⟨_, rfl, by rw [decide_eq_true rfl], hI.k0⟩)
   . exact absurd rfl c1
end Go.Proofs.YtbkhagigkglgoaaGreatDoor
