/-
  Contracts and the mathematics that the proof needs. Nothing here is a claim.
-/
import Derived.Test.YtaenledoagbddaaGreatDoorKU4
namespace Go.GL
theorem zdq {α : Type} {l : List α} {i : Nat} {x : α} (h : l[i]? = some x) : l.set i x = l := by
 apply List.ext_getElem?
 intro j
 rw [List.getElem?_set]
 by_cases e : i = j
 ·
  subst e
  rw [zno rfl, zno (znr.1 h).1, h]
 . rw [znn e]
section
variable {P : Program} {env : Env} {w : World} {dst : Option Tmp} {ty : TypeId} {pos : String} {aft : Array Edge} {g0 : Option (Nat × Bool)}
variable {α : Type} {enc : α -> Value} {e : TypeId} {rv : List Value} {rows : List (List α)} {p j g m c : Nat} {r : List α} {a : α}
theorem zaf (hR : RowsOk enc e w rv rows) {v : Value} (hv : rv[p]? = some v) (hr : rows[p]? = some r) : ∃ ao c, v = .slice ao r.length c /\ (0 < r.length -> ∃ g, ao = some ⟨g, 0, none⟩) := by
 have h := hR.row p v r hv hr
 rcases h.2 with ⟨rfl, h0⟩ | ⟨g, cap, cur, rfl, _⟩
 . rw [h0]; exact ⟨_, _, rfl, fun h => by omega⟩
 . exact ⟨_, _, rfl, fun _ => ⟨_, rfl⟩⟩
theorem zcc (hR : RowsOk enc e w rv rows) (hv : rv[p]? = some (.slice (some ⟨g, 0, none⟩) m c)) (hr : rows[p]? = some r) (ha : r[j]? = some a) : w.cell? ⟨g, 0 + (j : Int).toNat * 1, none⟩ = some (enc a) := by
 have h := hR.row p _ r hv hr
 obtain ⟨ao, c', he⟩ := qJ h
 simp only [Value.slice.injEq] at he
 obtain ⟨_, rfl, _⟩ := he
 have := (xr h).2.2 j (enc a) (by rw [znu, ha]; rfl)
 simpa using this
theorem zn8 {tl : TypeId} {x y : Operand} (hs : ∀ w, (sizeOf tl).run P w = .ok 1 w) (hR : RowsOk enc e w rv rows) (hv : rv[p]? = some (.slice (some ⟨g, 0, none⟩) m c)) (hr : rows[p]? = some r) (hj : j < r.length) (h1 : one (enc a) = true) (hx : ev env x = some (.pointer (some ⟨g, 0 + (j : Int).toNat * 1, none⟩))) (hy : ev env y = some (enc a)) :
  xk P ⟨dst, .store tl x y, ty, pos, aft, g0⟩ env w (fun w' => RowsOk enc e w' rv (rows.set p (r.set j a)) /\ Keep (fun q => ∃ (i : Nat) (v : Value), rv[i]? = some v /\ v.ownBlock = some q) w w' /\ ∀ q, (∃ (i : Nat) (v : Value), rv[i]? = some v /\ v.ownBlock = some q) -> ((∃ (i : Nat) (v : Value), rv[i]? = some v /\ v.ownBlock = some q) \/ w.heap.size <= q) /\ q < w'.heap.size) := by
 have ho := hR.row p _ r hv hr
 obtain ⟨ao, c', he⟩ := qJ ho
 simp only [Value.slice.injEq] at he
 obtain ⟨_, rfl, _⟩ := he
 obtain ⟨sp, hB, hc, hcm, hlen⟩ := jp ho
 have hj0 : 0 + (j : Int).toNat * 1 = j := by simp
 rw [hj0] at hx
 obtain ⟨h6, h7⟩ := qn h1
 obtain ⟨w', hrun, hsz, hB', hk⟩ := M.store (dst := dst) (ty := ty) (pos := pos) (aft := aft) (g := g0) hs hx hy h6 h7 hB (by rw [znl, znx]; omega)
 have hown : w'.ownsRow 0 e 1 (.slice (some ⟨g, 0, none⟩) r.length c) (r.set j a).length ((r.set j a).map enc) := by
  have := yY (k := 1) (n := r.length) (cap := c) hB' hc hcm (by rw [List.length_set]; exact hlen)
  rw [List.set_append_left _ _ (by rw [znx]; exact hj), Nat.mul_one, List.take_append_of_le_length (by rw [List.length_set, znx]; omega), List.take_of_length_le (by rw [List.length_set, znx]; omega)] at this
  rw [List.length_set, List.map_set]
  exact this
 have hin : ∃ (i : Nat) (v : Value), rv[i]? = some v /\ v.ownBlock = some g := ⟨p, _, hv, rfl⟩
 have hput := hR.put hv hown (.inl rfl) (hk.mono fun q _ hq => by have hq : q = g := hq; subst hq; exact rfl)
 rw [zdq hv] at hput
 refine ⟨w', hrun, hput, hk.mono fun q _ hq => by have hq : q = g := hq; subst hq; exact hin, fun q hq => ⟨.inl hq, ?_⟩⟩
 obtain ⟨i, v, h8, h9⟩ := hq
 exact Nat.lt_of_lt_of_le (hR.blk h8 h9) hk.size
end
end Go.GL
namespace Go.Proofs.YtaenledoagbddaaGreatDoor
open Go.GL
structure AbsIn (T : List (List Int)) (y : Nat) (C : List (List Int)) (pos : List Nat) (L : List (ByteArray × Value)) : Prop where
 le : y <= T.length
 len : C.length = T.length
 later : ∀ j, y <= j -> C[j]? = T[j]?
 pl : pos.length = (yg (T.take y)).length
 lt : ∀ p ∈ pos, p < y
 nd : pos.Nodup
 cols : ∀ (k : Nat) p, pos[k]? = some p -> C[p]? = (zu (yg (T.take y)))[k]?
 ix : IxIn L ((yg (T.take y)).map (·.1))
theorem zkE (T : List (List Int)) : AbsIn T 0 T [] [] := ⟨zns _, rfl, fun _ _ => rfl, rfl, fun p hp => (by cases hp), List.Pairwise.nil, fun k p h => by simp at h, zkC⟩
theorem zbe {T : List (List Int)} {y : Nat} {col : List Int} (h : T[y]? = some col) : yg (T.take (y + 1)) = yJ (yg (T.take y)) col := by
 rw [zh h]
 unfold yg
 rw [List.foldl_append]
 rfl
theorem AbsIn.zero {T C : List (List Int)} {y : Nat} {pos : List Nat} {L : List (ByteArray × Value)} (h : AbsIn T y C pos L) {col : List Int} (hc : T[y]? = some col) (hg : zP col = 0) : AbsIn T (y + 1) C pos L := by
 have hm : yg (T.take (y + 1)) = yg (T.take y) := by rw [zbe hc]; exact zno hg
 exact ⟨(znr.1 hc).1, h.len, fun j hj => h.later j (by omega), by rw [hm]; exact h.pl, fun p hp => Nat.lt_succ_of_lt (h.lt p hp), h.nd, by rw [hm]; exact h.cols, by rw [hm]; exact h.ix⟩
theorem AbsIn.new {T C : List (List Int)} {y : Nat} {pos : List Nat} {L : List (ByteArray × Value)} (h : AbsIn T y C pos L) {col : List Int} (hc : T[y]? = some col) (hg : zP col ≠ 0) (hn : xg col ∉ (yg (T.take y)).map (·.1)) : AbsIn T (y + 1) C (pos ++ [y]) (yy L (spC (xg col)) (.int .i64 (pos.length : Int))) := by
 have hm : yg (T.take (y + 1)) = yg (T.take y) ++ [(xg col, zP col)] := by
  rw [zbe hc]
  unfold yJ
  rw [znn hg, znn hn]
 refine ⟨(znr.1 hc).1, h.len, fun j hj => h.later j (by omega), by rw [hm, znl, znl, h.pl]; rfl, fun p hp => ?_, ?_, fun k p hk => ?_, ?_⟩
 ·
  rcases znw.1 hp with hp | hp
  . exact Nat.lt_succ_of_lt (h.lt p hp)
  . rw [znv.1 hp]; omega
 ·
  rw [List.nodup_append]
  exact ⟨h.nd, List.pairwise_singleton _ _, fun a ha b hb e => by have := h.lt a ha; rw [e, znv.1 hb] at this; omega⟩
 ·
  have hcl : (zu (yg (T.take y))).length = pos.length := by rw [h.pl]; simp [zu]
  rw [hm]
  unfold zu at hcl ⊢
  rw [List.map_append]
  by_cases hk2 : k < pos.length
  ·
   rw [znD hk2] at hk
   rw [znD (by omega)]
   exact h.cols k p hk
  ·
   have hkl := (znr.1 hk).1
   rw [znl, zny] at hkl
   obtain rfl : k = pos.length := by omega
   rw [znE (by omega), Nat.sub_self] at hk
   obtain rfl : y = p := by simpa using hk
   rw [h.later y (znC _), hc, znE (by omega), hcl, Nat.sub_self]
   simp [za6]
 ·
  rw [hm, List.map_append, show (pos.length : Int) = (((yg (T.take y)).map (·.1)).length : Int) by rw [znx, h.pl]]
  exact h.ix.add hn
theorem AbsIn.old {T C : List (List Int)} {y : Nat} {pos : List Nat} {L : List (ByteArray × Value)} (h : AbsIn T y C pos L) {col r : List Int} (hc : T[y]? = some col) (hg : zP col ≠ 0) {k p : Nat} (hk : ((yg (T.take y)).map (·.1))[k]? = some (xg col)) (hp : pos[k]? = some p) (hr : C[p]? = some r) (_ : r.length = col.length) : AbsIn T (y + 1) (C.set p (List.zipWith (· + ·) r col)) pos L := by
 have hsp := xJ (T.take y)
 have hmem : xg col ∈ (yg (T.take y)).map (·.1) := zne hk
 have hm : yg (T.take (y + 1)) = (yg (T.take y)).map (fun q => if q.1 = xg col then (q.1, q.2 + zP col) else q) := by
  rw [zbe hc]
  unfold yJ
  rw [znn hg, zno hmem]
 have hpy := h.lt p (zne hp)
 have hfst : (yg (T.take (y + 1))).map (·.1) = (yg (T.take y)).map (·.1) := by
  rw [hm, List.map_map]
  exact List.map_congr_left fun q _ => by simp only [Function.comp]; split <;> rfl
 refine ⟨(znr.1 hc).1, by rw [List.length_set]; exact h.len, fun j hj => ?_, by rw [hm, znx]; exact h.pl, fun q hq => Nat.lt_succ_of_lt (h.lt q hq), h.nd, fun k' p' hk' => ?_, by rw [hfst]; exact h.ix⟩
 ·
  rw [List.getElem?_set, znn (by omega)]
  exact h.later j (by omega)
 ·
  have hold := h.cols k' p' hk'
  rw [hm]
  unfold zu at hold ⊢
  rw [List.map_map, znu]
  rw [znu] at hold
  by_cases e : k' = k
  ·
   subst e
   obtain rfl : p = p' := by rw [hp] at hk'; exact Option.some.inj hk'
   rw [znu] at hk
   obtain ⟨q, hq, hqe⟩ := Option.map_eq_some_iff.1 hk
   rw [hq] at hold ⊢
   rw [hr] at hold
   have hold : r = q.1.map (q.2 * ·) := Option.some.inj hold
   rw [List.getElem?_set, zno rfl, zno (znr.1 hr).1]
   simp only [Option.map_some, Function.comp, zno hqe, Option.some.injEq]
   have hcol : col = q.1.map (zP col * ·) := by rw [hqe, za6]
   rw [hold]
   conv => lhs; rw [hcol]
   rw [List.zipWith_map, List.zipWith_self]
   exact List.map_congr_left fun x _ => by rw [Int.add_mul]
  ·
   have hpp : p ≠ p' := fun e2 => e (by
    subst e2
    exact (jC h.nd hk').symm.trans (jC h.nd hp))
   rw [List.getElem?_set, znn hpp, hold]
   cases hq : (yg (T.take y))[k']? with
   | none => rfl
   | some q =>
    simp only [Option.map_some, Function.comp]
    rw [znn]
    intro hqe
    have h1 : ((yg (T.take y)).map (·.1))[k']? = some (xg col) := by rw [znu, hq]; exact congrArg some hqe
    exact e ((jC hsp.nd h1).symm.trans (jC hsp.nd hk))
end Go.Proofs.YtaenledoagbddaaGreatDoor
namespace Go.GL
section
variable {P : Program} {env : Env} {w : World} {dst : Option Tmp} {ty : TypeId} {pos : String} {aft : Array Edge} {g : Option (Nat × Bool)}
theorem M.mk0 {t e : TypeId} {k by' : Nat} {z : Value} {x y : Operand} {m : Nat} {kl kc : IntKind} {zs : List Value} (hu : P.underlying t = some (.slice e)) (he : (P.info? e).map (fun i => (i.zero, i.size, i.bytes)) = some (some z, k, by')) (hx : ev env x = some (.int kl 0)) (hy : ev env y = some (.int kc (m : Int))) (hb : by' * m <= 281474976710656) (hm : m <= 9223372036854775807) (hz : madeCells z.cells (m * k) = zs.toArray /\ zs.length = m * k) :
  zJ P ⟨dst, .makeSlice t x y, ty, pos, aft, g⟩ env w (fun r w' => ∃ b : Nat, r = .slice (some ⟨b, 0, none⟩) 0 m /\ (HE.row e k (.slice (some ⟨b, 0, none⟩) 0 m) 0 []).holds w' /\ Ext w w' /\ ∀ q, (HE.row e k (.slice (some ⟨b, 0, none⟩) 0 m) 0 []).S q -> w.heap.size <= q /\ q < w'.heap.size) := by
 obtain ⟨u, w', h1, b, h2, h3, h4, h5, h6⟩ := zmL (w := w) (dst := dst) (ty := ty) (pos := pos) (aft := aft) (g := g) (env := env) hu he hx hy hb hm hz.1
 refine ⟨u, w', h1, b, h2, ?_, h6, fun q hq => ?_⟩
 ·
  have := yY (k := k) (n := 0) (cap := m) h5 (zns _) hm hz.2
  show w'.ownsRow 0 e k (.slice (some ⟨b, 0, none⟩) 0 m) 0 []
  simpa using this
 ·
  have hq : some b = some q := hq
  cases hq
  omega
end
end Go.GL
namespace Go.Proofs.YtaenledoagbddaaGreatDoor
open Go.GL
def NxIn (L : List (Int × Value)) (K : List Int) : Prop := L.length = K.length /\ ∀ s, jj L s = if s ∈ K then some (.int .i64 ((K.idxOf s : Nat) : Int)) else none
theorem zkF : NxIn [] [] := ⟨rfl, fun _ => rfl⟩
theorem zgI {κ : Type} [DecidableEq κ] {L : List (κ × Value)} {k : κ} {v : Value} (h : jj L k = none) : (yy L k v).length = L.length + 1 := by
 induction L with
 | nil => rfl
 | cons x r ih =>
  obtain ⟨a, u⟩ := x
  rw [jj] at h
  split at h
  . cases h
  ·
   rename_i hk
   rw [yy, znn hk, znG, ih h, znG]
theorem NxIn.add {L : List (Int × Value)} {K : List Int} (h : NxIn L K) {k : Int} (hk : k ∉ K) : NxIn (yy L k (.int .i64 (K.length : Int))) (K ++ [k]) := by
 refine ⟨?_, fun s => ?_⟩
 . rw [zgI (by rw [h.2, znn hk]), znl, h.1]; rfl
 ·
  rw [jk]
  by_cases e : s = k
  ·
   subst e
   rw [zno rfl, zno (by simp), List.idxOf_append, znn hk]
   simp
  ·
   rw [znn e, h.2 s]
   by_cases hs : s ∈ K
   . rw [zno hs, zno (List.mem_append_left _ hs), List.idxOf_append, zno hs]
   . rw [znn hs, znn (by simp [hs, e])]
theorem zgJ {l : List (Int × Value)} {m : Nat} {w : World} (h : MapG (Value.int .i64) w m l) : ∃ (es : Array MapEntry) (c : Nat), w.heap[m]? = some (.map es c) /\ es.size = l.length := by
 obtain ⟨es, c, h1, h2, _⟩ := h
 exact ⟨es, c, h1, by have := congrArg List.length h2; simpa using this⟩
theorem zn9 {P : Program} {env : Env} {w : World} {dst : Option Tmp} {ty : TypeId} {pos : String} {aft : Array Edge} {g : Option (Nat × Bool)} {t kt et : TypeId} {m : Nat} {l : List (Int × Value)} {x : Operand} (ht : P.underlying t = some (.map kt et)) (h : MapG (Value.int .i64) w m l) (hx : ev env x = some (.map (some m))) : zI P ⟨dst, .call ⟨.builtin .len, #[x], #[t]⟩, ty, pos, aft, g⟩ env w (.int .i64 (l.length : Int)) w := by
 obtain ⟨es, c, h1, h2⟩ := zgJ h
 intro n a ha
 simp [execOp, resolve, invoke, builtin, Builtin.len_, ha.eval hx, run_underlying ht, MapKept.run_getObj_map h1, goInt, Result.andThen, h2]
theorem zdS {l : List Int} {i : Nat} {x : Int} (hx : l[i]? = some x) : yp (l.take (i + 1)) = yp (l.take i) ++ [((zv [] (l.take (i + 1))).idxOf x : Int)] /\ (x ∈ zv [] (l.take i) -> zv [] (l.take (i + 1)) = zv [] (l.take i)) /\ (x ∉ zv [] (l.take i) -> zv [] (l.take (i + 1)) = zv [] (l.take i) ++ [x]) := by
 rw [zh hx]
 refine ⟨zaa _ _, fun h => ?_, fun h => ?_⟩
 . rw [xh, zno h]
 . rw [xh, znn h]
theorem zfr (l : List Int) : (zv [] l).length <= l.length := by
 have := zax _ l rfl
 have : ∀ (l seen : List Int), (zv seen l).length <= seen.length + l.length := by
  intro l
  induction l with
  | nil => intro seen; simp [zv]
  | cons x l ih =>
   intro seen
   have := ih (if x ∈ seen then seen else seen ++ [x])
   rw [zv, znG]
   split at this
   . rename_i h; rw [zno h]; omega
   . rename_i h; rw [znn h]; rw [znl, zny] at this; omega
 have := this l []
 simpa using this
theorem zfs (l : List Int) (v : Value) (D : Nat -> Prop) (W : World) (hl : SlR 1 zt D W v l) (hlen : l.length <= 1000000) : Calls Tryz.prog 82 #[v] W (Ret fun r w' => SlR 1 zt (fun b => W.heap.size <= b) w' r (yp l) /\ Ext W w') := by
 obtain ⟨av, cv, rfl⟩ := hl.form
 refine zlt Tryz.func82 O Tryz.ntmps82 O (zlE ?_)
 refine Vs 7 O ?_
 refine zmp 900 (E := fun b => MapP (Value.int .i64) b []) (u := fun b => .map (some b)) O (fun _ => ⟨MapP.loc, fun _ h => h⟩) (fun w hI => zmR) (fun m900 => ?_)
 refine Vs 7 O ?_
 refine zmp 12 (E := fun b => .row 3 1 (.slice (some ⟨b, 0, none⟩) 0 l.length) 0 []) (u := fun b => .slice (some ⟨b, 0, none⟩) 0 l.length) O (fun _ => ⟨trivial, fun _ h => h⟩) (fun w hI => M.mk0 tu27 Tryz.el3 O O (by omega) (by omega) ⟨ze3 _ _ rfl, by simp⟩) (fun b12 => ?_)
 refine Vs 12 O ?_
 refine zm3 (σ := Nat × Value × List (Int × Value)) [3, 13, 14] [] [] O (fun e ⟨i, u, L⟩ => (15, .int .i64 i) :: (4, u) :: e) (fun e ⟨i, u, L⟩ => (900, MapP (Value.int .i64) m900 L) :: (12, .row 3 1 u i ((yp (l.take i)).map zd)) :: e) (fun ⟨i, u, L⟩ => i <= l.length /\ NxIn L (zv [] (l.take i))) (fun ⟨i, u, L⟩ => l.length - i) ((0, _, [])) (zl4 O) (zl5 O) (fun _ => rfl) (fun _ => rfl) (fun _ => rfl) (⟨zns _, zkF⟩) ?_
 rintro ⟨i, u, L⟩ ⟨hi, hL⟩
 show V _ _ _ _ _ ((15, .int .i64 i) :: (4, u) :: _) _ ((900, MapP (Value.int .i64) m900 L) :: (12, .row 3 1 u i ((yp (l.take i)).map zd)) :: _) _
 refine Vs 6 O ?_
 refine zjn O (fun hlt => ?_) (fun hlt => ?_)
 ·
  refine Vs 6 O ?_
  obtain ⟨x, he_x, hm_x⟩ := gE_ l (i) (by omega)
  obtain ⟨b_x, o_x, c_x, ha_x, _, hc_x, hR_x⟩ := hl.at he_x
  obtain rfl := hR_x
  refine zm0 1000 0 O O hc_x ?_
  refine V.ix 1000 tR27 ts3 O ha_x (by omega) (_) (rfl) O ?_
  obtain ⟨hc1, hc2, hc3⟩ := zdS he_x
  have hfl := zfr (l.take i)
  rw [znH] at hfl
  refine Vs 8 O ?_
  refine zll O (fun w hI => zmT (KeyOk.int tu3) (hI.at 900 O) tu174 tz3 O O) ?_
  have zi := hL.2 x
  refine Vs 11 O ?_
  refine zll O (fun w hI => zkO O (by first | exact zb | rfl)) ?_
  refine Vs 2 O ?_
  refine V.bool O (fun hx => ?_) (fun hx => ?_)
  ·
   have hn : x ∉ zv [] (l.take i) := fun h => by rw [zi, zno h] at hx; simp at hx
   have hfn := hc3 hn
   have hid : ((zv [] (l.take (i + 1))).idxOf x : Int) = (L.length : Int) := by rw [hfn, List.idxOf_append, znn hn, hL.1]; simp
   rw [hid] at hc1
   refine Vs 3 O ?_
   refine zll O (fun w hI => zn9 tu174 (hI.at 900 O) O) ?_
   refine Vs 7 O ?_
   refine zmq 900 (e' := MapP (Value.int .i64) m900 (yy L x (.int .i64 (L.length : Int)))) O (MapP.loc) (fun _ h => h) (fun w hI => zmU (KeyOk.int tu3) (hI.at 900 O) tu174 O O O) ?_
   refine Vs 5 O ?_
   refine zm6 34 [(0, _)] tR27 ts3 tz3 (by decide) O O (by kernel_rfl) (fun b34 => ?_)
   refine zlN 12 34 tu27 Tryz.el3 O (by decide) O O (by omega) (by omega) (fun u12 => ?_)
   refine Va 8 O (by omega) ?_
   refine zm2 12 O (e' := .row 3 1 u12 (i + 1) ((yp (l.take (i + 1))).map zd)) (by rw [hc1, List.map_append]; rfl) ?_
   have hnx : NxIn (yy L x (.int .i64 (L.length : Int))) (zv [] (l.take (i + 1))) := by rw [hfn, hL.1]; exact hL.add hn
   refine zjy (⟨i + 1, u12, yy L x (.int .i64 (L.length : Int))⟩) (zl4 O) (zl5 O) (⟨by omega, hnx⟩) (by first | omega | (dsimp only; omega)) 0 O O
  ·
   have hn : x ∈ zv [] (l.take i) := znm.1 fun h => by rw [zi, znn h] at hx; simp at hx
   rw [zi, zno hn]
   have hfn := hc2 hn
   rw [hfn] at hc1
   refine Vs 5 O ?_
   refine zm6 1034 [(0, _)] tR27 ts3 tz3 (by decide) O O (by kernel_rfl) (fun b1034 => ?_)
   refine zlN 12 1034 tu27 Tryz.el3 O (by decide) O O (by omega) (by omega) (fun u12 => ?_)
   refine Va 8 O (by omega) ?_
   refine zm2 12 O (e' := .row 3 1 u12 (i + 1) ((yp (l.take (i + 1))).map zd)) (by rw [hc1, List.map_append]; rfl) ?_
   refine zjy (⟨i + 1, u12, L⟩) (zl4 O) (zl5 O) (⟨by omega, by rw [hfn]; exact hL⟩) (by first | omega | (dsimp only; omega)) 0 O O
 ·
  obtain rfl : i = l.length := by omega
  refine zm2 12 O (e' := .row 3 1 u (yp l).length ((yp l).map zd)) (by rw [zni, zdQ]) ?_
  refine Vs 12 O ?_
  refine zjH Tryz.results82 O (fun w hI => ⟨_, rfl, zkx zd (fun _ _ => rfl) (hI.at 12 O) (fun b hb => hI.own 12 0 O O b hb), hI.k0⟩)
theorem zgK {c : Mx} (ho : zfG c) : c.map xM = zbd c := List.map_congr_left fun row hr => zno (ho row hr)
theorem zft (c : Mx) (v : Value) (D : Nat -> Prop) (W : World) (hc : SlR 1 (RSl 1 zt) D W v c) : Calls Tryz.prog 29 #[.agg #[v]] W (Ret fun r w' => (∃ u, r = .tuple #[u, .int .i64 (if ¬ VMx c then 1 else if ¬ zfG c then 15 else 0)] /\ (VMx c /\ zfG c -> SlR 1 zt (fun b => W.heap.size <= b) w' u (yp (zbd c))) /\ (¬ (VMx c /\ zfG c) -> u = .slice none 0 0)) /\ Ext W w') := by
 obtain ⟨av, cv, rfl⟩ := hc.form
 have hmx := hc.max
 refine zlt Tryz.func29 O Tryz.ntmps29 O (zlE ?_)
 refine Vs 2 O ?_
 refine V.box 1 O O (fun b1 => ?_)
 refine Vs 8 O ?_
 refine zlT Tryz.call39 O (fun w hI => jE c _ D w (Tr1 hI.k0 hc)) ?_
 refine zll O (fun w hI => zkO O (by first | exact zb | rfl)) ?_
 refine Vs 2 O ?_
 refine zjn O (fun v0 => ?_) (fun v0 => ?_)
 ·
  rw [zno v0]
  refine Vs 8 O ?_
  refine zjK Tryz.results29 O O (fun w hI => ⟨_, rfl, ⟨_, rfl, fun h => absurd h.1 v0, fun _ => rfl⟩, hI.k0⟩)
 ·
  rw [znn v0]
  have v0 := znm.1 v0
  have hr2 := v0.r2
  refine Vs 6 O ?_
  refine zlT Tryz.call30 O (fun w hI => zgG c _ D w (Tr1 hI.k0 hc)) ?_
  refine zll O (fun w hI => zkO O (by first | exact zb | rfl)) ?_
  refine Vs 2 O ?_
  refine zjn O (fun o0 => ?_) (fun o0 => ?_)
  ·
   have o1 : ¬ zfG c := fun h => o0 ⟨v0, h⟩
   rw [zno o1]
   refine Vs 8 O ?_
   refine zjK Tryz.results29 O O (fun w hI => ⟨_, rfl, ⟨_, rfl, fun h => absurd h.2 o1, fun h => rfl⟩, hI.k0⟩)
  ·
   have o0 := (znm.1 o0).2
   rw [znn (znA o0)]
   have hlab := zgK o0
   refine Vs 16 O ?_
   refine zlM 900 3 1 O ?_
   refine Vs 1 O ?_
   refine zm3 (σ := Nat × Value) [14, 15] [] [] O (fun e ⟨i, u⟩ => (16, .int .i64 i) :: (4, u) :: e) (fun e ⟨i, u⟩ => (900, .row 3 1 u i (((c.take i).map xM).map zd)) :: e) (fun ⟨i, u⟩ => i <= c.length) (fun ⟨i, u⟩ => c.length - i) ((0, .slice none 0 0)) (zl4 O) (zl5 O) (fun _ => rfl) (fun _ => rfl) (fun _ => rfl) (zns _) ?_
   rintro ⟨i, u⟩ hi
   show V _ _ _ _ _ ((16, .int .i64 i) :: (4, u) :: _) _ ((900, .row 3 1 u i (((c.take i).map xM).map zd)) :: _) _
   refine Vs 6 O ?_
   refine zjn O (fun hlt => ?_) (fun hlt => ?_)
   ·
    refine Vs 6 O ?_
    obtain ⟨x, he_x, hm_x⟩ := gE_ c (i) (by omega)
    obtain ⟨b_x, o_x, c_x, ha_x, _, hc_x, hR_x⟩ := hc.at he_x
    obtain ⟨v1_x, rfl, hs_x⟩ := hR_x
    obtain ⟨a1_x, n1_x, rfl⟩ := hs_x.form
    refine zm0 1000 0 O O hc_x ?_
    refine V.ix 1000 tR34 ts27 O ha_x (by omega) (_) (rfl) O ?_
    refine Vs 7 O ?_
    refine zlT Tryz.call81 O (fun w hI => zc9 x _ _ w (Tr1 hI.k0 hs_x)) ?_
    refine zm6 23 [(0, _)] tR27 ts3 tz3 (by decide) O O (by kernel_rfl) (fun b23 => ?_)
    refine zlN 900 23 tu27 Tryz.el3 O (by decide) O O (by omega) (by omega) (fun u900 => ?_)
    refine Va 8 O (by omega) ?_
    refine zm2 900 O (e' := .row 3 1 u900 (i + 1) (((c.take (i + 1)).map xM).map zd)) (by rw [zh he_x, List.map_append, List.map_append]; rfl) ?_
    refine zjy (⟨i + 1, u900⟩) (zl4 O) (zl5 O) (by omega) (by first | omega | (dsimp only; omega)) 0 O O
   ·
    obtain rfl : i = c.length := by omega
    refine zm2 900 O (e' := .row 3 1 u (zbd c).length ((zbd c).map zd)) (by rw [zni, hlab]; simp [zbd]) ?_
    have hll : (zbd c).length <= 1000000 := by unfold zbd; rw [znx]; omega
    refine Vs 8 O ?_
    refine zlV Tryz.call82 O (fun w hI => zfs (zbd c) _ _ w (zkx (D := fun _ => True) zd (fun _ _ => rfl) (hI.at 900 O) (fun _ _ => trivial)) hll) ?_
    rintro r1 w1 w2 hI1 hk12 hres hlow
    refine Vs 5 O ?_
    refine zjK Tryz.results29 O O (fun w hI => ⟨_, rfl, ⟨_, rfl, fun _ => (hres.keep za hI.k0 (fun b hb _ hs => by have := hlow b hs; omega)).wide za (fun b hb => znj hI1.k0.size hb), fun h => absurd ⟨v0, o0⟩ h⟩, hI.k1⟩)
theorem zcd {w : World} {e : TypeId} {k : Nat} {v : Value} {n : Nat} {xs : List Value} (h : w.ownsRow 0 e k v n xs) : ∃ ao c, v = .slice ao n c /\ (0 < n -> ∃ b, ao = some ⟨b, 0, none⟩) := by
 rcases h.2 with ⟨rfl, rfl⟩ | ⟨g, cap, cur, rfl, _⟩
 . exact ⟨_, _, rfl, fun h => by omega⟩
 . exact ⟨_, _, rfl, fun _ => ⟨_, rfl⟩⟩
theorem zhV {H : Hp} {w : World} (k1 k2 : Nat) (c : Mx) (hv : VMx c) {v : Value} {D : Nat -> Prop} (hc : SlR 1 (RSl 1 zt) D w v c) :
  Calls Tryz.prog 70 #[v] w (Ret fun r w' => ∃ y : Nat × Nat × List Value, r = .slice (some ⟨y.1, 0, none⟩) (zN c).length y.2.1 /\ Hands H [] [(k1, .row 27 1 (.slice (some ⟨y.1, 0, none⟩) (zN c).length y.2.1) (zN c).length y.2.2), (k2, RowsP zd 3 y.2.2 (zN c))] w w') := by
 have h1 := hv.r1
 have h2 := hv.r2
 have h3 := hv.w2
 have h4 := hv.w1
 refine (zae c h1 hv.wid ⟨by omega, by omega⟩ v D w hc).mono ?_
 rintro _ w' ⟨r, rfl, ⟨rv, g1, g2, g3, g4⟩, hk⟩
 obtain ⟨ao, cap, rfl, hb⟩ := zcd g1
 obtain ⟨b, rfl⟩ := hb (by rw [qi]; omega)
 refine ⟨_, rfl, (b, cap, rv), rfl, hk.mono fun q _ h => h.elim, fun x hx => ?_, ?_⟩
 ·
  simp only [znt, List.not_mem_nil, or_false] at hx
  rcases hx with rfl | rfl
  . refine ⟨g1, trivial, fun _ h => h, fun q hq => ⟨.inr (g3 q hq).1, xl g1 hq⟩⟩
  ·
   refine ⟨g2, RowsP.loc, fun _ h => h, fun q hq => ?_⟩
   obtain ⟨i, u, hu, he⟩ := hq
   exact ⟨.inr (g4 i u q hu he), g2.blk hu he⟩
 ·
  refine List.pairwise_cons.2 ⟨fun x hx => ?_, List.pairwise_singleton _ _⟩
  rw [znv] at hx
  subst hx
  intro q hq hq2
  obtain ⟨i, u, hu, he⟩ := hq2
  exact (g3 q hq).2 i u hu he
def xN (r col : List Int) (x : Nat) : List Int := (List.zipWith (· + ·) r col).take x ++ r.drop x
theorem zdT (r col : List Int) : xN r col 0 = r := by simp [xN]
theorem zfu {r col : List Int} (h : r.length = col.length) {x : Nat} (hx : x <= r.length) : (xN r col x).length = r.length := by
 unfold xN
 rw [znl, znH, List.length_zipWith, List.length_drop]
 omega
theorem zdU {r col : List Int} (h : r.length = col.length) : xN r col r.length = List.zipWith (· + ·) r col := by
 unfold xN
 rw [List.drop_length, List.append_nil, List.take_of_length_le (by rw [List.length_zipWith]; omega)]
theorem zfv {r col : List Int} (h : r.length = col.length) {x : Nat} {a : Int} (ha : r[x]? = some a) : (xN r col x)[x]? = some a := by
 have hl := (znr.1 ha).1
 unfold xN
 rw [znE (by rw [znH]; omega), znH, List.length_zipWith, show x - min x (min r.length col.length) = 0 by omega, List.getElem?_drop]
 exact ha
theorem zfw {r col : List Int} (h : r.length = col.length) {x : Nat} {a b : Int} (ha : r[x]? = some a) (hb : col[x]? = some b) : (xN r col x).set x (a + b) = xN r col (x + 1) := by
 have hl := (znr.1 ha).1
 have hz : (List.zipWith (· + ·) r col)[x]? = some (a + b) := by
  rw [List.getElem?_zipWith, ha, hb]
 unfold xN
 rw [zh hz, yC ha, List.set_append_right _ _ (by rw [znH]; omega), znH, List.length_zipWith, show x - min x (min r.length col.length) = 0 by omega, List.set_cons_zero, List.append_assoc]
 rfl
theorem zhW {w : World} {v : Value} {rv : List Value} {rows : List (List Int)} {D : Nat -> Prop} (h1 : w.ownsRow 0 27 1 v rows.length rv) (h2 : RowsOk zd 3 w rv rows) (hD1 : ∀ g, v.ownBlock = some g -> D g) (hD2 : ∀ (i : Nat) u g, rv[i]? = some u -> u.ownBlock = some g -> D g) : SlR 1 (RSl 1 zt) D w v rows := by
 have : OwnR 27 1 (RSl 1 zt) D w v rows := ⟨rv, h1, fun i x hx => by
  have hlen := h2.len
  have hl := (znr.1 hx).1
  obtain ⟨u, hu⟩ : ∃ u, rv[i]? = some u := ⟨_, znd (by omega)⟩
  have hd : (rv.drop (i * 1)).take 1 = [u] := by rw [Nat.mul_one, yC hu]; rfl
  rw [hd]
  exact ⟨u, rfl, zkx zd (fun _ _ => rfl) (h2.row i u x hu hx) (fun g hg => hD2 i u g hu hg)⟩⟩
 exact this.sl (by decide) (yD za) (fun q h => h) hD1
theorem zfx {c : Mx} (h : VMx c) {col : List Int} (hc : col ∈ zN c) : ∀ v ∈ col, 0 <= v /\ v <= 1048576 := fun v hv => by
 refine ⟨(zfb h hc).2 v hv, ?_⟩
 obtain ⟨y, _, rfl⟩ := List.mem_map.1 hc
 obtain ⟨row, hr, rfl⟩ := List.mem_map.1 hv
 cases hy : row[y]? with
 | none => show (0 : Int) <= _; omega
 | some v => exact (((vmx_ref.1 h).2 row hr).2.1 v (zne hy)).2
def ze2 (T : Mx) : Mx := (xz (zu (yg T))).mergeSort fun a b => decide (xp b a <= 0)
theorem zcQ (T : Mx) : IsAbs T (ze2 T) := by
 refine ⟨List.mergeSort_perm _ _, ?_⟩
 have := List.pairwise_mergeSort (le := fun a b : List Int => decide (xp b a <= 0)) (fun a b c h1 h2 => by
  simp only [decide_eq_true_eq] at h1 h2 ⊢
  rcases Int.lt_or_eq_of_le h1 with h1 | h1
  ·
   rcases Int.lt_or_eq_of_le h2 with h2 | h2
   . have := xx h2 h1; omega
   . rw [xI h2]; omega
  . rw [<- xI h1]; exact h2) (fun a b => by
  have := yI a b
  simp only [Bool.or_eq_true, decide_eq_true_eq]
  omega) (xz (zu (yg T)))
 exact this.imp fun h => by simpa using h
def zgL (c : Mx) : Mx := if VMx c then jD c.length (ze2 (zN c)) else []
theorem kh {c : Mx} (h : VMx c) : zgL c = jD c.length (ze2 (zN c)) := zno h
theorem zhX {c : Mx} (h : ¬ VMx c) : zgL c = [] := znn h
theorem zdV {c : Mx} (h : VMx c) : VMx (zgL c) /\ zN (zgL c) = ze2 (zN c) := by
 rw [kh h]
 exact zn4 h (zcQ _)
theorem zgM (A B : List Int) : zP (zP A :: B) = zP (A ++ B) := zb8 fun d => by
 constructor
 ·
  intro h n hn
  rcases znw.1 hn with hn | hn
  . exact Int.dvd_trans (h _ (znh ..)) (ya hn)
  . exact h n (zng _ hn)
 ·
  intro h n hn
  rcases znt.1 hn with rfl | hn
  . exact xo fun x hx => h x (List.mem_append_left _ hx)
  . exact h n (List.mem_append_right _ hn)
theorem zhY {L : Mx} {M : List (List Int × Int)} (h : MSpec L M) (hne : M ≠ []) : 0 < zP (zu M).flatten := by
 obtain ⟨p, hp⟩ := List.exists_mem_of_ne_nil _ hne
 have h1 := (h.good hp).2
 rw [zc5 h]
 have hd := ya (List.mem_map.2 ⟨p, hp, rfl⟩ : p.2 ∈ M.map (·.2))
 have h2 := yz (M.map (·.2))
 rcases Int.lt_or_eq_of_le h2 with h3 | h3
 . exact h3
 ·
  rw [<- h3] at hd
  have := Int.zero_dvd.1 hd
  omega
structure ColsAt (n : Nat) (C : Mx) (y : Nat) : Prop where
 len : ∀ r ∈ C, r.length = n
 bd : ∀ r ∈ C, ∀ v ∈ r, 0 <= v /\ v <= ((y : Int) + 1) * 1048576
theorem zkG {c : Mx} (h : VMx c) : ColsAt c.length (zN c) 0 := ⟨fun r hr => za9 hr, fun r hr v hv => by have := zfx h hr v hv; omega⟩
theorem ColsAt.more {n y : Nat} {C : Mx} (h : ColsAt n C y) : ColsAt n C (y + 1) := ⟨h.len, fun r hr v hv => by have := h.bd r hr v hv; omega⟩
theorem ColsAt.add {n y p : Nat} {C : Mx} {r col : List Int} (h : ColsAt n C y) (hr : r ∈ C) (hc : ∀ v ∈ col, 0 <= v /\ v <= 1048576) (hl : col.length = n) : ColsAt n (C.set p (List.zipWith (· + ·) r col)) (y + 1) := by
 have hrl := h.len r hr
 refine ⟨fun q hq => ?_, fun q hq v hv => ?_⟩
 ·
  rcases List.mem_or_eq_of_mem_set hq with hq | rfl
  . exact h.len q hq
  . rw [List.length_zipWith]; omega
 ·
  rcases List.mem_or_eq_of_mem_set hq with hq | rfl
  . have := h.bd q hq v hv; omega
  ·
   obtain ⟨i, hi⟩ := List.mem_iff_getElem?.1 hv
   rw [List.getElem?_zipWith_eq_some] at hi
   obtain ⟨a, b, ha, hb, rfl⟩ := hi
   have h1 := h.bd r hr a (zne ha)
   have h2 := hc b (zne hb)
   omega
theorem zgN {l : List Int} {d x : Int} {i : Nat} (hx : l[i]? = some x) (hti : ((l.take i).map (· / d)).length = i) : ((((l.take i).map (· / d)) ++ List.replicate (l.length - i) 0).map zd).set i (.int .i64 (x / d)) = (((l.take (i + 1)).map (· / d)) ++ List.replicate (l.length - (i + 1)) 0).map zd := by
 have hl := (znr.1 hx).1
 rw [show (Value.int .i64 (x / d)) = zd (x / d) from rfl, <- List.map_set, zh hx, List.map_append]
 congr 1
 rw [List.set_append_right _ _ (by omega), hti, Nat.sub_self, show l.length - i = (l.length - (i + 1)) + 1 by omega, List.replicate_succ, List.set_cons_zero]
 simp
theorem zaC (l : List Int) (d : Int) (hd : 0 < d) (hn : ∀ x ∈ l, 0 <= x /\ x <= 9223372036854775807) (hlen : l.length <= 1000000) (v : Value) (D : Nat -> Prop) (W : World) (hl : SlR 1 zt D W v l) : Calls Tryz.prog 72 #[v, .int .i64 d] W (Ret fun r w' => SlR 1 zt (fun b => W.heap.size <= b) w' r (l.map (· / d)) /\ Ext W w') := by
 obtain ⟨av, cv, rfl⟩ := hl.form
 refine zlu Tryz.func72 O Tryz.ntmps72 O (zlE ?_)
 refine Vs 9 O ?_
 refine zkh 10 tu27 Tryz.el3 O (by omega) (by omega) (zs := List.replicate l.length (.int .i64 0)) (ze3 _ _ O) (by simp) (fun b10 => ?_)
 refine zm2 10 O (e' := .row 3 1 (.slice (some ⟨b10, 0, none⟩) l.length l.length) l.length ((((l.take 0).map (· / d)) ++ List.replicate (l.length - 0) 0).map zd)) (by simp [zd]) ?_
 refine Vs 12 O ?_
 refine zm3 (σ := Nat) [1, 5, 11, 12] [] [] O (fun e i => (13, .int .i64 i) :: e) (fun e i => (10, .row 3 1 (.slice (some ⟨b10, 0, none⟩) l.length l.length) l.length ((((l.take i).map (· / d)) ++ List.replicate (l.length - i) 0).map zd)) :: e) (fun i => i <= l.length) (fun i => l.length - i) (0) (zl4 O) (zl5 O) (fun _ => rfl) (fun _ => rfl) (fun _ => rfl) (zns _) ?_
 rintro i hi
 refine Vs 6 O ?_
 refine zjn O (fun hlt => ?_) (fun hlt => ?_)
 ·
  refine Vs 7 O ?_
  obtain ⟨x, he_x, hm_x⟩ := gE_ l (i) (by omega)
  obtain ⟨b_x, o_x, c_x, ha_x, _, hc_x, hR_x⟩ := hl.at he_x
  obtain rfl := hR_x
  refine zm0 1000 0 O O hc_x ?_
  refine V.ix 1000 tR27 ts3 O ha_x (by omega) (_) (rfl) O ?_
  have hx := hn x hm_x
  have hti : ((l.take i).map (· / d)).length = i := by rw [znx, znH]; omega
  refine Vs 10 O ?_
  refine zll O (fun w hI => R.quo O O (by omega) (by omega)) ?_
  refine Va 1 O (by omega) ?_
  refine V.rs 10 (i) ts3 O (by omega) (by simp; omega) ?_
  refine zm2 10 O (e' := .row 3 1 (.slice (some ⟨b10, 0, none⟩) l.length l.length) l.length ((((l.take (i + 1)).map (· / d)) ++ List.replicate (l.length - (i + 1)) 0).map zd)) (by rw [<- zgN he_x hti, Int.tdiv_eq_ediv_of_nonneg hx.1]) ?_
  refine Va 7 O (by omega) ?_
  refine zjy (i + 1) (zl4 O) (zl5 O) (by omega) (by first | omega | (dsimp only; omega)) 0 O O
 ·
  obtain rfl : i = l.length := by omega
  refine zm2 10 O (e' := .row 3 1 (.slice (some ⟨b10, 0, none⟩) l.length l.length) (l.map (· / d)).length ((l.map (· / d)).map zd)) (by simp) ?_
  refine Vs 12 O ?_
  refine zjH Tryz.results72 O (fun w hI => ⟨_, rfl, zkx zd (fun _ _ => rfl) (hI.at 10 O) (fun b hb => hI.own 10 0 O O b hb), hI.k0⟩)
end Go.Proofs.YtaenledoagbddaaGreatDoor
namespace Go.Proofs
open Go.Shelf
def Tryz.laysSlF6A_ren : Go.Shelf.Ren := ⟨fun | 6 => 73 | 15 => 130 | 14 => 131 | 28 => 167 | 29 => 168 | 20 => 169 | 21 => 170 | 22 => 171 | 23 => 172 | 24 => 173 | 25 => 174 | 26 => 175 | 27 => 176 | 46 => 214 | 47 => 210 | 48 => 211 | 49 => 215 | 50 => 216 | 57 => 230 | n => n, fun | 22 => 34 | 24 => 27 | 25 => 117 | 3 => 3 | 39 => 172 | 0 => 0 | 53 => 205 | 55 => 207 | 4 => 4 | 46 => 199 | 45 => 198 | 50 => 108 | 5 => 5 | 9 => 9 | 66 => 234 | 70 => 238 | 76 => 251 | 77 => 180 | n => n, fun | n => n⟩
theorem Tryz.laysSlF6A : Go.Proofs.SlLaysF.n6 Tryz.prog Tryz.laysSlF6A_ren := {
 mixed := by kernel_rfl
 f6 := ⟨Tryz.f73.name, by decide, Tryz.func73.trans (congrArg some (by kernel_rfl))⟩
 f14 := ⟨Tryz.f131.name, by decide, Tryz.func131.trans (congrArg some (by kernel_rfl))⟩
 f15 := Tryz.func130.trans (congrArg some (by kernel_rfl))
 f20 := ⟨Tryz.f169.name, by decide, Tryz.func169.trans (congrArg some (by kernel_rfl))⟩
 f21 := ⟨Tryz.f170.name, by decide, Tryz.func170.trans (congrArg some (by kernel_rfl))⟩
 f22 := ⟨Tryz.f171.name, by decide, Tryz.func171.trans (congrArg some (by kernel_rfl))⟩
 f23 := ⟨Tryz.f172.name, by decide, Tryz.func172.trans (congrArg some (by kernel_rfl))⟩
 f24 := ⟨Tryz.f173.name, by decide, Tryz.func173.trans (congrArg some (by kernel_rfl))⟩
 f25 := ⟨Tryz.f174.name, by decide, Tryz.func174.trans (congrArg some (by kernel_rfl))⟩
 f26 := ⟨Tryz.f175.name, by decide, Tryz.func175.trans (congrArg some (by kernel_rfl))⟩
 f27 := ⟨Tryz.f176.name, by decide, Tryz.func176.trans (congrArg some (by kernel_rfl))⟩
 f28 := Tryz.func167.trans (congrArg some (by kernel_rfl))
 f29 := Tryz.func168.trans (congrArg some (by kernel_rfl))
 f46 := ⟨Tryz.f214.name, by decide, Tryz.func214.trans (congrArg some (by kernel_rfl))⟩
 f47 := Tryz.func210.trans (congrArg some (by kernel_rfl))
 f48 := Tryz.func211.trans (congrArg some (by kernel_rfl))
 f49 := ⟨Tryz.f215.name, by decide, Tryz.func215.trans (congrArg some (by kernel_rfl))⟩
 f50 := ⟨Tryz.f216.name, by decide, Tryz.func216.trans (congrArg some (by kernel_rfl))⟩
 f57 := ⟨Tryz.f230.name, by decide, Tryz.func230.trans (congrArg some (by kernel_rfl))⟩
 t0 := tu0
 a0 := tg0
 z0 := ts0
 v0 := tz0
 t3 := tu3
 a3 := tg3
 z3 := ts3
 v3 := tz3
 t4 := tu4
 a4 := tg4
 z4 := ts4
 v4 := tz4
 t5 := tu5
 a5 := tg5
 z5 := ts5
 v5 := tz5
 t9 := tu9
 a9 := tg9
 z9 := ts9
 v9 := tz9
 t22 := tu34
 a22 := Tryz.isAgg34
 z22 := Tryz.sizeOf34
 v22 := Tryz.zeroValue34
 a24 := tg27
 z24 := ts27
 t25 := Tryz.underlying117
 a25 := Tryz.isAgg117
 z25 := Tryz.sizeOf117
 v25 := Tryz.zeroValue117
 t39 := tu172
 a39 := Tryz.isAgg172
 z39 := ts172
 v39 := tz172
 t45 := tu198
 a45 := Tryz.isAgg198
 z45 := Tryz.sizeOf198
 v45 := Tryz.zeroValue198
 t46 := tu199
 a46 := Tryz.isAgg199
 z46 := Tryz.sizeOf199
 v46 := Tryz.zeroValue199
 t50 := tu108
 a50 := Tryz.isAgg108
 z50 := Tryz.sizeOf108
 v50 := Tryz.zeroValue108
 t53 := tu205
 a53 := Tryz.isAgg205
 z53 := ts205
 v53 := tz205
 t55 := tu207
 a55 := Tryz.isAgg207
 z55 := ts207
 v55 := tz207
 t66 := tu234
 a66 := Tryz.isAgg234
 z66 := ts234
 v66 := Tryz.zeroValue234
 t70 := tu238
 a70 := Tryz.isAgg238
 z70 := Tryz.sizeOf238
 v70 := Tryz.zeroValue238
 t76 := tu251
 a76 := Tryz.isAgg251
 z76 := Tryz.sizeOf251
 v76 := Tryz.zeroValue251
 t77 := tu180
 a77 := Tryz.isAgg180
 z77 := Tryz.sizeOf180
 v77 := Tryz.zeroValue180 }
open Go.RowKit Go.Lib Go.Sort in
theorem Tryz.slices_SortFuncA {α : Type} [Inhabited α] (enc : α -> Value) (h1 : OneCell enc) (cf : α -> α -> Int) (hO : SWO (ltOf cf)) (g : Nat) (cb : Array Value) (blk off cap : Nat) (d : Array α) (w : World) (eg : ∀ args w, (callFunc g args).run Tryz.prog w = .ok (.enter g args) w) (hcmp : CmpLays1 Tryz.prog g cb enc cf blk off d.size w) (hH : Holds enc w blk off d) (hblk : blk < w.heap.size) (hsz : d.size < 4611686018427387904) :
  Calls Tryz.prog 73 #[.slice (some ⟨blk, off, none⟩) d.size cap, .func (.func g) #[] cb] w fun e w' =>
   e = .returned (.tuple #[]) /\ ∃ d' n os, PermIn 0 d.size d d' /\ SortedIn (ltOf cf) 0 d.size d' /\ w' = sortWorld enc w blk off n d' os := Any.slices_SortFunc Tryz.laysSlF6A enc h1 cf hO g cb blk off cap d w eg hcmp hH hblk hsz
open Go.RowKit Go.Lib Go.Sort in
theorem Tryz.slices_SortFuncA_none (p : Option Addr) (cap : Nat) (fv : Value) (w : World) :
  Calls Tryz.prog 73 #[.slice p 0 cap, fv] w fun e w' => e = .returned (.tuple #[]) /\ w' = w := AnyF.slices_SortFunc_none { Tryz.laysSlF6A with } p cap fv w
end Go.Proofs
namespace Go.GL
section
variable {P : Program} {n : Nat} {Q : Exit -> Act -> World -> Prop} {ks : List Fr} {pos : Pos} {env : Env} {A : Tgs} {H : Hp} {Bs : zH}
theorem zna (k m kk : Nat) {b : Nat} {cs : List Value} {t : TypeId} (hn : zi H k = some (.own b cs t)) (hA : A.all (fun p => match p.2 with | some (j, _) => !Nat.beq k j | none => true) = true) (hl : cs.length = m * kk) (hm : m <= 9223372036854775807) (h : V P n Q ks pos env A (hset H k (.row t kk (.slice (some ⟨b, 0, none⟩) m m) m cs)) Bs) : V P n Q ks pos env A H Bs :=
 V.as (e' := .row t kk (.slice (some ⟨b, 0, none⟩) m m) m cs) k hn hA (fun w hB => by have := yY (k := kk) hB (znC m) hm hl; rwa [<- hl, zni] at this) trivial (fun _ h => h) (fun q hq => (Option.some.inj hq).symm) h
theorem znb (k : Nat) {p : World -> Prop} (hn : (zi H k).isNone = true) (hp : ∀ w, p w) (h : V P n Q ks pos env A ((k, .res (fun _ => False) p) :: H) Bs) : V P n Q ks pos env A H Bs :=
 fun hA w hI => h (hA.new (by simpa using hn)) w (hI.new (Keep.refl _ _) k (hp w) (fun _ w' _ _ _ _ => hp w') (fun _ h => h) (fun _ h => h.elim))
end
end Go.GL
namespace Go.Proofs.YtaenledoagbddaaGreatDoor
open Go.GL
theorem ki {e : TypeId} {w : World} {rv : List Value} {rows : List (List Int)} {p : Nat} {v : Value} {r : List Int} (h : RowsOk zd e w rv rows) (hv : rv[p]? = some v) (hr : rows[p]? = some r) : SlR 1 zt (fun _ => True) w v r := zkx zd (fun _ _ => rfl) (h.row p v r hv hr) (fun _ _ => trivial)
theorem zhZ (xs ys : List Int) (u v : Value) (D D' : Nat -> Prop) (W : World) (hx : SlR 1 zt D W u xs) (hy : SlR 1 zt D' W v ys) : Calls Tryz.prog 74 #[u, v] W (Ret fun r w' => r = .int .i64 (xp ys xs) /\ Ext W w') := by
 refine zlu Tryz.func74 O Tryz.ntmps74 O (zlE ?_)
 refine Vs 9 O ?_
 refine zlT Tryz.call75 O (fun w hI => kY ys xs v u D' D w (Tr1 hI.k0 hy) (Tr1 hI.k0 hx)) ?_
 refine Vs 4 O ?_
 refine zjH Tryz.results74 O (fun w hI => ⟨_, rfl, rfl, hI.k0⟩)
theorem zdW (c : Mx) (hc1 : 1 <= c.length) (hw : ∀ row ∈ c, row.length = (c.headD []).length) (hb : c.length <= 1000000 /\ (c.headD []).length <= 1000000) (v : Value) (D : Nat -> Prop) (W : World) (hc : SlR 1 (RSl 1 zt) D W v c) : Calls Tryz.prog 70 #[v] W (Ret fun r w' => SlR 1 (RSl 1 zt) (fun b => W.heap.size <= b) w' r (zN c) /\ Ext W w') := by
 refine (zae c hc1 hw hb v D W hc).mono ?_
 rintro _ w' ⟨r, rfl, ⟨rv, g1, g2, g3, g4⟩, hk⟩
 exact ⟨r, rfl, zhW g1 g2 (fun g hg => (g3 g hg).1) g4, hk⟩
theorem zdX {H : Hp} {w : World} (k : Nat) (l : List Int) (d : Int) (hd : 0 < d) (hn : ∀ x ∈ l, 0 <= x /\ x <= 9223372036854775807) (hlen : l.length <= 1000000) {v : Value} {D : Nat -> Prop} (hl : SlR 1 zt D w v l) :
  Calls Tryz.prog 72 #[v, .int .i64 d] w (Ret fun r w' => ∃ y : Option Addr × Nat × (Nat -> Prop), r = .slice y.1 l.length y.2.1 /\ Hands H [] [(k, DaP (RSl 1 zt) y.2.2 (l.map (· / d)) [.slice y.1 l.length y.2.1])] w w') := by
 refine (zaC l d hd hn hlen v D w hl).mono ?_
 rintro _ w' ⟨r, rfl, h1, hk⟩
 obtain ⟨ao, co, rfl⟩ := h1.form
 rw [znx] at *
 refine ⟨_, rfl, (ao, co, fun b => w.heap.size <= b /\ b < w'.heap.size), rfl, hk.mono fun q _ h => h.elim, fun x hx => ?_, List.pairwise_singleton _ _⟩
 rw [znv] at hx
 subst hx
 exact ⟨⟨_, rfl, h1.narrow (by omega) yR⟩, DaP.loc, fun _ h => h, fun q hq => ⟨.inr hq.1, hq.2⟩⟩
def DivIn (D : Mx) (j : Nat) (xs : List Value) (F : Nat -> Prop) (w : World) : Prop := ∀ (i : Nat) x, i < j -> D[i]? = some x -> ∃ v, xs[i]? = some v /\ SlR 1 zt F w v x
theorem DivIn.loc {D : Mx} {j : Nat} {xs : List Value} {F : Nat -> Prop} : (HE.res F (DivIn D j xs F)).loc := fun w w' T hx hk hT i x hi hD => by
 obtain ⟨v, h1, h2⟩ := hx i x hi hD
 exact ⟨v, h1, h2.keep za hk fun b hb hlt => hT b hlt hb⟩
theorem DivIn.next {D : Mx} {j : Nat} {xs : List Value} {F G : Nat -> Prop} {w : World} {v : Value} {x : List Int} (h : DivIn D j xs F w) (hx : D[j]? = some x) (hj : j < xs.length) (hG : RSl 1 zt G w x [v]) : DivIn D (j + 1) (xs.set j v) (fun q => F q \/ G q) w := fun i z hi hz => by
 by_cases e : i = j
 ·
  subst e
  rw [hx] at hz
  cases hz
  obtain ⟨u, h1, h2⟩ := hG
  simp only [List.cons.injEq, and_true] at h1
  subst h1
  exact ⟨v, by rw [List.getElem?_set_self hj], h2.wide za fun q hq => .inr hq⟩
 ·
  obtain ⟨u, h1, h2⟩ := h i z (by omega) hz
  exact ⟨u, by rw [List.getElem?_set_ne (fun h => e h.symm)]; exact h1, h2.wide za fun q hq => .inl hq⟩
theorem DivIn.own {D : Mx} {xs : List Value} {F : Nat -> Prop} {w : World} {v : Value} {e : TypeId} (h : DivIn D D.length xs F w) (hv : w.ownsRow 0 e 1 v D.length xs) : OwnR e 1 (RSl 1 zt) F w v D := ⟨xs, hv, fun i x hx => by
 obtain ⟨u, h1, h2⟩ := h i x (znr.1 hx).1 hx
 have hd : (xs.drop (i * 1)).take 1 = [u] := by rw [Nat.mul_one, yC h1]; rfl
 rw [hd]
 exact ⟨u, rfl, h2⟩⟩
theorem ziE : zdm Tryz.prog 73 := ⟨fun enc h1 cf hO g cb blk off cap d w eg hcmp hH hblk hsz => Tryz.slices_SortFuncA enc h1 cf hO g cb blk off cap d w eg hcmp hH hblk hsz, fun p cap fv w => Tryz.slices_SortFuncA_none p cap fv w⟩
theorem swoL : Go.Sort.SWO (Go.Proofs.ltOf fun x y : List Int => xp y x) := by
 have hlt : ∀ x y : List Int, Go.Proofs.ltOf (fun x y : List Int => xp y x) x y = true ↔ xp y x < 0 := fun x y => by unfold Go.Proofs.ltOf; rw [decide_eq_true_eq]
 have hlf : ∀ x y : List Int, Go.Proofs.ltOf (fun x y : List Int => xp y x) x y = false ↔ ¬ xp y x < 0 := fun x y => by rw [<- hlt, Bool.not_eq_true]
 refine ⟨fun x => ?_, fun x y z => ?_, fun x y z => ?_⟩
 . rw [hlf, jh]; omega
 . rw [hlt, hlt, hlt]; exact fun h1 h2 => xx h2 h1
 ·
  rw [hlf, hlf, hlf]
  intro h1 h2 h3
  have a1 := yI x y
  have a2 := yI y z
  have a3 := yI x z
  rcases Int.lt_or_le (xp x y) 0 with b | b
  . have := xx (x := z) (y := x) (z := y) h3 b; omega
  ·
   have e : x = y := (xI (by omega))
   rw [e] at h3; exact h2 h3
theorem zi0 {l : List Int} {B : Int} (hB : 0 <= B) (h : ∀ x ∈ l, 0 <= x /\ x <= B) : zP l <= B := by
 by_cases he : ∃ x ∈ l, x ≠ 0
 ·
  obtain ⟨x, hx, h0⟩ := he
  have h1 := h x hx
  have := Int.le_of_dvd (by omega) (ya hx)
  omega
 ·
  have h1 : (0 : Int) ∣ zP l := xo fun n hn => by
   have : n = 0 := znm.1 fun h0 => he ⟨n, hn, h0⟩
   rw [this]; exact Int.dvd_refl 0
  rw [Int.zero_dvd.1 h1]; exact hB
theorem ziF {l : List (List Int)} {x : List Int} (h : x ∈ l) : l[l.idxOf x]? = some x := by
 have hl := List.idxOf_lt_length_iff.2 h
 rw [znd hl, List.getElem_idxOf]
def hdr (rv : List Value) (p : Nat) : Value := (rv[p]?).getD (.slice none 0 0)
theorem km {rv : List Value} {p : Nat} {v : Value} (h : rv[p]? = some v) : hdr rv p = v := by unfold hdr; rw [h]; rfl
theorem zdr (c : Mx) (v : Value) (D : Nat -> Prop) (W : World) (hc : SlR 1 (RSl 1 zt) D W v c) (ht : Tab W) : Calls Tryz.prog 17 #[.agg #[v]] W (Ret fun r w' => (∃ u, r = .agg #[u] /\ SlR 1 (RSl 1 zt) (fun b => W.heap.size <= b) w' u (zgL c)) /\ Ext W w') := by
 obtain ⟨av, cv, rfl⟩ := hc.form
 refine zlt Tryz.func17 O Tryz.ntmps17 O (zlE ?_)
 refine Vs 2 O ?_
 refine V.box 1 O O (fun b1 => ?_)
 refine V.alloc 2 tz36 O O (fun b2 => ?_)
 refine Vs 6 O ?_
 refine zlT Tryz.call39 O (fun w hI => jE c _ D w (Tr1 hI.k0 hc)) ?_
 refine zll O (fun w hI => zkO O (by first | exact zb | rfl)) ?_
 refine Vs 2 O ?_
 refine zjn O (fun v0 => ?_) (fun v0 => ?_)
 ·
  refine Vs 2 O ?_
  refine zm9 [Value.slice none 0 0] [(0, 1)] [] O O (fun _ => by kernel_rfl) ?_
  refine Vs 5 O ?_
  refine zjP Tryz.results17 tg36 ts36 O O O (fun w hI => ⟨_, rfl, ⟨_, rfl, by rw [zhX v0]; exact SlR.nil⟩, hI.k0⟩)
 ·
  have v0 := znm.1 v0
  have hw2 := v0.w2
  have hr2 := v0.r2
  have hTl := qi c
  have hTc : ∀ col ∈ zN c, col.length = c.length := fun col h => za9 h
  have hTb := fun col (h : col ∈ zN c) => zfx v0 h
  generalize hT : zN c = T at *
  refine Vs 4 O ?_
  refine zmp 900 (E := fun b => MapP Value.string b []) (u := fun b => .map (some b)) O (fun _ => ⟨MapP.loc, fun _ h => h⟩) (fun w hI => zmR) (fun m900 => ?_)
  refine Vs 4 O ?_
  refine zlM 903 27 1 O ?_
  refine Vs 9 O ?_
  refine zmj [] (Hn := fun y : Nat × Nat × List Value => [(901, .row 27 1 (.slice (some ⟨y.1, 0, none⟩) T.length y.2.1) T.length y.2.2), (902, RowsP zd 3 y.2.2 T)]) [(1, some (1, 0)), (2, some (2, 0)), (22, some (1, 0))] Tryz.call70 O (fun _ _ => rfl) (fun _ => rfl) (fun w hI => (hT ▸ zhV 901 902 c v0 (Tr1 hI.k0 hc))) ?_
  rintro _ ⟨bt, ct, rv⟩ rfl
  refine Vs 5 O ?_
  refine zm3 (σ := Nat × Value × Mx × List Nat × List (ByteArray × Value)) [2, 3, 24, 25] [2, 901] [2] O (fun e ⟨y, u, C, ps, L⟩ => (26, .int .i64 y) :: (4, u) :: e) (fun e ⟨y, u, C, ps, L⟩ => (900, MapP Value.string m900 L) :: (902, RowsP zd 3 rv C) :: (903, .row 27 1 u ps.length (ps.map (hdr rv))) :: e) (fun ⟨y, u, C, ps, L⟩ => AbsIn T y C ps L /\ ColsAt c.length C y) (fun ⟨y, u, C, ps, L⟩ => T.length - y) ((0, .slice none 0 0, T, [], [])) (zl4 O) (zl5 O) (fun _ => rfl) (fun _ => rfl) (fun _ => rfl) (⟨zkE _, hT ▸ zkG v0⟩) ?_
  rintro ⟨y, u, C, ps, L⟩ ⟨hA, hCA⟩
  show V _ _ _ _ _ ((26, .int .i64 y) :: (4, u) :: _) _ ((900, MapP Value.string m900 L) :: (902, RowsP zd 3 rv C) :: (903, .row 27 1 u ps.length (ps.map (hdr rv))) :: _) _
  have hyT := hA.le
  have hpl : ps.length <= y := by rw [hA.pl]; refine znj (zf9 _) ?_; rw [znH]; omega
  refine zlF (p := rv.length = C.length) (fun w hI => (show RowsOk _ _ _ _ _ from hI.at 902 O).len) (fun hRl => ?_)
  have hCl := hA.len
  refine Vs 6 O ?_
  refine zjn O (fun hlt => ?_) (fun hlt => ?_)
  ·
   obtain ⟨col, he⟩ : ∃ z, T[y]? = some z := ⟨_, znd (by omega)⟩
   have heC : C[y]? = some col := by rw [hA.later y (znC _)]; exact he
   have hcl := hTc col (zne he)
   have hcb := hTb col (zne he)
   obtain ⟨hv, hrv⟩ : ∃ z, rv[y]? = some z := ⟨_, znd (by omega)⟩
   refine zlF (p := ∃ ao ch, hv = .slice ao col.length ch /\ (0 < col.length -> ∃ g, ao = some ⟨g, 0, none⟩)) (fun w hI => zaf (show RowsOk _ _ _ _ _ from hI.at 902 O) hrv heC) (fun hhd => ?_)
   obtain ⟨ah, ch, rfl, hah⟩ := hhd
   refine Va 7 O (by omega) ?_
   refine zlR 901 (y) tg27 O (by omega) (hrv) ?_
   refine Vs 6 O ?_
   refine zlT Tryz.call71 O (fun w hI => zay col _ (fun _ => True) w (ki (hI.at 902 O) hrv heC) (fun x hx => by have := hcb x hx; omega)) ?_
   have hg0 := yz col
   refine Vs 10 O ?_
   refine zjn O (fun g => ?_) (fun g => ?_)
   ·
    refine Va 8 O (by omega) ?_
    refine zjy (⟨y + 1, u, C, ps, L⟩) (zl4 O) (zl5 O) (⟨hA.zero he (by omega), hCA.more⟩) (by first | omega | (dsimp only; omega)) 0 O O
   ·
    have hkl := zfa col
    have hkb : ∀ x ∈ xg col, 0 <= x /\ x <= 1048576 := fun x hx => by
     obtain ⟨z, hz, rfl⟩ := List.mem_map.1 hx
     have h1 := hcb z hz
     exact ⟨Int.ediv_nonneg h1.1 hg0, Int.le_trans (Int.ediv_le_self _ h1.1) h1.2⟩
    refine Vs 6 O ?_
    refine zlV Tryz.call72 O (fun w hI => zaC col (zP col) (by omega) (fun x hx => by have := hcb x hx; omega) (by omega) _ (fun _ => True) w (ki (hI.at 902 O) hrv heC)) ?_
    rintro r1 w1 w2 hI1 hk12 hres hlow
    refine zlT Tryz.call66 O (fun w hI => zaB (xg col) (by omega) (fun x hx => by have := hkb x hx; omega) _ _ w ((show SlR 1 zt _ _ _ (xg col) from hres).keep za hI.k0 (fun b hb _ hs => by have := hlow b hs; omega)) (Tr1 hI.k1 ht)) ?_
    refine Vs 7 O ?_
    refine zll O (fun w hI => zmT (KeyOk.str tu9) (hI.at 900 O) tu105 tz3 O O) ?_
    refine zlG 41 (v := .tuple #[.int .i64 (if xg col ∈ (yg (T.take y)).map (·.1) then (((yg (T.take y)).map (·.1)).idxOf (xg col) : Nat) else 0), .bool (decide (xg col ∈ (yg (T.take y)).map (·.1)))]) O (by rw [hA.ix]; by_cases h : xg col ∈ (yg (T.take y)).map (·.1) <;> simp [h]) ?_
    refine Vs 11 O ?_
    refine zll O (fun w hI => zkO O (by first | exact zb | rfl)) ?_
    refine Vs 2 O ?_
    refine zjn O (fun hm => ?_) (fun hm => ?_)
    ·
     refine zlF (p := ∃ ao c, u = .slice ao ps.length c) (fun w hI => qJ (show w.ownsRow 0 27 1 u _ _ from hI.at 903 O)) (fun huf => ?_)
     obtain ⟨au, cu, rfl⟩ := huf
     refine Vs 6 O ?_
     refine zmq 900 (e' := MapP Value.string m900 (yy L (spC (xg col)) (.int .i64 (ps.length : Int)))) O (MapP.loc) (fun _ h => h) (fun w hI => zmU (KeyOk.str tu9) (hI.at 900 O) tu105 O O O) ?_
     refine Vs 6 O ?_
     refine zm6 52 [(0, _)] tR34 ts27 tz27 (by decide) O O (by kernel_rfl) (fun b52 => ?_)
     refine zlN 903 52 tu34 Tryz.el27 O (by decide) O O (by omega) (by omega) (fun u903 => ?_)
     refine Va 11 O (by omega) ?_
     refine zm2 903 O (e' := .row 27 1 u903 (ps ++ [y]).length ((ps ++ [y]).map (hdr rv))) (by rw [znl, List.map_append, List.map_singleton, km hrv]; rfl) ?_
     refine zjy (⟨y + 1, u903, C, ps ++ [y], yy L (spC (xg col)) (.int .i64 (ps.length : Int))⟩) (zl4 O) (zl5 O) (⟨hA.new he g hm, hCA.more⟩) (by first | omega | (dsimp only; omega)) 1 O O
    ·
     have hm := znm.1 hm
     obtain ⟨k, hk, hkK⟩ : ∃ k, k < ps.length /\ ((yg (T.take y)).map (·.1)).idxOf (xg col) = k /\ ((yg (T.take y)).map (·.1))[k]? = some (xg col) := ⟨_, by rw [hA.pl, <- znx (f := (·.1))]; exact List.idxOf_lt_length_iff.2 hm, rfl, ziF hm⟩
     obtain ⟨hki, hkK⟩ := hkK
     rw [zno hm, hki]
     obtain ⟨p, hp⟩ : ∃ p, ps[k]? = some p := ⟨_, znd hk⟩
     have hpy := hA.lt p (zne hp)
     obtain ⟨r, hr⟩ : ∃ r, C[p]? = some r := ⟨_, znd (by omega)⟩
     have hrm := zne hr
     have hrl := hCA.len r hrm
     have hrb := hCA.bd r hrm
     obtain ⟨hu, hru⟩ : ∃ z, rv[p]? = some z := ⟨_, znd (by omega)⟩
     refine zlF (p := ∃ ao ch, hu = .slice ao r.length ch /\ (0 < r.length -> ∃ g, ao = some ⟨g, 0, none⟩)) (fun w hI => zaf (show RowsOk _ _ _ _ _ from hI.at 902 O) hru hr) (fun hhd => ?_)
     obtain ⟨au, cu, rfl, hau⟩ := hhd
     refine zlP 903 O (by omega) ?_
     rintro bc cc rfl hcap_903
     refine zm2 902 O (e' := RowsP zd 3 rv (C.set p (xN r col 0))) (by rw [zdT, zdq hr]) ?_
     refine Vs 10 O ?_
     refine zm3 (σ := Nat) [2, 3, 4, 9, 24, 25, 26, 54, 55] [2, 900, 901, 903] [2] O (fun e x => (56, .int .i64 x) :: e) (fun e x => (902, RowsP zd 3 rv (C.set p (xN r col x))) :: e) (fun x => x <= col.length) (fun x => col.length - x) (0) (zl4 O) (zl5 O) (fun _ => rfl) (fun _ => rfl) (fun _ => rfl) (zns _) ?_
     rintro x hx
     refine Vs 6 O ?_
     refine zjn O (fun hlt2 => ?_) (fun hlt2 => ?_)
     ·
      obtain ⟨a, ha⟩ : ∃ a, r[x]? = some a := ⟨_, znd (by omega)⟩
      obtain ⟨b, hb⟩ : ∃ b, col[x]? = some b := ⟨_, znd (by omega)⟩
      have hab := hrb a (zne ha)
      have hbb := hcb b (zne hb)
      have hset := zfw (r := r) (col := col) (by omega) ha hb
      have hgx := zfv (r := r) (col := col) (by omega) ha
      have hral := zfu (r := r) (col := col) (by omega) (x := x) (by omega)
      have hCy : (C.set p (xN r col x))[y]? = some col := by rw [List.getElem?_set, znn (by omega)]; exact heC
      have hCp : (C.set p (xN r col x))[p]? = some (xN r col x) := by rw [List.getElem?_set, zno rfl, zno (by omega)]
      obtain ⟨gh, rfl⟩ := hah (by omega)
      obtain ⟨gu, rfl⟩ := hau (by omega)
      refine Vs 7 O ?_
      refine zll O (fun w hI => zk5 tR27 ts3 O O O (by omega)) ?_
      refine zll O (fun w hI => R.load tg3 O (zcc (hI.at 902 O) hrv hCy hb)) ?_
      refine Va 8 O (by omega) ?_
      refine zlR 903 (k) tg27 O (by omega) (show (ps.map (hdr rv))[k]? = some (Value.slice (some ⟨gu, 0, none⟩) r.length cu) by rw [znu, hp, Option.map_some, km hru]) ?_
      refine Vs 1 O ?_
      refine zll O (fun w hI => zk5 tR27 ts3 O O O (by omega)) ?_
      refine zll O (fun w hI => R.load tg3 O (zcc (hI.at 902 O) hru hCp hgx)) ?_
      refine Va 2 O (by omega) ?_
      refine zll O (fun w hI => zk5 tR27 ts3 O O O (by omega)) ?_
      refine zmq 902 (e' := RowsP zd 3 rv ((C.set p (xN r col x)).set p ((xN r col x).set x (a + b)))) O (RowsP.loc) (fun _ h => h) (fun w hI => zn8 ts3 (hI.at 902 O) hru hCp (by omega) O O O) ?_
      refine zm2 902 O (e' := RowsP zd 3 rv (C.set p (xN r col (x + 1)))) (by rw [List.set_set, hset]) ?_
      refine Va 7 O (by omega) ?_
      refine zjy (x + 1) (zl4 O) (zl5 O) (by omega) (by first | omega | (dsimp only; omega)) 0 O O
     ·
      obtain rfl : x = col.length := by omega
      refine zm2 902 O (e' := RowsP zd 3 rv (C.set p (List.zipWith (· + ·) r col))) (by rw [<- zdU (r := r) (col := col) (by omega), show r.length = col.length from by omega]) ?_
      refine Va 10 O (by omega) ?_
      refine zjy (⟨y + 1, .slice (some ⟨bc, 0, none⟩) ps.length cc, C.set p (List.zipWith (· + ·) r col), ps, L⟩) (zl4 O) (zl5 O) (⟨hA.old he g hkK hp hr (by omega), hCA.add hrm hcb (by omega)⟩) (by first | omega | (dsimp only; omega)) 1 O O
  ·
   obtain rfl : y = T.length := by omega
   have hout : IsAbs T (ze2 T) := zcQ T
   have hvo := zdV v0
   rw [hT] at hvo
   have hpM := hA.pl
   rw [zni] at hpM
   have hpos : 0 < ps.length := by
    have h1 := hout.perm.length_eq
    have h2 := hvo.1.w1
    have h3 := qi (zgL c)
    rw [hvo.2] at h3
    simp only [xz, zu, znx] at h1
    omega
   refine zlP 903 O (hpos) ?_
   rintro bc cc rfl hcap_903
   have hbdC := hCA.bd
   have hcols : ∀ (k p : Nat), ps[k]? = some p -> C[p]? = (zu (yg T))[k]? := fun k p h => by have := hA.cols k p h; rwa [zni] at this
   have hclen : (zu (yg T)).length = ps.length := by rw [hpM]; simp [zu]
   have hcm : ∀ r ∈ zu (yg T), r ∈ C := fun r hr => by
    obtain ⟨k, hk⟩ := List.mem_iff_getElem?.1 hr
    have hkl := (znr.1 hk).1
    obtain ⟨p, hp⟩ : ∃ p, ps[k]? = some p := ⟨_, znd (by omega)⟩
    exact zne ((hcols k p hp).trans hk)
   refine Vs 19 O ?_
   refine zm3 (σ := Nat) [2, 4, 73, 74] [2, 900, 902, 903] [2] O (fun e k => (75, .int .i64 k) :: (13, .int .i64 (zP ((zu (yg T)).take k).flatten)) :: e) (fun e k => e) (fun k => k <= ps.length) (fun k => ps.length - k) (0) (zl4 O) (zl5 O) (fun _ => rfl) (fun _ => rfl) (fun _ => rfl) (zns _) ?_
   rintro k hk
   refine Vs 6 O ?_
   refine zjn O (fun hlt => ?_) (fun hlt => ?_)
   ·
    obtain ⟨p, hp⟩ : ∃ p, ps[k]? = some p := ⟨_, znd (by omega)⟩
    obtain ⟨r, hrc⟩ : ∃ r, (zu (yg T))[k]? = some r := ⟨_, znd (by omega)⟩
    have hr := (hcols k p hp).trans hrc
    have hpl2 := (znr.1 hr).1
    have hrm := zne hr
    have hrl := hCA.len r hrm
    have hrb := hCA.bd r hrm
    obtain ⟨hu, hru⟩ : ∃ z, rv[p]? = some z := ⟨_, znd (by omega)⟩
    refine zlF (p := ∃ ao ch, hu = .slice ao r.length ch /\ (0 < r.length -> ∃ g, ao = some ⟨g, 0, none⟩)) (fun w hI => zaf (show RowsOk _ _ _ _ _ from hI.at 902 O) hru hr) (fun hhd => ?_)
    obtain ⟨au, cu, rfl, _⟩ := hhd
    refine Va 7 O (by omega) ?_
    refine zlR 903 (k) tg27 O (by omega) (show (ps.map (hdr rv))[k]? = some (Value.slice au r.length cu) by rw [znu, hp, Option.map_some, km hru]) ?_
    refine Vs 5 O ?_
    refine zm6 80 [(0, _)] tR27 ts3 tz3 (by decide) O O (by kernel_rfl) (fun b80 => ?_)
    refine Vs 1 O ?_
    refine zna 80 1 1 O O O (by decide) ?_
    refine zm8 80 (fun x => [zd x]) (fun _ => rfl) (by simp [Value.oneCell']) zaZ tu27 Tryz.el3 O (by decide) O (fun w hI => ⟨_, ki (hI.at 902 O) hru hr⟩) (by omega) (by omega) (fun u80 => ?_)
    have hG0 := yz ((zu (yg T)).take k).flatten
    have hGl : zP ((zu (yg T)).take k).flatten <= 300000000 := zi0 (by omega) fun x hx => by
     obtain ⟨q, hq, hxq⟩ := List.mem_flatten.1 hx
     have := hbdC q (hcm q (List.mem_of_mem_take hq)) x hxq
     omega
    refine zm2 80 O (e' := .row 3 1 u80 (zP ((zu (yg T)).take k).flatten :: r).length ((zP ((zu (yg T)).take k).flatten :: r).map zd)) (by rw [znG, Nat.add_comm, List.map_cons, jU]; rfl) ?_
    refine zlT Tryz.call71 O (fun w hI => zay (zP ((zu (yg T)).take k).flatten :: r) _ (fun _ => True) w (zkx zd (fun _ _ => rfl) (hI.at 80 O) (fun _ _ => trivial)) (fun x hx => (znt.1 hx).elim (fun e => by rw [e]; omega) (fun hx => by have := hrb x hx; omega))) ?_
    refine zlG 83 (v := .int .i64 (zP ((zu (yg T)).take (k + 1)).flatten)) O (by rw [zgM, zh hrc, List.flatten_append, List.flatten_singleton]) ?_
    refine Va 8 O (by omega) ?_
    refine zjy (k + 1) (zl4 O) (zl5 O) (by omega) (by first | omega | (dsimp only; omega)) 0 O O
   ·
    obtain rfl : k = ps.length := by omega
    rw [show (zu (yg T)).take ps.length = zu (yg T) from by rw [<- hclen, zni]]
    generalize hg : zP (zu (yg T)).flatten = g
    have hg0 : 0 < g := by rw [<- hg]; exact zhY (xJ T) (fun e => by rw [e] at hpM; have : ps.length = 0 := hpM; omega)
    obtain ⟨D, hD⟩ : ∃ D, D = xz (zu (yg T)) := ⟨_, rfl⟩
    have hDl : D.length = ps.length := by rw [hD, <- hclen]; simp [xz]
    have hDat : ∀ (k : Nat) r, (zu (yg T))[k]? = some r -> D[k]? = some (r.map (· / g)) := fun k r h => by rw [hD, xz, znu, h, hg]; rfl
    refine znb 904 (p := DivIn D 0 (ps.map (hdr rv)) (fun _ => False)) O (fun w i x h => by omega) ?_
    refine Vs 14 O ?_
    refine zm3 (σ := Nat × List Value × (Nat -> Prop)) [2, 4, 13, 86] [2, 900, 902] [2] O (fun e ⟨j, xs, F⟩ => (87, .int .i64 j) :: e) (fun e ⟨j, xs, F⟩ => (903, .row 27 1 (.slice (some ⟨bc, 0, none⟩) ps.length cc) ps.length xs) :: (904, .res F (DivIn D j xs F)) :: e) (fun ⟨j, xs, F⟩ => j <= ps.length /\ xs.length = ps.length /\ (∀ i, j <= i -> xs[i]? = (ps.map (hdr rv))[i]?)) (fun ⟨j, xs, F⟩ => ps.length - j) ((0, ps.map (hdr rv), fun _ => False)) (zl4 O) (zl5 O) (fun _ => rfl) (fun _ => rfl) (fun _ => rfl) (⟨zns _, by rw [znx], fun _ _ => rfl⟩) ?_
    rintro ⟨j, xs, F⟩ ⟨hj, hxl, hxs⟩
    show V _ _ _ _ _ ((87, .int .i64 j) :: _) _ ((903, .row 27 1 (.slice (some ⟨bc, 0, none⟩) ps.length cc) ps.length xs) :: (904, .res F (DivIn D j xs F)) :: _) _
    refine Vs 6 O ?_
    refine zjn O (fun hlt => ?_) (fun hlt => ?_)
    ·
     obtain ⟨p, hp⟩ : ∃ p, ps[j]? = some p := ⟨_, znd (by omega)⟩
     obtain ⟨r, hrc⟩ : ∃ r, (zu (yg T))[j]? = some r := ⟨_, znd (by omega)⟩
     have hr := (hcols j p hp).trans hrc
     have hrm := zne hr
     have hrl := hCA.len r hrm
     have hrb := hCA.bd r hrm
     obtain ⟨hu, hru⟩ : ∃ z, rv[p]? = some z := ⟨_, znd (by have := (znr.1 hr).1; omega)⟩
     refine Va 16 O (by omega) ?_
     refine zlR 903 (j) tg27 O (by omega) (show xs[j]? = some hu by rw [hxs j (znC _), znu, hp, Option.map_some, km hru]) ?_
     refine Vs 1 O ?_
     refine zmj [] (Hn := fun y : Option Addr × Nat × (Nat -> Prop) => [(905, DaP (RSl 1 zt) y.2.2 (r.map (· / g)) [.slice y.1 r.length y.2.1])]) [(2, some (2, 0))] Tryz.call72 O (fun _ _ => rfl) (fun _ => rfl) (fun w hI => zdX 905 r g hg0 (fun x hx => by have := hrb x hx; omega) (by omega) (ki (hI.at 902 O) hru hr)) ?_
     rintro _ ⟨aq, cq, G⟩ rfl
     refine Va 1 O (by omega) ?_
     refine V.rs 903 (j) ts27 O (by omega) (by omega) ?_
     refine zmv 904 905 (e' := .res (fun q => F q \/ G q) (DivIn D (j + 1) (xs.set j (.slice aq r.length cq)) (fun q => F q \/ G q))) [(2, some (2, 0))] O O O (fun w hI => (show DivIn _ _ _ _ _ from hI.at 904 O).next (hDat j r hrc) (by omega) (hI.at 905 O)) (DivIn.loc) (fun _ h => h) (fun q hq => hq) ?_
     refine Va 7 O (by omega) ?_
     refine zjy (⟨j + 1, xs.set j (.slice aq r.length cq), fun q => F q \/ G q⟩) (zl4 O) (zl5 O) (⟨by omega, by rw [List.length_set]; exact hxl, fun i hi => by rw [List.getElem?_set_ne (by omega)]; exact hxs i (by omega)⟩) (by first | omega | (dsimp only; omega)) 0 O O
    ·
     obtain rfl : j = ps.length := by omega
     refine zmv 903 904 (e' := OwP 27 1 (RSl 1 zt) F (.slice (some ⟨bc, 0, none⟩) ps.length cc) D) [(2, some (2, 0))] O O O (fun w hI => ⟨by rw [<- hDl]; exact DivIn.own (hDl ▸ (hI.at 904 O)) (hDl ▸ (hI.at 903 O)), fun q hq => ⟨hI.low _ (zf (k := 904) O) q hq, fun h => hI.sep (k := 904) (k2 := 903) O O (by decide) hq h⟩⟩) (OwP.loc) (fun _ h => h) (fun q hq => hq) ?_
     refine Vs 8 O ?_
     refine zlW 903 (E := fun l' => OwP 27 1 (RSl 1 zt) F (.slice (some ⟨bc, 0, none⟩) ps.length cc) l') Tryz.call73 O (fun _ => ⟨OwP.loc, fun _ h => h⟩) (fun w hI => zfg (k := 903) (cf := fun x y => xp y x) ziE (fun D w x cs h => by obtain ⟨u, rfl, h1⟩ := h; obtain ⟨a, c, rfl⟩ := h1.form; exact ⟨_, rfl, rfl⟩) Tryz.call74 swoL hI O (by omega) (fun x y u u' W' hk hx hy => by obtain ⟨_, h1, h2⟩ := hx; obtain ⟨_, h3, h4⟩ := hy; cases h1; cases h3; exact zhZ x y _ _ _ _ W' h2 h4)) ?_
     rintro _ l' ⟨rfl, hperm, hpw⟩
     have hl' : l' = ze2 T := IsAbs.unique ⟨hD ▸ hperm, hpw.imp fun {a b} h => by have := yI a b; omega⟩ hout
     subst hl'
     have hol : (ze2 T).length = ps.length := by rw [hperm.length_eq, hDl]
     have hocl : ∀ col ∈ ze2 T, col.length = c.length := fun col h => (hout.col (n := c.length) (fun r hr => ⟨hTc r hr, fun v hv => (hTb r hr v hv).1⟩) h).1
     have hoh : ((ze2 T).headD []).length = c.length := hocl _ (kg (by omega))
     have hres0 : zN (ze2 T) = zgL c := by rw [kh v0, hT]; unfold zN jD; rw [hoh]
     refine Vs 5 O ?_
     refine zlV Tryz.call70 O (fun w hI => zdW (ze2 T) (by omega) (fun row h => by rw [hocl row h, hoh]) ⟨by omega, by omega⟩ _ _ w ((show OwH _ _ _ _ _ _ _ from hI.at 903 O).sl (by omega) (fun q hq => hq))) ?_
     rintro r1 w1 w2 hI1 hk12 hres hlow
     rw [hres0] at hres
     obtain ⟨az, cz, rfl⟩ := hres.form
     have e1 : W.heap.size <= w1.heap.size := hI1.k0.size
     refine zm9 [Value.slice none 0 0] [(0, 1)] [(0, _)] O O (fun _ => by kernel_rfl) ?_
     refine Vs 4 O ?_
     refine V.dat 906 0 O O O (hres) (fun q hq _ hs => by have := hlow q hs; omega) ?_
     refine zjP Tryz.results17 tg36 ts36 O O O (fun w hI => ⟨_, rfl, ⟨_, rfl, (hI.at 906 O).1.wide (yD za) (fun q hq => by omega)⟩, hI.k1⟩)
theorem zgO (D : Nat -> Prop) {w : World} (x : List Int) (cs : List Value) (h : RSl 1 zt D w x cs) : ∀ u ∈ cs, u.oneCell' = true := by
 obtain ⟨v, rfl, h1⟩ := h
 obtain ⟨a, c, rfl⟩ := h1.form
 simp [Value.oneCell']
theorem zds {α : Type} {R : Rel α} {e : TypeId} {kk : Nat} {F : Nat -> Prop} {w : World} {v : Value} {l : List α} (h : (OwP e kk R F v l).holds w) : ∃ ao c, v = .slice ao l.length c := by
 obtain ⟨ao, c, h, _⟩ := OwH.form (show OwH e kk R F w v l from h)
 exact ⟨ao, c, h⟩
end Go.Proofs.YtaenledoagbddaaGreatDoor
namespace Go.GL
section
variable {P : Program} {n : Nat} {Q : Exit -> Act -> World -> Prop} {ks : List Fr} {pos : Pos} {env : Env} {A : Tgs} {H : Hp} {Bs : zH}
theorem znc (k k2 : Nat) {α : Type} {R : Rel α} [hs : StC R] {e : TypeId} {kk : Nat} {F : Nat -> Prop} {v : Value} {l : List α} (A1 : Tgs) (hn : zi H k = some (OwP e kk R F v l))
  (hA1 : ∀ xs : List Value, A1.map (fun p => zcf env p.1) = A1.map (fun p => qP ((k, HE.row e kk v l.length xs) :: (k2, .res F (fun w => ∀ (i : Nat) x, l[i]? = some x -> R F w x ((xs.drop (i * kk)).take kk))) :: zW [k] H) p.2))
  (hA2 : ∀ xs : List Value, A1.all (fun p => (qP ((k, HE.row e kk v l.length xs) :: (k2, .res F (fun w => ∀ (i : Nat) x, l[i]? = some x -> R F w x ((xs.drop (i * kk)).take kk))) :: zW [k] H) p.2).isSome) = true)
  (h : ∀ xs : List Value, V P n Q ks pos env A1 ((k, .row e kk v l.length xs) :: (k2, .res F (fun w => ∀ (i : Nat) x, l[i]? = some x -> R F w x ((xs.drop (i * kk)).take kk))) :: zW [k] H) Bs) : V P n Q ks pos env A H Bs := by
 intro _ w hI
 have hh : OwH e kk R F w v l := hI.at k hn
 obtain ⟨⟨xs, g1, g2⟩, g3⟩ := hh
 refine h xs (zl6 (hA1 xs) (hA2 xs)) w (hI.hands (Hn := [(k, .row e kk v l.length xs), (k2, .res F (fun w => ∀ (i : Nat) x, l[i]? = some x -> R F w x ((xs.drop (i * kk)).take kk)))]) ⟨Keep.refl _ _, fun x hx => ?_, ?_⟩)
 ·
  have i1 : ∀ q, (OwP e kk R F v l).S q -> InS H [k] q := fun q hq => ⟨_, zf hn, by simp [zaI, Nat.beq_refl], hq⟩
  have i2 := hI.low _ (zf hn)
  simp only [znt, List.not_mem_nil, or_false] at hx
  rcases hx with rfl | rfl
  . exact ⟨g1, trivial, fun _ h => h, fun q hq => ⟨.inl (i1 q (.inl hq)), i2 q (.inl hq)⟩⟩
  . refine ⟨g2, fun w w' T hx hk hT i x hi => hs.s F F w w' (fun _ h => h) (fun b hb hlt => hk.block b hlt (hT b hlt hb)) x _ (hx i x hi), fun _ h => h, fun q hq => ⟨.inl (i1 q (.inr hq)), i2 q (.inr hq)⟩⟩
 ·
  refine List.pairwise_cons.2 ⟨fun x hx q hq hq2 => ?_, List.pairwise_singleton _ _⟩
  rw [znv] at hx
  subst hx
  exact (g3 q hq2).2 hq
end
end Go.GL
namespace Go.Proofs.YtaenledoagbddaaGreatDoor
open Go.GL
theorem zfy {l : List Int} {x : Int} {i : Nat} (hx : l[i]? = some x) : (((l.take i) ++ List.replicate (l.length - i) 0).map zd).set i (.int .i64 x) = ((l.take (i + 1)) ++ List.replicate (l.length - (i + 1)) 0).map zd := by
 have hl := (znr.1 hx).1
 have hti : (l.take i).length = i := by rw [znH]; omega
 rw [show (Value.int .i64 x) = zd x from rfl, <- List.map_set, List.set_append_right _ _ (by omega), hti, Nat.sub_self, zh hx, List.append_assoc]
 obtain ⟨m, hm⟩ : ∃ m, l.length - i = m + 1 := ⟨l.length - i - 1, by omega⟩
 rw [hm, List.replicate_succ, List.set_cons_zero, show l.length - (i + 1) = m by omega]
 rfl
theorem ziG {α : Type} {g : α -> List Value} : ∀ {l : List α} {i : Nat} {x : α}, (∀ x ∈ l, (g x).length = 2) -> l[i]? = some x -> ((l.flatMap g).drop (i * 2)).take 2 = g x
 | [], i, x, _, h => by simp at h
 | a :: l, 0, x, hg, h => by
  simp only [List.getElem?_cons_zero, Option.some.injEq] at h
  subst h
  have := hg a (znh ..)
  rw [Nat.zero_mul, List.drop_zero, List.flatMap_cons, List.take_append_of_le_length (by omega), List.take_of_length_le (by omega)]
 | a :: l, i + 1, x, hg, h => by
  rw [List.getElem?_cons_succ] at h
  have ih := ziG (fun x hx => hg x (zng _ hx)) h
  have ha := hg a (znh ..)
  rw [List.flatMap_cons, Nat.succ_mul, List.drop_append, show (g a).drop (i * 2 + 2) = [] from List.drop_eq_nil_of_le (by omega), List.nil_append, ha, Nat.add_sub_cancel]
  exact ih
theorem zdY {w : World} {e : TypeId} {b m c k : Nat} {xs cs : List Value} (h : w.ownsRow 0 e 2 (.slice (some ⟨b, 0, none⟩) m c) m xs) (hd : (xs.drop (k * 2)).take 2 = cs) : Cells w b (0 + (k : Int).toNat * 2) cs := by
 have hc := (xr h).2.2
 intro j v hj
 rw [<- hd, znJ] at hj
 split at hj
 ·
  rw [List.getElem?_drop] at hj
  have := hc _ v hj
  simpa [Nat.add_assoc] using this
 . cases hj
theorem ziH (al : List Ob) : (zc7 al.length).map (atO al) = al := by
 apply List.ext_getElem?
 intro i
 unfold zc7
 rw [List.map_map, znu]
 by_cases hi : i < al.length
 ·
  rw [List.getElem?_range hi, znd hi]
  simp only [Option.map_some, Function.comp]
  rw [zfh (znd hi)]
 ·
  rw [znB (by simp; omega), znB (by omega)]
  rfl
theorem ziI {n i : Nat} (h : i < n) : (zc7 n)[i]? = some (i : Int) := by unfold zc7; rw [znu, List.getElem?_range h]; rfl
theorem zi1 {f : Fl} {pub : List Int} {t : Bool} {al : List Ob} (hn : al.Nodup) (h : ∀ o, o ∈ al ↔ o ∈ (List.range (spN f)).flatMap (zj2 f pub t)) : (zi8 f pub t).length = al.length := by
 refine ((List.perm_ext_iff_of_nodup (zeP (za2 _)) hn).2 fun o => ?_).length_eq
 rw [za1, h]
def zcR (xs : List Value) (k : Int) : List Value := (xs.drop (k.toNat * 2)).take 2
theorem zi2 {al obs : List Ob} {l : List Int} {xs : List Value} {F D : Nat -> Prop} {w : World} (hxl : xs.length = al.length * 2) (hs : l.map (atO al) = obs) (hb : ∀ z ∈ l, 0 <= z /\ z < (al.length : Int)) (h : ∀ (i : Nat) x, al[i]? = some x -> ROb F w x ((xs.drop (i * 2)).take 2)) (hF : ∀ q, F q -> D q) {i : Nat} {x : Ob} (hi : obs[i]? = some x) : ROb D w x (((l.flatMap (zcR xs)).drop (i * 2)).take 2) := by
 rw [<- hs, znu] at hi
 obtain ⟨k, hk, rfl⟩ := Option.map_eq_some_iff.1 hi
 have hkb := hb k (zne hk)
 rw [ziG (fun z hz => by have := hb z hz; unfold zcR; rw [znH, List.length_drop]; omega) hk]
 obtain ⟨o, ho⟩ : ∃ o, al[k.toNat]? = some o := ⟨_, znd (by omega)⟩
 have h1 := h k.toNat o ho
 have h2 : atO al k = o := by unfold atO; rw [ho]; rfl
 rw [h2]
 exact (StC.s : zF ROb) F D w w hF (fun _ _ _ => rfl) o _ h1
theorem zi3 (f : Fl) (hsz : zq f.body + yb f.hatches <= 1024) (hbk : xu f.body <= 1000000) (pub : List Int) (t : Bool) (v1 v2 v3 pv : Value) (D D' : Nat -> Prop) (W : World) (hf : RFl D W f v1 v2 v3) (hp : SlR 1 zt D' W pv pub) (ht : Tab W) :
  Calls Tryz.prog 15 #[.agg #[v1, v2, v3], .agg #[pv, .bool t]] W (Ret fun r w' => (∃ u lu, r = .tuple #[.agg #[u], lu, .int .i64 (xi f pub t)] /\ (xi f pub t ≠ 0 -> u = .slice none 0 0 /\ lu = .slice none 0 0) /\ (xi f pub t = 0 -> SlR 1 (RSl 1 zt) (fun b => W.heap.size <= b) w' u (mxO f pub t) /\ SlR 2 ROb (fun b => W.heap.size <= b) w' lu (zi8 f pub t))) /\ Ext W w') := by
 obtain ⟨ap, cp, rfl⟩ := hp.form
 obtain ⟨a1, n1, rfl⟩ := hf.vars.form
 obtain ⟨a2, n2, rfl⟩ := hf.hatches.form
 obtain ⟨a3, n3, rfl⟩ := hf.body.form
 refine zlu Tryz.func15 O Tryz.ntmps15 O (zlE ?_)
 refine Vs 2 O ?_
 refine V.box 2 O O (fun b2 => ?_)
 refine V.box 3 O O (fun b3 => ?_)
 refine V.alloc 4 tz36 O O (fun b4 => ?_)
 refine Vs 8 O ?_
 refine zlT Tryz.call60 O (fun w hI => jL f _ _ _ D w (Tr1 hI.k0 hf) hsz hbk) ?_
 refine Vs 9 O ?_
 refine zjn O (fun c0 => ?_) (fun c0 => ?_)
 ·
  have hc : xi f pub t = yi f := zno c0
  refine Vs 2 O ?_
  refine zm9 [Value.slice none 0 0] [(0, 1)] [] O O (fun _ => by kernel_rfl) ?_
  refine Vs 8 O ?_
  refine zn3 tr15 tg36 ts36 O O O (fun w hI => ⟨_, rfl, ⟨_, _, by rw [hc], fun _ => ⟨rfl, rfl⟩, fun h => absurd (hc ▸ h) c0⟩, hI.k0⟩)
 ·
  have c0 := znm.1 c0
  have vd : Valid f := ⟨c0, hsz, hbk⟩
  have hl := vd.lens
  refine Vs 9 O ?_
  refine zlT Tryz.call61 O (fun w hI => zdM f.vars 2 pub _ _ D D' w (by decide) vd.good (by omega) (Tr1 hI.k0 hf.vars) (Tr1 hI.k0 hp)) ?_
  refine Vs 13 O ?_
  refine zjn O (fun c1 => ?_) (fun c1 => ?_)
  ·
   refine Vs 7 O ?_
   refine zjn O (fun c2 => ?_) (fun c2 => ?_)
   ·
    have hc : xi f pub t = 1 := by unfold xi; rw [znn (znA c0), zno c1, zno c2]
    refine Vs 6 O ?_
    refine zm9 [Value.slice none 0 0] [(0, 1)] [] O O (fun _ => by kernel_rfl) ?_
    refine Vs 8 O ?_
    refine zn3 tr15 tg36 ts36 O O O (fun w hI => ⟨_, rfl, ⟨_, _, by rw [hc], fun _ => ⟨rfl, rfl⟩, fun h => by rw [hc] at h; cases h⟩, hI.k0⟩)
   ·
    have hc : xi f pub t = (qg 2 f.vars pub).2 := by unfold xi; rw [znn (znA c0), zno c1, znn c2]
    refine Vs 4 O ?_
    refine zm9 [Value.slice none 0 0] [(0, 1)] [] O O (fun _ => by kernel_rfl) ?_
    refine Vs 8 O ?_
    refine zn3 tr15 tg36 ts36 O O O (fun w hI => ⟨_, rfl, ⟨_, _, by rw [hc], fun _ => ⟨rfl, rfl⟩, fun h => absurd (hc ▸ h) c1⟩, hI.k0⟩)
  ·
   have c1 := znm.1 c1
   obtain ⟨hs1, hs2, hs3⟩ := zh3 vd
   obtain ⟨hr1, hr2, hr3⟩ := zh4 vd
   refine Vs 6 O ?_
   refine zlT Tryz.call62 O (fun w hI => qy f.vars 1 _ D w (by decide) vd.good (Tr1 hI.k0 hf.vars) (by omega)) ?_
   refine zlG 59 (v := .tuple #[.int .i64 (spN f : Int), .int .i64 (if (zn 1 f.vars).isSome then 0 else 4)]) O (by rw [hs1]) ?_
   refine Vs 11 O ?_
   refine zlT Tryz.call62 O (fun w hI => qy f.vars 3 _ D w (by decide) vd.good (Tr1 hI.k0 hf.vars) (by omega)) ?_
   refine zlG 65 (v := .tuple #[.int .i64 (rnN f : Int), .int .i64 (if (zn 3 f.vars).isSome then 0 else 4)]) O (by rw [hr1]) ?_
   refine Vs 14 O ?_
   refine zjn O (fun s0 => ?_) (fun s0 => ?_)
   ·
    have hc : xi f pub t = 4 := by unfold xi; rw [znn (znA c0), znn (znA c1), zno (by omega)]
    refine Vs 2 O ?_
    refine zm9 [Value.slice none 0 0] [(0, 1)] [] O O (fun _ => by kernel_rfl) ?_
    refine Vs 7 O ?_
    refine zn3 tr15 tg36 ts36 O O O (fun w hI => ⟨_, rfl, ⟨_, _, by rw [hc], fun _ => ⟨rfl, rfl⟩, fun h => by rw [hc] at h; cases h⟩, hI.k0⟩)
   ·
    refine Vs 4 O ?_
    refine V.alloc 14 Tryz.zeroValue37 O O (fun b14 => ?_)
    refine Vs 4 O ?_
    refine zmp 900 (E := fun b => MapP Value.string b []) (u := fun b => .map (some b)) O (fun _ => ⟨MapP.loc, fun _ h => h⟩) (fun w hI => zmR) (fun m900 => ?_)
    refine Vs 5 O ?_
    refine zmp 901 (E := fun b => MapBP za4 b []) (u := fun b => .map (some b)) O (fun _ => ⟨MapBP.loc, fun _ h => h⟩) (fun w hI => zmV) (fun m901 => ?_)
    refine Vs 10 O ?_
    refine zlM 902 55 2 O ?_
    refine zmc 902 (e' := OwP 55 2 ROb (fun _ => False) (.slice none 0 0) []) O (fun w hI => OwH.nil) OwP.loc (fun _ h => h) (fun q hq => hq.elim id False.elim) ?_
    refine Vs 1 O ?_
    refine zm3 (σ := Nat × List Ob × Option Addr × Nat × (Nat -> Prop) × List (ByteArray × Value) × List (zgY × Value) × (Nat -> Nat -> Nat)) [2, 3, 4, 10, 12, 14, 15, 16, 73] [2, 3, 4] [2, 3, 4, 14] O (fun e ⟨s, al, aj, cj, F, L, K, cnt⟩ => (74, .int .i64 s) :: e) (fun e ⟨s, al, aj, cj, F, L, K, cnt⟩ => (14, .own b14 [.slice aj al.length cj] 37) :: (900, MapP Value.string m900 L) :: (901, MapBP za4 m901 K) :: (902, OwP 55 2 ROb F (.slice aj al.length cj) al) :: e) (fun ⟨s, al, aj, cj, F, L, K, cnt⟩ => s <= spN f /\ OfIn (obX f pub t) (rnN f) s 0 al cnt /\ IxIn L (al.map spO) /\ CntIn K cnt) (fun ⟨s, al, aj, cj, F, L, K, cnt⟩ => spN f - s) ((0, [], none, 0, fun _ => False, [], [], fun _ _ => 0)) (zl4 O) (zl5 O) (fun _ => rfl) (fun _ => rfl) (fun _ => rfl) (⟨zns _, zkB _ _, zkC, zkD⟩) ?_
    rintro ⟨s, al, aj, cj, F, L, K, cnt⟩ ⟨hs, hO, hL, hK⟩
    show V _ _ _ _ _ ((74, .int .i64 s) :: _) _ ((14, .own b14 [.slice aj al.length cj] 37) :: (900, MapP Value.string m900 L) :: (901, MapBP za4 m901 K) :: (902, OwP 55 2 ROb F (.slice aj al.length cj) al) :: _) _
    refine Vs 6 O ?_
    refine zjn O (fun hlt => ?_) (fun hlt => ?_)
    ·
     refine Vs 17 O ?_
     refine zm3 (σ := Nat × List Ob × Option Addr × Nat × (Nat -> Prop) × List (ByteArray × Value) × List (zgY × Value) × (Nat -> Nat -> Nat)) [2, 3, 4, 10, 12, 14, 15, 16, 17, 73, 74, 77] [2, 3, 4] [2, 3, 4, 14] O (fun e ⟨r, al, aj, cj, F, L, K, cnt⟩ => (78, .int .i64 r) :: e) (fun e ⟨r, al, aj, cj, F, L, K, cnt⟩ => (14, .own b14 [.slice aj al.length cj] 37) :: (900, MapP Value.string m900 L) :: (901, MapBP za4 m901 K) :: (902, OwP 55 2 ROb F (.slice aj al.length cj) al) :: e) (fun ⟨r, al, aj, cj, F, L, K, cnt⟩ => r <= rnN f /\ OfIn (obX f pub t) (rnN f) s r al cnt /\ IxIn L (al.map spO) /\ CntIn K cnt) (fun ⟨r, al, aj, cj, F, L, K, cnt⟩ => rnN f - r) ((0, al, aj, cj, F, L, K, cnt)) (zl4 O) (zl5 O) (fun _ => rfl) (fun _ => rfl) (fun _ => rfl) (⟨zns _, hO, hL, hK⟩) ?_
     rintro ⟨r, al, aj, cj, F, L, K, cnt⟩ ⟨hr, hO, hL, hK⟩
     show V _ _ _ _ _ ((78, .int .i64 r) :: _) _ ((14, .own b14 [.slice aj al.length cj] 37) :: (900, MapP Value.string m900 L) :: (901, MapBP za4 m901 K) :: (902, OwP 55 2 ROb F (.slice aj al.length cj) al) :: _) _
     refine Vs 6 O ?_
     refine zjn O (fun hlt2 => ?_) (fun hlt2 => ?_)
     ·
      obtain ⟨hi1, hi2, hi3⟩ := zhM vd (s := s) (r := r) (by omega) (by omega)
      have hi0 : zfD f.vars (s : Int) 0 (r : Int) = 0 := by unfold zfD; rw [znn (znA hi1), znn (znA hi2), hi3]
      have hal := hO.len
      have hsr : s * rnN f <= 256 * 4096 := Nat.mul_le_mul (by omega) hr3
      refine Vs 16 O ?_
      refine zlV Tryz.call63 O (fun w hI => zc4 f.vars s 0 r _ D w vd.good (by omega) (Tr1 hI.k0 hf.vars)) ?_
      rintro r1 w1 w2 hI1 hk12 ⟨a, b, c, rfl, hu0, hu1⟩ hlow
      obtain ⟨ha, hb, hc⟩ := hu1 hi0
      have hsec : SlR 1 zt (fun b => w1.heap.size <= b) w2 a (zhy f s) := by unfold zhy; rw [zno hi1]; exact ha
      have hrnd : SlR 1 zt (fun b => w1.heap.size <= b) w2 c (zhC f r) := by unfold zhC; rw [zno hi3]; exact hc
      obtain ⟨au, cu, rfl⟩ := hsec.form
      obtain ⟨ax, cx, rfl⟩ := hb.form
      obtain ⟨ac, cc, rfl⟩ := hrnd.form
      refine Vs 3 O ?_
      refine V.alloc 19 Tryz.zeroValue61 O O (fun b19 => ?_)
      refine Vs 13 O ?_
      refine V.dat 910 0 O O O (hsec) (fun q hq _ hs => by have := hlow q hs; omega) ?_
      refine V.dat 911 0 O O O (hrnd) (fun q hq _ hs => by have := hlow q hs; omega) ?_
      refine Vs 3 O ?_
      refine zlV Tryz.call64 O (fun w hI => zdK f (ziv f pub s r) _ _ _ _ _ _ (fun b => D b \/ D' b \/ (w1.heap.size <= b /\ b < w2.heap.size)) w (RFl.wide (Tr1 hI.k1 hf) (fun q hq => .inl hq)) ((hI.at 910 O).1.wide za (fun q hq => .inr (.inr hq))) ((hp.ext za hI.k1).wide za (fun q hq => .inr (.inl hq))) ((hI.at 911 O).1.wide za (fun q hq => .inr (.inr hq))) vd.size vd.bulk) ?_
      rintro r2 w3 w4 hI3 hk34 ⟨ov, tt, rfl, h1, h2⟩ hlow2
      obtain ⟨rfl, hov⟩ := zgp h1 h2
      obtain ⟨ao, co, rfl⟩ := hov.form
      obtain ⟨ob1, ob2, ob3, ob4⟩ := ziw vd pub t s r
      have hrl := (zdf vd (ziv f pub s r)).1
      refine Vs 3 O ?_
      refine V.alloc 21 tz55 O O (fun b21 => ?_)
      refine Vs 9 O ?_
      refine zmj [] (Hn := fun y : Option Addr × Nat × (Nat -> Prop) => [(905, obE (obX f pub t s r) y)]) [(2, some (2, 0)), (3, some (3, 0)), (4, some (4, 0)), (14, some (14, 0)), (19, some (19, 0)), (21, some (21, 0)), (82, some (2, 0)), (89, some (3, 0)), (91, some (19, 1)), (99, some (3, 1))] Tryz.call65 O (fun _ _ => rfl) (fun _ => rfl) (fun w hI => ziZ 905 (zcL (zcK f (ziv f pub s r)) t (by omega) _ _ w (hov.keep za hI.k0 (fun b hb _ hs => by have := hlow2 b hs; omega)))) ?_
      rintro _ ⟨az, cz, G⟩ rfl
      generalize hob : obX f pub t s r = ob at *
      refine Vs 7 O ?_
      refine zm6 104 [(0, _)] tR27 ts3 tz3 (by decide) O O (by kernel_rfl) (fun b104 => ?_)
      refine Vs 2 O ?_
      refine zna 104 1 1 O O O (by decide) ?_
      refine zm8 104 (fun x => [zd x]) (fun _ => rfl) (by simp [Value.oneCell']) zaZ tu27 Tryz.el3 O (by decide) O (fun w hI => ⟨_, zj0 (hI.at 905 O)⟩) (by omega) (by omega) (fun u104 => ?_)
      refine zm2 104 O (e' := .row 3 1 u104 (spO ob).length ((spO ob).map zd)) (by unfold spO; rw [znG, Nat.add_comm, List.map_cons, jU]; rfl) ?_
      refine zlT Tryz.call66 O (fun w hI => zaB (spO ob) (by unfold spO; rw [znG]; omega) (fun x hx => by unfold spO at hx; rcases znt.1 hx with rfl | hx; (· omega); (· have := ob2 x hx; omega)) _ (fun _ => True) w (zkx zd (fun _ _ => rfl) (hI.at 104 O) (fun _ _ => trivial)) (Tr1 hI.k2 ht)) ?_
      refine Vs 7 O ?_
      refine zll O (fun w hI => zmT (KeyOk.str tu9) (hI.at 900 O) tu105 tz3 O O) ?_
      refine zlG 112 (v := .tuple #[.int .i64 (if ob ∈ al then ((al.map spO).idxOf (spO ob) : Nat) else 0), .bool (decide (ob ∈ al))]) O (by by_cases h : ob ∈ al; (· rw [hL, zno (spO_mem.2 h)]; simp [h]); (· rw [hL, znn (fun g => h (spO_mem.1 g))]; simp [h])) ?_
      refine Vs 11 O ?_
      refine zll O (fun w hI => zkO O (by first | exact zb | rfl)) ?_
      refine Vs 2 O ?_
      refine zm4 (σ := Nat × List Ob × Option Addr × Nat × (Nat -> Prop) × List (ByteArray × Value)) [2, 3, 4, 10, 12, 14, 15, 16, 17, 73, 74, 77, 78] [2, 3, 4, 901, 910, 911] [2, 3, 4, 14] O (fun e ⟨k, al', aj', cj', F', L'⟩ => (24, .int .i64 k) :: e) (fun e ⟨k, al', aj', cj', F', L'⟩ => (14, .own b14 [.slice aj' al'.length cj'] 37) :: (900, MapP Value.string m900 L') :: (902, OwP 55 2 ROb F' (.slice aj' al'.length cj') al') :: (905, .res (fun _ => False) (fun _ => True)) :: e) (fun ⟨k, al', aj', cj', F', L'⟩ => al' = (if ob ∈ al then al else al ++ [ob]) /\ al'[k]? = some ob /\ IxIn L' (al'.map spO)) (fun _ => rfl) (fun _ => rfl) ?_ ?_
      ·
       refine zjn O (fun hm => ?_) (fun hm => ?_)
       ·
        have hn : spO ob ∉ al.map spO := fun g => hm (spO_mem.1 g)
        refine Vs 12 O ?_
        refine zmq 900 (e' := MapP Value.string m900 (yy L (spC (spO ob)) (.int .i64 (al.length : Int)))) O (MapP.loc) (fun _ h => h) (fun w hI => zmU (KeyOk.str tu9) (hI.at 900 O) tu105 O O O) ?_
        refine Vs 5 O ?_
        refine zm6 124 [(0, _)] tR37 ts55 tz55 (by decide) O O (by kernel_rfl) (fun b124 => ?_)
        refine zmt [902, 905] (Hn := fun u => [(902, OwP 55 2 ROb (fun q => F q \/ G q) u (al ++ [ob]))]) (u := fun u => u) [(2, some (2, 0)), (3, some (3, 0)), (4, some (4, 0)), (14, some (14, 0)), (19, some (19, 0)), (21, some (21, 0)), (82, some (2, 0)), (89, some (3, 0)), (91, some (19, 1)), (99, some (3, 1)), (102, some (21, 1)), (105, some (21, 0))] O (fun _ => rfl) (fun _ => rfl) (fun w hI => zmu 902 905 124 hI O O O O tu37 Tryz.el55 O (by decide) O O O (fun D x cs h => zir D x cs h) (by omega) (by omega)) (fun u902 => ?_)
        refine zlF (p := ∃ ao c, u902 = .slice ao (al ++ [ob]).length c) (fun w hI => zds (hI.at 902 O)) (fun hu => ?_)
        obtain ⟨an, cn, rfl⟩ := hu
        refine Vs 2 O ?_
        refine znb 905 (p := fun _ => True) O (fun _ => trivial) ?_
        refine zjD (⟨al.length, al ++ [ob], an, cn, fun q => F q \/ G q, yy L (spC (spO ob)) (.int .i64 (al.length : Int))⟩) (zl4 O) (zl5 O) (⟨by rw [znn hm], by rw [znE (znC _), Nat.sub_self]; rfl, by rw [List.map_append, show (al.length : Int) = ((al.map spO).length : Int) by rw [znx]]; exact hL.add hn⟩) 0 O O
       ·
        have hm := znm.1 hm
        obtain ⟨hx1, hx2⟩ := zhO hm
        refine zmc 905 (e' := .res (fun _ => False) (fun _ => True)) O (fun w hI => trivial) (fun _ _ _ _ _ _ => trivial) (fun _ h => h) (fun q h => h.elim) ?_
        refine Vs 1 O ?_
        refine zlG 24 (v := .int .i64 (((al.map spO).idxOf (spO ob) : Nat) : Int)) O (by rw [zno hm]) ?_
        refine zjD (⟨(al.map spO).idxOf (spO ob), al, aj, cj, F, L⟩) (zl4 O) (zl5 O) (⟨by rw [zno hm], hx2, hL⟩) 0 O O
      rintro ⟨k, al', aj', cj', F', L'⟩ ⟨hal', hk', hL'⟩
      show V _ _ _ _ _ ((24, .int .i64 k) :: _) _ ((14, .own b14 [.slice aj' al'.length cj'] 37) :: (900, MapP Value.string m900 L') :: (902, OwP 55 2 ROb F' (.slice aj' al'.length cj') al') :: (905, .res (fun _ => False) (fun _ => True)) :: _) _
      have hkl := (znr.1 hk').1
      have hO' := hO.next (al' := al') (k := k) (cnt' := fun s' k' => cnt s' k' + if s' = s /\ k' = k then 1 else 0) (by rw [hob]; by_cases h : ob ∈ al; (· rw [zno h]; rw [zno h] at hal'; exact hal'); (· rw [znn h]; rw [znn h] at hal'; exact hal')) (by rw [hob]; exact hk') (fun _ _ => rfl)
      have hal2 := hO'.len
      have hs9 : s < 1000000000 := by omega
      have hk9 : k < 1000000000 := by omega
      have hcs := hK s k hs9 hk9
      have hcb : cnt s k <= 1000000 := by
       have h1 := hO'.ct s k ob hk'
       have h2 := zhB (obX f pub t s) (xy (rnN f) s (r + 1) s) ob
       have h3 : xy (rnN f) s (r + 1) s = r + 1 := by unfold xy; rw [znn (by omega), zno rfl]
       rw [zno ⟨rfl, rfl⟩] at h1
       omega
      refine Vs 1 O ?_
      refine Vw [2, 3, 4, 14] [] O ?_
      refine Vd [0, 1, 2] 0 (by kernel_rfl) O O O ?_
      refine zma 3 [Value.int IntKind.i64 0, Value.int IntKind.i64 0] [(0, 1), (1, 1)] [(0, _), (1, _)] O (by kernel_rfl) O O (fun _ => by kernel_rfl) ?_
      refine zn0 4 6 901 0 (E' := fun st => MapBEP za4 m901 (yy K (zc8 s k hs9 hk9) (.int .i64 ((cnt s k : Nat) : Int))) (zc8 s k hs9 hk9) st) (r := fun st => .tuple #[.int .i64 ((cnt s k : Nat) : Int), .int .i64 (st : Nat)]) O (by kernel_rfl) O O (fun _ => ⟨MapBEP.loc, fun _ h => h⟩) (fun w hI => zmY za5 (MapB.g (show MapB za4 w m901 K from hI.at 901 O)) hcs tu106 tz3 O O) (fun w hI => zmX za5 (show MapB za4 w m901 K from hI.at 901 O) hcs tu106 tz3 O O) ?_ (fun x => ?_)
      ·
       refine Vb [5] 0 (by kernel_rfl) O O O (by omega) ?_
       refine zn1 6 901 0 (E' := fun st => MapBEP za4 m901 (yy K (zc8 s k hs9 hk9) (.int .i64 ((cnt s k : Nat) : Int))) (zc8 s k hs9 hk9) st) (r := fun st => .tuple #[.int .i64 ((cnt s k : Nat) : Int), .int .i64 (st : Nat)]) O (by kernel_rfl) O O (fun _ => ⟨MapBEP.loc, fun _ h => h⟩) (fun w hI => zmX za5 (show MapB za4 w m901 K from hI.at 901 O) hcs tu106 tz3 O O) (fun st => ?_)
       refine Vd [7] 0 (by kernel_rfl) O O O ?_
       refine zms 8 901 0 (e' := MapBP za4 m901 (yy (yy K (zc8 s k hs9 hk9) (.int .i64 ((cnt s k : Nat) : Int))) (zc8 s k hs9 hk9) (.int .i64 ((cnt s k : Nat) + 1 : Int)))) O (by kernel_rfl) O O (MapBP.loc) (fun _ h => h) (fun w hI => zmZ (hI.at 901 O) O O O) ?_
       refine zkr (by kernel_rfl) ?_
       refine Va 6 O (by omega) ?_
       refine zm2 901 O (e' := MapBP za4 m901 (yy K (zc8 s k hs9 hk9) (.int .i64 ((cnt s k : Nat) + 1 : Int)))) (by rw [zc0]) ?_
       refine zjy (⟨r + 1, al', aj', cj', F', L', yy K (zc8 s k hs9 hk9) (.int .i64 ((cnt s k : Nat) + 1 : Int)), fun s' k' => cnt s' k' + if s' = s /\ k' = k then 1 else 0⟩) (zl4 O) (zl5 O) (⟨by omega, hO', hL', hK.add hs9 hk9⟩) (by first | omega | (dsimp only; omega)) 2 O O
      ·
       refine Vd [7] 0 (by kernel_rfl) O O O ?_
       refine zlm 4 0 O (by kernel_rfl) O O (fun w hI => zmY za5 (MapBE.g (show MapBE za4 w m901 (yy K (zc8 s k hs9 hk9) (.int .i64 ((cnt s k : Nat) : Int))) (zc8 s k hs9 hk9) x from hI.at 901 O)) (by rw [jk, zno rfl] <;> rfl) tu106 tz3 O O) ?_
       refine Vb [5] 0 (by kernel_rfl) O O O (by omega) ?_
       refine zms 8 901 0 (e' := MapBP za4 m901 (yy (yy K (zc8 s k hs9 hk9) (.int .i64 ((cnt s k : Nat) : Int))) (zc8 s k hs9 hk9) (.int .i64 ((cnt s k : Nat) + 1 : Int)))) O (by kernel_rfl) O O (MapBP.loc) (fun _ h => h) (fun w hI => zmZ (hI.at 901 O) O O O) ?_
       refine zkr (by kernel_rfl) ?_
       refine Va 6 O (by omega) ?_
       refine zm2 901 O (e' := MapBP za4 m901 (yy K (zc8 s k hs9 hk9) (.int .i64 ((cnt s k : Nat) + 1 : Int)))) (by rw [zc0]) ?_
       refine zjy (⟨r + 1, al', aj', cj', F', L', yy K (zc8 s k hs9 hk9) (.int .i64 ((cnt s k : Nat) + 1 : Int)), fun s' k' => cnt s' k' + if s' = s /\ k' = k then 1 else 0⟩) (zl4 O) (zl5 O) (⟨by omega, hO', hL', hK.add hs9 hk9⟩) (by first | omega | (dsimp only; omega)) 2 O O
     ·
      obtain rfl : r = rnN f := by omega
      refine Va 10 O (by omega) ?_
      refine zjy (⟨s + 1, al, aj, cj, F, L, K, cnt⟩) (zl4 O) (zl5 O) (⟨by omega, hO.row, hL, hK⟩) (by first | omega | (dsimp only; omega)) 0 O O
    ·
     obtain rfl : s = spN f := by omega
     obtain ⟨hmem, hcnt⟩ := zhN hO
     have hnd := hO.nd
     have hlen := zi1 hnd hmem
     refine Vs 13 O ?_
     refine zjn O (fun l0 => ?_) (fun l0 => ?_)
     ·
      have hc : xi f pub t = 4 := by unfold xi; rw [znn (znA c0), znn (znA c1), znn (by omega), zno (by omega)]
      refine Vs 2 O ?_
      refine zm9 [Value.slice none 0 0] [(0, 1)] [] O O (fun _ => by kernel_rfl) ?_
      refine Vs 7 O ?_
      refine zn3 tr15 tg36 ts36 O O O (fun w hI => ⟨_, rfl, ⟨_, _, by rw [hc], fun _ => ⟨rfl, rfl⟩, fun h => by rw [hc] at h; cases h⟩, hI.k0⟩)
     ·
      have hc : xi f pub t = 0 := by unfold xi; rw [znn (znA c0), znn (znA c1), znn (by omega), znn (by omega)]
      have hul := zbc al.length
      refine Vs 6 O ?_
      refine zkh 142 tu27 Tryz.el3 O (by omega) (by omega) (zs := List.replicate al.length (.int .i64 0)) (ze3 _ _ O) (by simp) (fun b142 => ?_)
      refine zm2 142 O (e' := .row 3 1 (.slice (some ⟨b142, 0, none⟩) al.length al.length) al.length (((zc7 al.length).take 0 ++ List.replicate ((zc7 al.length).length - 0) 0).map zd)) (by simp [zd, zbc]) ?_
      refine Vs 12 O ?_
      refine zm3 (σ := Nat) [4, 10, 14, 16, 26, 144] [4, 14, 900, 901, 902] [4, 14] O (fun e i => (145, .int .i64 i) :: e) (fun e i => (142, .row 3 1 (.slice (some ⟨b142, 0, none⟩) al.length al.length) al.length (((zc7 al.length).take i ++ List.replicate ((zc7 al.length).length - i) 0).map zd)) :: e) (fun i => i <= al.length) (fun i => al.length - i) (0) (zl4 O) (zl5 O) (fun _ => rfl) (fun _ => rfl) (fun _ => rfl) (zns _) ?_
      rintro i hi
      refine Vs 6 O ?_
      refine zjn O (fun q => ?_) (fun q => ?_)
      ·
       refine Va 15 O (by omega) ?_
       refine V.rs 142 (i) ts3 O (by omega) (by simp [zbc]; omega) ?_
       refine zm2 142 O (e' := .row 3 1 (.slice (some ⟨b142, 0, none⟩) al.length al.length) al.length (((zc7 al.length).take (i + 1) ++ List.replicate ((zc7 al.length).length - (i + 1)) 0).map zd)) (by rw [<- zfy (ziI (by omega))]) ?_
       refine Va 7 O (by omega) ?_
       refine zjy (i + 1) (zl4 O) (zl5 O) (by omega) (by first | omega | (dsimp only; omega)) 0 O O
      ·
       obtain rfl : i = al.length := by omega
       refine zm2 142 O (e' := .row 3 1 (.slice (some ⟨b142, 0, none⟩) al.length al.length) (zc7 al.length).length ((zc7 al.length).map zd)) (by rw [List.take_of_length_le (by omega), hul, Nat.sub_self, List.replicate_zero, List.append_nil]) ?_
       refine zmc 142 (e' := OwP 3 1 (zia al.length) (fun _ => False) (.slice (some ⟨b142, 0, none⟩) al.length al.length) (zc7 al.length)) O (fun w hI => zhP (hI.at 142 O) (fun x hx => mem_upTo.1 hx)) (OwP.loc) (fun _ h => h) (fun q hq => hq.elim id False.elim) ?_
       refine Vs 9 O ?_
       refine zlW 142 (E := fun l' => OwP 3 1 (zia al.length) (fun _ => False) (.slice (some ⟨b142, 0, none⟩) al.length al.length) l') Tryz.call67 O (fun _ => ⟨OwP.loc, fun _ h => h⟩) (fun w hI => zfg (k := 142) (cf := fun x y => yj (atO al x) (atO al y)) ziB (fun D w x cs h => ⟨_, h.1, rfl⟩) Tryz.call68 (zj3 al) hI O (by omega) (fun x y u u' W' hk hx hy => by obtain ⟨h1, h2, h3⟩ := hx; obtain ⟨h4, h5, h6⟩ := hy; cases h1; cases h4; obtain ⟨x, rfl⟩ : ∃ z : Nat, x = (z : Int) := ⟨x.toNat, by omega⟩; obtain ⟨y, rfl⟩ : ∃ z : Nat, y = (z : Int) := ⟨y.toNat, by omega⟩; exact ziA al x y (by omega) (by omega) _ (fun _ => True) b14 W' (hk.cells (Blk.cells (hI.at 14 O)) (fun h => hI.sep (k := 142) (k2 := 14) O O (by decide) (.inl h) O)) (((show OwH _ _ _ _ _ _ _ from hI.at 902 O).1.keep StC.s hk (fun q hq _ h => hI.sep (k := 142) (k2 := 902) O O (by decide) (.inl h) (.inr hq)) (fun q hq h => hI.sep (k := 142) (k2 := 902) O O (by decide) (.inl h) (.inl hq))).sl (by omega) StC.s (fun _ _ => trivial) (fun _ _ => trivial)))) ?_
       rintro _ l' ⟨rfl, hperm, hpw⟩
       refine zlF (p := ∀ x ∈ l', 0 <= x /\ x < (al.length : Int)) (fun w hI => (zfi (hI.at 142 O)).2) (fun hix => ?_)
       have hl'l : l'.length = al.length := by rw [hperm.length_eq, hul]
       have hsn : l'.map (atO al) = zi8 f pub t := zbW (by have := hperm.map (atO al); rwa [ziH] at this) hnd (by rw [List.pairwise_map]; exact hpw) hmem
       refine zm2 142 O (e' := OwP 3 1 (zia al.length) (fun _ => False) (.slice (some ⟨b142, 0, none⟩) al.length al.length) l') (rfl) ?_
       refine zmc 142 (e' := .row 3 1 (.slice (some ⟨b142, 0, none⟩) al.length al.length) al.length (l'.map zd)) O (fun w hI => (by rw [<- hl'l]; exact (hl'l ▸ (zfi (hI.at 142 O)).1))) (trivial) (fun _ h => h) (fun q hq => .inl hq) ?_
       refine znc 902 911 [(4, some (4, 0)), (14, some (14, 0))] O (fun _ => rfl) (fun _ => rfl) (fun xs => ?_)
       refine zlF (p := xs.length = al.length * 2) (fun w hI => (show w.ownsRow 0 55 2 (.slice aj al.length cj) al.length xs from hI.at 902 O).1) (fun hxl2 => ?_)
       refine Vs 4 O ?_
       refine V.alloc 28 tz36 O O (fun b28 => ?_)
       refine Vs 3 O ?_
       refine zlM 912 55 2 O ?_
       refine Vs 13 O ?_
       refine zm3 (σ := Nat × Value) [4, 10, 14, 16, 26, 28, 156, 157] [4, 14, 28, 142, 900, 901, 911] [4, 14, 28] O (fun e ⟨j, us⟩ => (158, .int .i64 j) :: (29, us) :: e) (fun e ⟨j, us⟩ => (912, .row 55 2 us j ((l'.take j).flatMap (zcR xs))) :: (902, .row 55 2 (.slice aj al.length cj) al.length xs) :: e) (fun ⟨j, us⟩ => j <= al.length) (fun ⟨j, us⟩ => al.length - j) ((0, .slice none 0 0)) (zl4 O) (zl5 O) (fun _ => rfl) (fun _ => rfl) (fun _ => rfl) (zns _) ?_
       rintro ⟨j, us⟩ hj
       show V _ _ _ _ _ ((158, .int .i64 j) :: (29, us) :: _) _ ((912, .row 55 2 us j ((l'.take j).flatMap (zcR xs))) :: (902, .row 55 2 (.slice aj al.length cj) al.length xs) :: _) _
       refine Vs 6 O ?_
       refine zjn O (fun q2 => ?_) (fun q2 => ?_)
       ·
        obtain ⟨x, hx⟩ : ∃ x, l'[j]? = some x := ⟨_, znd (by omega)⟩
        have hxb := hix x (zne hx)
        obtain ⟨k, rfl⟩ : ∃ k : Nat, x = (k : Int) := ⟨x.toNat, by omega⟩
        obtain ⟨ox, hox⟩ : ∃ o, al[k]? = some o := ⟨_, znd (by omega)⟩
        refine zlF (p := ∃ a c, (xs.drop (k * 2)).take 2 = [.slice a ox.1.length c, .int .i64 ox.2]) (fun w hI => (by obtain ⟨v, h1, h2⟩ := (show ∀ (i : Nat) x, al[i]? = some x -> ROb F w x ((xs.drop (i * 2)).take 2) from hI.at 911 O) k ox hox; obtain ⟨a, c, rfl⟩ := h2.form; exact ⟨a, c, h1⟩)) (fun hcl => ?_)
        obtain ⟨ax, cx, hcl⟩ := hcl
        refine zlF (p := ∃ b, aj = some ⟨b, 0, none⟩) (fun w hI => (by obtain ⟨ao, c, h1, h2⟩ := zcd (show w.ownsRow 0 55 2 (.slice aj al.length cj) al.length xs from hI.at 902 O); cases h1; exact h2 (by omega))) (fun hb => ?_)
        obtain ⟨bj, rfl⟩ := hb
        refine Va 7 O (by omega) ?_
        refine zlR 142 (j) tg3 O (by omega) (show (l'.map zd)[j]? = some (.int .i64 (k : Int)) by rw [znu, hx]; rfl) ?_
        refine Vs 7 O ?_
        refine zll O (fun w hI => zk5 tR37 ts55 O O O (by omega)) ?_
        refine zll O (fun w hI => zk7 tg55 ts55 O (cs := [.slice ax ox.1.length cx, .int .i64 ox.2]) O (zdY (hI.at 902 O) hcl)) ?_
        refine zm6 167 [(0, _)] tR37 ts55 tz55 (by decide) O O (by kernel_rfl) (fun b167 => ?_)
        refine zlN 912 167 tu37 Tryz.el55 O (by decide) O O (by omega) (by omega) (fun u912 => ?_)
        refine Va 8 O (by omega) ?_
        refine zm2 912 O (e' := .row 55 2 u912 (j + 1) ((l'.take (j + 1)).flatMap (zcR xs))) (by rw [zh hx, List.flatMap_append, List.flatMap_singleton]; unfold zcR; rw [znz, hcl]) ?_
        refine zjy (⟨j + 1, u912⟩) (zl4 O) (zl5 O) (by omega) (by first | omega | (dsimp only; omega)) 0 O O
       ·
        obtain rfl : j = al.length := by omega
        have hml : (mxO f pub t).length = spN f := by simp [mxO]
        have hmr : ∀ s, s < spN f -> (mxO f pub t)[s]? = some (l'.map fun k => ((cnt s k.toNat : Nat) : Int)) := fun s hs => by
         unfold mxO
         rw [znu, List.getElem?_range hs, Option.map_some, <- hsn, List.map_map]
         refine congrArg some (List.map_congr_left fun k hk => ?_)
         have hkb := hix k hk
         obtain ⟨o, ho⟩ : ∃ o, al[k.toNat]? = some o := ⟨_, znd (by omega)⟩
         have h1 := hcnt s hs k.toNat o ho
         simp only [Function.comp]
         rw [h1]
         unfold atO
         rw [ho]
         rfl
        refine Vs 12 O ?_
        refine zlM 913 27 1 O ?_
        refine zmc 913 (e' := OwP 27 1 (RSl 1 zt) (fun _ => False) (.slice none 0 0) []) O (fun w hI => OwH.nil) OwP.loc (fun _ h => h) (fun q hq => hq.elim id False.elim) ?_
        refine Vs 1 O ?_
        refine zm3 (σ := Nat × Option Addr × Nat × (Nat -> Prop)) [4, 16, 26, 28, 29, 170] [4, 142, 900, 901, 911, 912] [4, 28] O (fun e ⟨x, ar, cr, Fr⟩ => (171, .int .i64 x) :: e) (fun e ⟨x, ar, cr, Fr⟩ => (28, .own b28 [.slice ar ((mxO f pub t).take x).length cr] 36) :: (913, OwP 27 1 (RSl 1 zt) Fr (.slice ar ((mxO f pub t).take x).length cr) ((mxO f pub t).take x)) :: e) (fun ⟨x, ar, cr, Fr⟩ => x <= spN f) (fun ⟨x, ar, cr, Fr⟩ => spN f - x) ((0, none, 0, fun _ => False)) (zl4 O) (zl5 O) (fun _ => rfl) (fun _ => rfl) (fun _ => rfl) (zns _) ?_
        rintro ⟨x, ar, cr, Fr⟩ hx
        show V _ _ _ _ _ ((171, .int .i64 x) :: _) _ ((28, .own b28 [.slice ar ((mxO f pub t).take x).length cr] 36) :: (913, OwP 27 1 (RSl 1 zt) Fr (.slice ar ((mxO f pub t).take x).length cr) ((mxO f pub t).take x)) :: _) _
        have hxl : ((mxO f pub t).take x).length = x := by rw [znH, hml]; omega
        refine Vs 6 O ?_
        refine zjn O (fun q3 => ?_) (fun q3 => ?_)
        ·
         have hmx := hmr x (by omega)
         obtain ⟨RL, hRL⟩ : ∃ RL : List Int, RL = l'.map fun k => ((cnt x k.toNat : Nat) : Int) := ⟨_, rfl⟩
         have hRl : RL.length = al.length := by rw [hRL, znx, hl'l]
         rw [<- hRL] at hmx
         have htk : (mxO f pub t).take (x + 1) = (mxO f pub t).take x ++ [RL] := zh hmx
         refine Vs 14 O ?_
         refine zkh 176 tu27 Tryz.el3 O (by omega) (by omega) (zs := List.replicate al.length (.int .i64 0)) (ze3 _ _ O) (by simp) (fun b176 => ?_)
         refine zm2 176 O (e' := .row 3 1 (.slice (some ⟨b176, 0, none⟩) al.length al.length) al.length ((RL.take 0 ++ List.replicate (RL.length - 0) 0).map zd)) (by simp [zd, hRl]) ?_
         refine Vs 12 O ?_
         refine zm3 (σ := Nat) [4, 16, 26, 28, 29, 32, 33, 170, 171, 177, 178] [4, 28, 142, 900, 901, 911, 912, 913] [4, 28] O (fun e y => (179, .int .i64 y) :: e) (fun e y => (176, .row 3 1 (.slice (some ⟨b176, 0, none⟩) al.length al.length) al.length ((RL.take y ++ List.replicate (RL.length - y) 0).map zd)) :: e) (fun y => y <= al.length) (fun y => al.length - y) (0) (zl4 O) (zl5 O) (fun _ => rfl) (fun _ => rfl) (fun _ => rfl) (zns _) ?_
         rintro y hy
         refine Vs 6 O ?_
         refine zjn O (fun q4 => ?_) (fun q4 => ?_)
         ·
          obtain ⟨z, hz⟩ : ∃ z, l'[y]? = some z := ⟨_, znd (by omega)⟩
          have hzb := hix z (zne hz)
          obtain ⟨k, rfl⟩ : ∃ k : Nat, z = (k : Int) := ⟨z.toNat, by omega⟩
          have hRy : RL[y]? = some ((cnt x k : Nat) : Int) := by rw [hRL, znu, hz]; rfl
          have hx9 : x < 1000000000 := by omega
          have hk9 : k < 1000000000 := by omega
          refine Va 8 O (by omega) ?_
          refine zlR 142 (y) tg3 O (by omega) (show (l'.map zd)[y]? = some (.int .i64 (k : Int)) by rw [znu, hz]; rfl) ?_
          refine Vs 10 O ?_
          refine zm9 [Value.int IntKind.i64 0, Value.int IntKind.i64 0] [(0, 1), (1, 1)] [(0, _), (1, _)] O O (fun _ => by kernel_rfl) ?_
          refine zll O (fun w hI => zmY za5 (MapB.g (show MapB za4 w m901 K from hI.at 901 O)) (hK x k hx9 hk9) tu106 tz3 O O) ?_
          refine Va 1 O (by omega) ?_
          refine V.rs 176 (y) ts3 O (by omega) (by simp; omega) ?_
          refine zm2 176 O (e' := .row 3 1 (.slice (some ⟨b176, 0, none⟩) al.length al.length) al.length ((RL.take (y + 1) ++ List.replicate (RL.length - (y + 1)) 0).map zd)) (by rw [<- zfy hRy]) ?_
          refine Va 7 O (by omega) ?_
          refine zjy (y + 1) (zl4 O) (zl5 O) (by omega) (by first | omega | (dsimp only; omega)) 0 O O
         ·
          obtain rfl : y = al.length := by omega
          refine zm2 176 O (e' := .row 3 1 (.slice (some ⟨b176, 0, none⟩) al.length al.length) RL.length (RL.map zd)) (by rw [List.take_of_length_le (by omega), hRl, Nat.sub_self, List.replicate_zero, List.append_nil]) ?_
          refine zmc 176 (e' := DaP (RSl 1 zt) (fun q => q = b176) RL [.slice (some ⟨b176, 0, none⟩) al.length al.length]) O (fun w hI => ⟨_, rfl, zkx zd (fun _ _ => rfl) (hRl ▸ (hI.at 176 O)) (fun g hg => (Option.some.inj hg).symm)⟩) DaP.loc (fun _ h => h) (fun q hq => congrArg some (show b176 = q from Eq.symm hq)) ?_
          refine Vs 9 O ?_
          refine zm6 196 [(0, _)] tR34 ts27 tz27 (by decide) O O (by kernel_rfl) (fun b196 => ?_)
          refine zmt [913, 176] (Hn := fun u => [(913, OwP 27 1 (RSl 1 zt) (fun q => Fr q \/ q = b176) u ((mxO f pub t).take x ++ [RL]))]) (u := fun u => u) [(4, some (4, 0)), (28, some (28, 0)), (193, some (28, 0))] O (fun _ => rfl) (fun _ => rfl) (fun w hI => zmu 913 176 196 hI O O O O tu34 Tryz.el27 O (by decide) O O O (fun D x cs h => zgO D x cs h) (by omega) (by omega)) (fun u913 => ?_)
          refine zlF (p := ∃ ao c, u913 = .slice ao ((mxO f pub t).take x ++ [RL]).length c) (fun w hI => zds (hI.at 913 O)) (fun hu => ?_)
          obtain ⟨an, cn, rfl⟩ := hu
          refine Va 9 O (by omega) ?_
          rw [<- htk] at *
          refine zjy (⟨x + 1, an, cn, fun q => Fr q \/ q = b176⟩) (zl4 O) (zl5 O) (by omega) (by first | omega | (dsimp only; omega)) 0 O O
        ·
         obtain rfl : x = spN f := by omega
         have htx : (mxO f pub t).take (spN f) = mxO f pub t := by rw [<- hml, zni]
         rw [htx] at *
         refine Vs 15 O ?_
         refine zn3 tr15 tg36 ts36 O O O (fun w hI => ⟨_, rfl, ⟨_, _, by rw [hc], fun h => absurd hc h, fun _ => ⟨(show OwH _ _ _ _ _ _ _ from hI.at 913 O).sl (by omega) (fun q hq => hI.own 913 0 O O q hq), OwnR.sl (e := 55) (R := ROb) (D := fun q => W.heap.size <= q) ⟨l'.flatMap (zcR xs), by rw [<- hsn, znx, hl'l]; exact (List.take_of_length_le (l := l') (i := al.length) (by omega)) ▸ (hI.at 912 O), fun i x hi => zi2 hxl2 hsn (fun z hz => hix z hz) (show ∀ (i : Nat) x, al[i]? = some x -> ROb F w x ((xs.drop (i * 2)).take 2) from hI.at 911 O) (fun q hq => hI.own 911 0 O O q hq) hi⟩ (by omega) StC.s (fun _ h => h) (fun q hq => hI.own 912 0 O O q hq)⟩⟩, hI.k0⟩)
end Go.Proofs.YtaenledoagbddaaGreatDoor
namespace Go.GL
section
variable {P : Program} {n : Nat} {Q : Exit -> Act -> World -> Prop} {ks : List Fr} {env : Env} {A : Tgs} {H Hs : Hp} {Bs B0 : zH} {ops : Array Oper} {L : List Nat} {fuel : Nat} {listed : Array Bool} {d : Nat} {ty : TypeId} {ps : String} {aft : Array Edge} {g : Option (Nat × Bool)} {v : Value}
theorem zmh (i j : Nat) {f : FuncId} {x : Operand} {fs cs : List Value} {xs : Array Operand} {ts : Array TypeId} {vs : List Value} (hf : ∀ args w, (callFunc f args).run P w = .ok (.enter f args) w) (hi : ops[i]? = some ⟨some d, .call ⟨.value x, xs, ts⟩, ty, ps, aft, g⟩) (hr : Region.ready .any ops listed = [i]) (hn : (Nat.blt d n, gd ops env g, xW env xs.toList, ev env x, xP (Hs.map (·.1))) = (true, some true, some vs, some (.func (.func f) fs.toArray cs.toArray), true)) (hB : Bs.drop j = B0)
  (hc : ∀ w, VI Bs H w -> Calls P f (fs ++ vs ++ cs).toArray w (Ret fun r w' => r = v /\ Ext w w')) (h : VD P n Q ks ops Hs B0 L fuel (listed.setIfInBounds i true) ((d, v) :: env) ((d, none) :: A) H Bs) : VD P n Q ks ops Hs B0 L (fuel + 1) listed env A H Bs := by
 simp only [Prod.mk.injEq] at hn
 subst hB
 refine fun hH hA w hI => zlX i hi hr hn.1 hn.2.1 (.inr ⟨f, _, zka hf hn.2.2.2.1 (yk hn.2.2.1), hc w hI⟩) ?_
 rintro _ w' ⟨rfl, hk⟩
 exact ⟨((hI.ext hk).drop j).pick hH hn.2.2.2.2, h hH hA.none w' (hI.ext hk)⟩
end
abbrev BlkP (g : Nat) (cs : List Value) (e : TypeId) : HE := .res (fun q => q = g) (fun w => Blk w g cs e)
theorem BlkP.loc {g : Nat} {cs : List Value} {e : TypeId} : (BlkP g cs e).loc := fun _ _ _ h hk hT => hk.blk h (hT g (show Blk _ g cs e from h).lt rfl)
end Go.GL
namespace Go.Proofs.YtaenledoagbddaaGreatDoor
open Go.GL
abbrev zj5 (p : Ob × Value) : List Value := [p.2, .int .i64 p.1.2]
def PairD (es : List (Ob × Value)) (F : Nat -> Prop) (w : World) : Prop := ∀ p ∈ es, SlR 1 zt F w p.2 p.1.1
theorem PairD.loc {es : List (Ob × Value)} {F : Nat -> Prop} : (HE.res F (PairD es F)).loc := fun _ _ _ h hk hT p hp => (h p hp).keep za hk fun b hb hlt => hT b hlt hb
theorem PairD.wide {es : List (Ob × Value)} {F G : Nat -> Prop} {w : World} (h : PairD es F w) (hF : ∀ q, F q -> G q) : PairD es G w := fun p hp => (h p hp).wide za hF
def RPr : Rel (Ob × Value) := fun _ _ x cs => cs = zj5 x
theorem jo : zF RPr := fun _ _ _ _ _ _ _ _ h => h
instance : StC RPr := ⟨jo⟩
def RowsD (rows : List (List (Ob × Value))) (hs : List Value) (G : Nat -> Prop) (w : World) : Prop := ∀ (i : Nat) rc, rows[i]? = some rc -> ∃ v, hs[i]? = some v /\ SlR 2 RPr G w v rc
theorem RowsD.loc {rows : List (List (Ob × Value))} {hs : List Value} {G : Nat -> Prop} : (HE.res G (RowsD rows hs G)).loc := fun _ _ _ h hk hT i rc hi => by
 obtain ⟨v, h1, h2⟩ := h i rc hi
 exact ⟨v, h1, h2.keep jo hk fun b hb hlt => hT b hlt hb⟩
theorem RowsD.add {rows : List (List (Ob × Value))} {hs : List Value} {G G' : Nat -> Prop} {w : World} {rc : List (Ob × Value)} {v : Value} (h : RowsD rows hs G w) (hl : rows.length = hs.length) (hv : SlR 2 RPr G' w v rc) : RowsD (rows ++ [rc]) (hs ++ [v]) (fun q => G q \/ G' q) w := fun i r hi => by
 by_cases hlt : i < rows.length
 ·
  rw [znD hlt] at hi
  obtain ⟨u, h1, h2⟩ := h i r hi
  exact ⟨u, by rw [znD (by omega)]; exact h1, h2.wide jo fun _ h => .inl h⟩
 ·
  have hil := (znr.1 hi).1
  rw [znl, zny] at hil
  obtain rfl : i = rows.length := by omega
  rw [znE (znC _), Nat.sub_self] at hi
  obtain rfl : rc = r := by simpa using hi
  exact ⟨v, by rw [hl, znE (znC _), Nat.sub_self]; rfl, hv.wide jo fun _ h => .inr h⟩
theorem PairD.one {es : List (Ob × Value)} {F : Nat -> Prop} {w : World} (h : PairD es F w) : ∀ p ∈ es, p.2.oneCell' = true := fun p hp => by
 obtain ⟨a, c, e⟩ := (h p hp).form
 rw [e]; rfl
theorem zdt (xs ys : List Int) (u v : Value) (D D' : Nat -> Prop) (w : World) (hx : SlR 1 zt D w u xs) (hy : SlR 1 zt D' w v ys) : Calls Tryz.prog 27 #[u, v] w (Ret fun r w' => r = .bool (decide (xs = ys)) /\ Ext w w') := by
 obtain ⟨ao, cx, rfl, hxc, hxm, hxe⟩ := hx
 obtain ⟨bo, cy, rfl, hyc, hym, hye⟩ := hy
 refine zlu Tryz.func27 O Tryz.ntmps27 O (Gs 15 O (zlj O (fun hne => ?_) (fun heq => ?_)))
 ·
  refine Gs 7 O ?_
  have : ¬ xs = ys := fun h => hne (by rw [h])
  refine zjG Tryz.results27 O ⟨_, rfl, by rw [znq this], Keep.refl _ _⟩
 ·
  have hl : xs.length = ys.length := by omega
  refine Gs 11 O (G.loop (σ := Nat) (fun k => [(0, .slice ao xs.length cx), (1, .slice bo ys.length cy), (11, .slice ao xs.length cx), (12, .int .i64 xs.length), (13, .int .i64 k)]) (fun k => fun w' => k <= xs.length /\ xs.take k = ys.take k /\ Ext w w') (fun k => xs.length - k) (0) (zl4 O) (⟨zns _, rfl, Keep.refl _ _⟩) ?_)
  rintro k w1 ⟨hkl, htk, hk1⟩
  refine Gs 6 O (zlj O (fun hlt => ?_) (fun hge => ?_))
  ·
   obtain ⟨x, hx⟩ : ∃ x, xs[k]? = some x := ⟨_, znd (by omega)⟩
   obtain ⟨y, hy⟩ : ∃ y, ys[k]? = some y := ⟨_, znd (by omega)⟩
   obtain ⟨b1, o1, c1, hao, _, hcl1, hcs1, rfl⟩ := hxe k x hx
   obtain ⟨b2, o2, c2, hbo, _, hcl2, hcs2, rfl⟩ := hye k y hy
   have hcs1' := hk1.cells hcs1 (fun h => h)
   have hcs2' := hk1.cells hcs2 (fun h => h)
   refine Gs 11 O (Qt (by kernel_rfl) (Gs 2 O (zln O O (fun w1 hw1 => zk5 tR27 ts3 O O hao (by omega)) (zlp O tg3 (fun w1 hw1 => (hw1.cell (hcs1' 0 _ O) (fun h => h))) (Gs 2 O (zln O O (fun w1 hw1 => zk5 tR27 ts3 O O hbo (by omega)) (zlp O tg3 (fun w1 hw1 => (hw1.cell (hcs2' 0 _ O) (fun h => h))) (Gs 1 O (zlr (fun w2 hk2 => ?_))))))))))
   refine Gs 1 O (zlj O (fun hd => ?_) (fun he => ?_))
   ·
    have : ¬ xs = ys := by
     rintro rfl
     rw [hx] at hy
     exact hd (Option.some.inj hy)
    refine Gs 11 O (zjG Tryz.results27 O ⟨_, rfl, by rw [znq this], hk1.ext hk2⟩)
   ·
    have hxy : x = y := znm.1 he
    refine Ga 7 O (by omega) (zjx (k + 1) (zl4 O) (⟨by omega, ?_, hk1.ext hk2⟩) (by first | omega | (dsimp only; omega)))
    obtain ⟨h1, h2⟩ := znr.1 hx
    obtain ⟨h3, h4⟩ := znr.1 hy
    rw [List.take_succ_eq_append_getElem h1, List.take_succ_eq_append_getElem h3, htk, h2, h4, hxy]
  ·
   have hkk : k = xs.length := by omega
   have : xs = ys := by
    rw [hkk, zni] at htk
    rw [hl, zni] at htk
    exact htk
   refine Gs 11 O (zjG Tryz.results27 O ⟨_, rfl, by rw [znp this], hk1⟩)
theorem zi4 (xs ys : Mx) (u v : Value) (D D' : Nat -> Prop) (W : World) (hx : SlR 1 (RSl 1 zt) D W u xs) (hy : SlR 1 (RSl 1 zt) D' W v ys) :
  Calls Tryz.prog 76 #[u, v, .func (.func 27) #[] #[]] W (Ret fun r w' => r = .bool (decide (xs = ys)) /\ Ext W w') := by
 obtain ⟨ax, cx, rfl⟩ := hx.form
 obtain ⟨ay, cy, rfl⟩ := hy.form
 have hmx := hx.max
 have hmy := hy.max
 refine zlv Tryz.func76 O Tryz.ntmps76 O (zlE ?_)
 refine Vs 15 O ?_
 refine zjn O (fun h => ?_) (fun h => ?_)
 ·
  refine Vs 7 O ?_
  refine zjH Tryz.results76 O (fun w hI => ⟨_, rfl, by rw [znq (fun e => by rw [e] at h; exact h O)], hI.k0⟩)
 ·
  have hl : xs.length = ys.length := by omega
  refine Vs 11 O ?_
  refine zm3 (σ := Nat) [1, 2, 15, 16] [] [] O (fun e i => (17, .int .i64 i) :: e) (fun e i => e) (fun i => i <= xs.length /\ ∀ j, j < i -> xs[j]? = ys[j]?) (fun i => xs.length - i) (0) (zl4 O) (zl5 O) (fun _ => rfl) (fun _ => rfl) (fun _ => rfl) (⟨zns _, fun j h => absurd h (Nat.not_lt_zero _)⟩) ?_
  rintro i ⟨hi, he⟩
  refine Vs 6 O ?_
  refine zjn O (fun hlt => ?_) (fun hlt => ?_)
  ·
   refine Vs 7 O ?_
   obtain ⟨x, he_x, hm_x⟩ := gE_ xs (i) (by omega)
   obtain ⟨b_x, o_x, c_x, ha_x, _, hc_x, hR_x⟩ := hx.at he_x
   obtain ⟨v1_x, rfl, hs_x⟩ := hR_x
   obtain ⟨a1_x, n1_x, rfl⟩ := hs_x.form
   refine zm0 1000 0 O O hc_x ?_
   refine V.ix 1000 tR34 ts27 O ha_x (by omega) (_) (rfl) O ?_
   refine Vs 9 O ?_
   obtain ⟨y, he_y, hm_y⟩ := gE_ ys (i) (by omega)
   obtain ⟨b_y, o_y, c_y, ha_y, _, hc_y, hR_y⟩ := hy.at he_y
   obtain ⟨v1_y, rfl, hs_y⟩ := hR_y
   obtain ⟨a1_y, n1_y, rfl⟩ := hs_y.form
   refine zm0 2000 0 O O hc_y ?_
   refine V.ix 2000 tR34 ts27 O ha_y (by omega) (_) (rfl) O ?_
   refine Vs 9 O ?_
   refine zmg Tryz.call27 O (fun w hI => zdt x y _ _ D D' w (Tr1 hI.k0 hs_x) (Tr1 hI.k0 hs_y)) ?_
   refine zll O (fun w hI => zkO O (by first | exact zb | rfl)) ?_
   refine Vs 2 O ?_
   refine zjn O (fun n0 => ?_) (fun n0 => ?_)
   ·
    refine Vs 11 O ?_
    refine zjH Tryz.results76 O (fun w hI => ⟨_, rfl, by rw [znq (fun e => n0 (by rw [e, he_y] at he_x; exact (Option.some.inj he_x).symm))], hI.k0⟩)
   ·
    refine Va 7 O (by omega) ?_
    refine zjy (i + 1) (zl4 O) (zl5 O) (⟨by omega, fun j hj => by by_cases e : j = i; (· rw [e, he_x, he_y, znm.1 n0]); (· exact he j (by omega))⟩) (by first | omega | (dsimp only; omega)) 0 O O
  ·
   refine Vs 11 O ?_
   refine zjH Tryz.results76 O (fun w hI => ⟨_, rfl, by rw [znp (List.ext_getElem? fun j => by by_cases hj : j < xs.length; (· exact he j (by omega)); (· rw [znB (by omega), znB (by omega)]))], hI.k0⟩)
theorem jF (xs ys : Mx) (u v : Value) (D D' : Nat -> Prop) (W : World) (hx : SlR 1 (RSl 1 zt) D W u xs) (hy : SlR 1 (RSl 1 zt) D' W v ys) :
  Calls Tryz.prog 18 #[.agg #[u], .agg #[v]] W (Ret fun r w' => r = .bool (decide (xs = ys)) /\ Ext W w') := by
 obtain ⟨ax, cx, rfl⟩ := hx.form
 obtain ⟨ay, cy, rfl⟩ := hy.form
 refine zlu Tryz.func18 O Tryz.ntmps18 O (zlE ?_)
 refine Vs 2 O ?_
 refine V.box 2 O O (fun b2 => ?_)
 refine V.box 3 O O (fun b3 => ?_)
 refine Vs 9 O ?_
 refine zlT Tryz.call76 O (fun w hI => zi4 xs ys _ _ D D' w (Tr1 hI.k0 hx) (Tr1 hI.k0 hy)) ?_
 refine Vs 4 O ?_
 refine zjH Tryz.results18 O (fun w hI => ⟨_, rfl, rfl, hI.k0⟩)
def SumOwn (C : Mx) (hs : List Value) (O F : Nat -> Prop) (w : World) : Prop := ∀ (i : Nat) x, O i -> C[i]? = some x -> ∃ v, hs[i]? = some v /\ SlR 1 zt F w v x
def SumOld (C : Mx) (hs : List Value) (O B : Nat -> Prop) (w : World) : Prop := ∀ (i : Nat) x, ¬ O i -> C[i]? = some x -> ∃ v, hs[i]? = some v /\ SlR 1 zt B w v x
theorem SumOwn.loc {C : Mx} {hs : List Value} {O F : Nat -> Prop} : (HE.res F (SumOwn C hs O F)).loc := fun w w' T hx hk hT i x hi hD => by
 obtain ⟨v, h1, h2⟩ := hx i x hi hD
 exact ⟨v, h1, h2.keep za hk fun b hb hlt => hT b hlt hb⟩
theorem SumOwn.put {C : Mx} {hs : List Value} {O F G : Nat -> Prop} {w : World} {k : Nat} {x : List Int} {v : Value} (h : SumOwn C hs O F w) (hk : k < hs.length) (hG : SlR 1 zt G w v x) : SumOwn (C.set k x) (hs.set k v) (fun i => O i \/ i = k) (fun q => F q \/ G q) w := fun i z hi hz => by
 by_cases e : k = i
 ·
  subst e
  rw [List.getElem?_set] at hz
  simp only [zno] at hz
  split at hz
  ·
   cases hz
   exact ⟨v, List.getElem?_set_self hk, hG.wide za fun q hq => .inr hq⟩
  . cases hz
 ·
  rw [List.getElem?_set_ne e] at hz
  obtain ⟨u, h1, h2⟩ := h i z (hi.elim id fun h => absurd h.symm e) hz
  exact ⟨u, by rw [List.getElem?_set_ne e]; exact h1, h2.wide za fun q hq => .inl hq⟩
theorem SumOld.put {C : Mx} {hs : List Value} {O B : Nat -> Prop} {w : World} {k : Nat} {x : List Int} {v : Value} (h : SumOld C hs O B w) : SumOld (C.set k x) (hs.set k v) (fun i => O i \/ i = k) B w := fun i z hi hz => by
 have e : ¬ k = i := fun e => hi (.inr e.symm)
 rw [List.getElem?_set_ne e] at hz
 obtain ⟨u, h1, h2⟩ := h i z (fun h => hi (.inl h)) hz
 exact ⟨u, by rw [List.getElem?_set_ne e]; exact h1, h2⟩
theorem SumOwn.add {C : Mx} {hs : List Value} {O F : Nat -> Prop} {w : World} {x : List Int} {v : Value} (h : SumOwn C hs O F w) (hl : C.length = hs.length) (hO : ∀ i, O i -> i < hs.length) : SumOwn (C ++ [x]) (hs ++ [v]) O F w := fun i z hi hz => by
 have hlt := hO i hi
 rw [znD (by omega)] at hz
 obtain ⟨u, h1, h2⟩ := h i z hi hz
 exact ⟨u, by rw [znD hlt]; exact h1, h2⟩
theorem SumOld.add {C : Mx} {hs : List Value} {O B : Nat -> Prop} {w : World} {x : List Int} {v : Value} (h : SumOld C hs O B w) (hl : C.length = hs.length) (hx : SlR 1 zt B w v x) : SumOld (C ++ [x]) (hs ++ [v]) O B w := fun i z hi hz => by
 by_cases hlt : i < C.length
 ·
  rw [znD hlt] at hz
  obtain ⟨u, h1, h2⟩ := h i z hi hz
  exact ⟨u, by rw [znD (by omega)]; exact h1, h2⟩
 ·
  have hil := (znr.1 hz).1
  rw [znl, zny] at hil
  obtain rfl : i = C.length := by omega
  rw [znE (znC _), Nat.sub_self] at hz
  obtain rfl : x = z := by simpa using hz
  exact ⟨v, by rw [hl, znE (znC _), Nat.sub_self]; rfl, hx⟩
def kTa : Tm := .mk 24 0 []
def kTb : Tm := .mk 24 1 []
def kTs : Tm := .mk 8 0 [kTa, kTb]
def kT2 : Tm := .mk 0 2 []
def kTm : Tm := .mk 12 0 [kTs, kT2]
def kSt : St := .mk 1 0 0 0 kTm [] [] []
def kF38 : Fl := ⟨[⟨⟨#[115]⟩, 1, 0, 3, 0⟩, ⟨⟨#[114]⟩, 3, 0, 1, 0⟩], [], [kSt]⟩
theorem zh6 : xi kF38 [] false = 0 := by decide +kernel
theorem ziJ : mxO kF38 [] false = [[1, 1], [1, 1], [1, 1], [1, 1]] := by decide +kernel
theorem ziK : (zi8 kF38 [] false).length = 2 := by decide +kernel
theorem zfz {T out : Mx} (h1 : out.Perm (xz (zu (yg T)))) (h2 : out.Pairwise (fun a b => xp b a <= 0)) : ze2 T = out := (zcQ T).unique ⟨h1, h2⟩
theorem ziL : zgL [[1, 1], [1, 1], [1, 1], [1, 1]] = [[1], [1], [1], [1]] := by
 rw [kh (by decide +kernel), zfz (out := [[1, 1, 1, 1]]) (by decide +kernel) (by decide +kernel)]
 decide +kernel
theorem ziM : zgL [[2, 1, 0], [0, 0, 3]] = [[1, 0], [0, 1]] := by
 rw [kh (by decide +kernel), zfz (out := [[1, 0], [0, 1]]) (by decide +kernel) (by decide +kernel)]
 decide +kernel
theorem ziN : VMx [[0, 2], [2, 0], [0, 2]] := by decide +kernel
theorem ziO : zfG [[0, 2], [2, 0], [0, 2]] := by decide +kernel
theorem zj6 : yp (zbd [[0, 2], [2, 0], [0, 2]]) = [0, 1, 0] := by decide +kernel
theorem qt {D : Nat -> Prop} {w : World} {b : Nat} {e : TypeId} {l : List Int} (h : Blk w b (l.map zd) e) (hD : D b) (hl : l.length <= 9223372036854775807) : SlR 1 zt D w (.slice (some ⟨b, 0, none⟩) l.length l.length) l :=
 zkw zd (fun _ _ => rfl) h hD (by rw [List.take_of_length_le (by simp)]) rfl (znC _) hl
theorem zfA {D : Nat -> Prop} {w : World} {b : Nat} {e : TypeId} {rows : List (Value × List Int)} (h : Blk w b (rows.map (·.1)) e) (hD : D b) (hr : ∀ r ∈ rows, SlR 1 zt D w r.1 r.2) (hl : rows.length <= 9223372036854775807) : SlR 1 (RSl 1 zt) D w (.slice (some ⟨b, 0, none⟩) rows.length rows.length) (rows.map (·.2)) :=
 zkv h hD (by rw [znx]) (by rw [znx]; exact znC _) hl (fun i x hx => by
  rw [znu] at hx
  obtain ⟨r, hr1, rfl⟩ := Option.map_eq_some_iff.1 hx
  refine ⟨[r.1], rfl, fun j u hu => ?_, _, rfl, hr r (zne hr1)⟩
  cases j with
  | zero => rw [Nat.mul_one, Nat.add_zero, znu, hr1]; exact hu
  | succ j => simp at hu)
theorem kOne {D : Nat -> Prop} {w : World} {s : St} {b : Nat} {cs : List Value} {t : TypeId} (hB : Blk w b cs t) (hD : D b) (hl : cs.length = 10) (h : RSt D w s cs) : SlR 10 RSt D w (.slice (some ⟨b, 0, none⟩) 1 1) [s] :=
 zkv hB hD rfl (znC _) (by decide) (fun i x hx => by
  cases i with
  | zero => simp at hx; subst hx; exact ⟨cs, hl, fun j u hu => by simpa using hu, h⟩
  | succ i => simp at hx)
theorem zh7 {D : Nat -> Prop} {w : World} {b : Nat} {e : TypeId} {s t : Tm} {u v : Value} {o1 n1 o2 n2 : Int} (h : Blk w b [.int .i64 o1, .int .i64 n1, u, .int .i64 o2, .int .i64 n2, v] e) (hD : D b) (hs : RTm D w s [.int .i64 o1, .int .i64 n1, u]) (ht : RTm D w t [.int .i64 o2, .int .i64 n2, v]) : SlR 3 RTm D w (.slice (some ⟨b, 0, none⟩) 2 2) [s, t] :=
 zkv h hD rfl (znC _) (by decide) fun i x hx => by
  match i, hx with
  | 0, hx => cases hx; exact ⟨[.int .i64 o1, .int .i64 n1, u], rfl, fun j u hu => by
    match j, hu with
    | 0, hu => exact hu
    | 1, hu => exact hu
    | 2, hu => exact hu
    | j + 3, hu => simp at hu, hs⟩
  | 1, hx => cases hx; exact ⟨[.int .i64 o2, .int .i64 n2, v], rfl, fun j u hu => by
    match j, hu with
    | 0, hu => exact hu
    | 1, hu => exact hu
    | 2, hu => exact hu
    | j + 3, hu => simp at hu, ht⟩
  | i + 2, hx => simp at hx
theorem ziP {D : Nat -> Prop} {w : World} {b14 b18 b21 b24 : Nat} {t14 t18 t21 t24 : TypeId} (d14 : D b14) (d18 : D b18) (d21 : D b21) (d24 : D b24) (h14 : Blk w b14 [.int .i64 24, .int .i64 0, .slice none 0 0, .int .i64 24, .int .i64 1, .slice none 0 0] t14) (h18 : Blk w b18 [.string ⟨#[115]⟩, .int .i64 1, .int .i64 0, .int .i64 3, .int .i64 0, .string ⟨#[114]⟩, .int .i64 3, .int .i64 0, .int .i64 1, .int .i64 0] t18)
  (h21 : Blk w b21 [.int .i64 8, .int .i64 0, .slice (some ⟨b14, 0, none⟩) 2 2, .int .i64 0, .int .i64 2, .slice none 0 0] t21) (h24 : Blk w b24 [.int .i64 1, .int .i64 0, .int .i64 0, .int .i64 0, .int .i64 12, .int .i64 0, .slice (some ⟨b21, 0, none⟩) 2 2, .slice none 0 0, .slice none 0 0, .slice none 0 0] t24) : RFl D w kF38 (.slice (some ⟨b18, 0, none⟩) 2 2) (.slice none 0 0) (.slice (some ⟨b24, 0, none⟩) 1 1) := by
 have k14 : SlR 3 RTm D w (.slice (some ⟨b14, 0, none⟩) 2 2) [kTa, kTb] := zh7 h14 d14 (RTm.put (t := kTa) SlR.nil) (RTm.put (t := kTb) SlR.nil)
 have k21 : SlR 3 RTm D w (.slice (some ⟨b21, 0, none⟩) 2 2) [kTs, kT2] := zh7 h21 d21 (RTm.put (t := kTs) k14) (RTm.put (t := kT2) SlR.nil)
 have k24 := kOne h24 d24 rfl (RSt.put (s := kSt) (v1 := .slice (some ⟨b21, 0, none⟩) 2 2) k21 SlR.nil SlR.nil SlR.nil)
 have k18 : SlR 5 RVr D w (.slice (some ⟨b18, 0, none⟩) 2 2) kF38.vars := zkv h18 d18 rfl (znC _) (by decide) (fun i x hx => by
  match i, hx with
  | 0, hx => cases hx; exact ⟨[.string ⟨#[115]⟩, .int .i64 1, .int .i64 0, .int .i64 3, .int .i64 0], rfl, fun j u hu => by
    match j, hu with
    | 0, hu => exact hu
    | 1, hu => exact hu
    | 2, hu => exact hu
    | 3, hu => exact hu
    | 4, hu => exact hu
    | j + 5, hu => simp at hu, rfl⟩
  | 1, hx => cases hx; exact ⟨[.string ⟨#[114]⟩, .int .i64 3, .int .i64 0, .int .i64 1, .int .i64 0], rfl, fun j u hu => by
    match j, hu with
    | 0, hu => exact hu
    | 1, hu => exact hu
    | 2, hu => exact hu
    | 3, hu => exact hu
    | 4, hu => exact hu
    | j + 5, hu => simp at hu, rfl⟩
  | i + 2, hx => simp [kF38] at hx)
 exact ⟨k18, SlR.nil, k24⟩
theorem zfB (n : Int) (W : World) : Calls Tryz.prog 50 #[.int .i64 n] W (Ret fun r w' => r = .agg #[.int .i64 24, .int .i64 n, .slice none 0 0] /\ Ext W w') := by
 refine zlt Tryz.func50 O Tryz.ntmps50 O (zlE ?_)
 refine Vs 2 O ?_
 refine V.alloc 2 tz86 O O (fun b2 => ?_)
 refine Vs 5 O ?_
 refine zm9 [Value.int IntKind.i64 0, Value.int IntKind.i64 0, Value.slice none 0 0] [(0, 1), (1, 1), (2, 1)] [(0, _), (1, _)] O O (fun _ => by kernel_rfl) ?_
 refine Vs 4 O ?_
 refine zjP Tryz.results50 tg86 ts86 O O O (fun w hI => ⟨_, rfl, rfl, hI.k0⟩)
theorem zdZ (W : World) (ht : Tab W) : Calls Tryz.prog 12 #[] W (Ret fun r w' => r = .bool true /\ Ext W w') := by
 refine G.in0 Tryz.func12 O Tryz.ntmps12 (zlE ?_)
 refine Vs 13 O ?_
 refine zmg Tryz.call50 O (fun w hI => zfB 0 w) ?_
 refine Vs 1 O ?_
 refine zmg Tryz.call50 O (fun w hI => zfB 1 w) ?_
 refine zm6 14 [(0, _), (1, _)] tR84 ts86 tz86 (by decide) O O (by kernel_rfl) (fun b14 => ?_)
 refine zm9 [Value.int IntKind.i64 0, Value.int IntKind.i64 0, Value.slice none 0 0] [(0, 1), (1, 1), (2, 1)] [(0, _), (2, _)] O O (fun _ => by kernel_rfl) ?_
 refine V.alloc 2 tz86 O O (fun b2 => ?_)
 refine Vs 5 O ?_
 refine zm9 [Value.string { data := #[] }, Value.int IntKind.i64 0, Value.int IntKind.i64 0, Value.int IntKind.i64 0, Value.int IntKind.i64 0] [(0, 1), (1, 1), (2, 1), (3, 1), (4, 1)] [(0, _), (1, _), (3, _)] O O (fun _ => by kernel_rfl) ?_
 refine zm9 [Value.string { data := #[] }, Value.int IntKind.i64 0, Value.int IntKind.i64 0, Value.int IntKind.i64 0, Value.int IntKind.i64 0] [(0, 1), (1, 1), (2, 1), (3, 1), (4, 1)] [(0, _), (1, _), (3, _)] O O (fun _ => by kernel_rfl) ?_
 refine zm6 18 [(0, _), (1, _)] tR22 ts89 tz89 (by decide) O O (by kernel_rfl) (fun b18 => ?_)
 refine Vs 1 O ?_
 refine zm9 [Value.int IntKind.i64 0, Value.int IntKind.i64 0, Value.slice none 0 0] [(0, 1), (1, 1), (2, 1)] [(1, _)] O O (fun _ => by kernel_rfl) ?_
 refine zm6 21 [(0, _), (1, _)] tR84 ts86 tz86 (by decide) O O (by kernel_rfl) (fun b21 => ?_)
 refine zm9 [Value.int IntKind.i64 0, Value.int IntKind.i64 0, Value.slice none 0 0] [(0, 1), (1, 1), (2, 1)] [(0, _), (2, _)] O O (fun _ => by kernel_rfl) ?_
 refine zm9 [Value.int IntKind.i64 0, Value.int IntKind.i64 0, Value.int IntKind.i64 0, Value.int IntKind.i64 0, Value.int IntKind.i64 0, Value.int IntKind.i64 0, Value.slice none 0 0, Value.slice none 0 0, Value.slice none 0 0, Value.slice none 0 0] [(0, 1), (1, 1), (2, 1), (3, 1), (4, 3), (7, 1), (8, 1), (9, 1)] [(0, _), (4, _)] O O (fun _ => by kernel_rfl) ?_
 refine zm6 24 [(0, _)] tR24 ts92 tz92 (by decide) O O (by kernel_rfl) (fun b24 => ?_)
 refine zm9 [Value.slice none 0 0, Value.slice none 0 0, Value.slice none 0 0] [(0, 1), (1, 1), (2, 1)] [(0, _), (2, _)] O O (fun _ => by kernel_rfl) ?_
 refine V.alloc 3 Tryz.zeroValue26 O O (fun b3 => ?_)
 refine Vs 6 O ?_
 refine zm9 [Value.slice none 0 0, Value.bool false] [(0, 1), (1, 1)] [] O O (fun _ => by kernel_rfl) ?_
 refine zlV Tryz.call15 O (fun w hI => zi3 kF38 (by decide +kernel) (by decide +kernel) [] false _ _ _ _ (fun _ => True) (fun _ => True) w (ziP trivial trivial trivial trivial (hI.at 14 O) (hI.at 18 O) (hI.at 21 O) (hI.at 24 O)) SlR.nil (Tr1 hI.k0 ht)) ?_
 rintro r1 w1 w2 hI1 hk12 ⟨u, lu, rfl, hu0, hu1⟩ hlow
 obtain ⟨hm, ho⟩ := hu1 zh6
 rw [ziJ] at hm
 obtain ⟨au, cu, rfl⟩ := hm.form
 obtain ⟨al, cl, hlu⟩ := ho.form
 rw [ziK] at hlu
 subst hlu
 refine Vs 4 O ?_
 refine V.alloc 4 tz36 O O (fun b4 => ?_)
 refine Vs 7 O ?_
 refine zm6 33 [(0, _), (1, _), (2, _)] tR27 ts3 tz3 (by decide) O O (by kernel_rfl) (fun b33 => ?_)
 refine zm6 34 [(0, _), (1, _), (2, _)] tR27 ts3 tz3 (by decide) O O (by kernel_rfl) (fun b34 => ?_)
 refine zm6 35 [(0, _), (1, _)] tR34 ts27 tz27 (by decide) O O (by kernel_rfl) (fun b35 => ?_)
 refine zm9 [Value.slice none 0 0] [(0, 1)] [(0, _)] O O (fun _ => by kernel_rfl) ?_
 refine zlV Tryz.call17 O (fun w hI => zdr [[2, 1, 0], [0, 0, 3]] _ (fun _ => True) w (zfA (rows := [(.slice (some ⟨b33, 0, none⟩) 3 3, [2, 1, 0]), (.slice (some ⟨b34, 0, none⟩) 3 3, [0, 0, 3])]) (hI.at 35 O) trivial (fun r hr => by simp only [znt, List.not_mem_nil, or_false] at hr; rcases hr with rfl | rfl; (· exact qt (l := [2, 1, 0]) (hI.at 33 O) trivial (by decide)); (· exact qt (l := [0, 0, 3]) (hI.at 34 O) trivial (by decide))) (by simp)) (Tr1 hI.k1 ht)) ?_
 rintro r2 w3 w4 hI3 hk34 ⟨u2, rfl, h2⟩ hlow2
 rw [ziM] at h2
 obtain ⟨a2, c2, rfl⟩ := h2.form
 refine V.alloc 7 tz36 O O (fun b7 => ?_)
 refine Vs 5 O ?_
 refine zm6 39 [(0, _), (1, _)] tR27 ts3 tz3 (by decide) O O (by kernel_rfl) (fun b39 => ?_)
 refine zm6 40 [(0, _), (1, _)] tR27 ts3 tz3 (by decide) O O (by kernel_rfl) (fun b40 => ?_)
 refine zm6 41 [(0, _), (1, _)] tR27 ts3 tz3 (by decide) O O (by kernel_rfl) (fun b41 => ?_)
 refine zm6 42 [(0, _), (1, _), (2, _)] tR34 ts27 tz27 (by decide) O O (by kernel_rfl) (fun b42 => ?_)
 refine zm9 [Value.slice none 0 0] [(0, 1)] [(0, _)] O O (fun _ => by kernel_rfl) ?_
 refine zlV Tryz.call29 O (fun w hI => zft [[0, 2], [2, 0], [0, 2]] _ (fun _ => True) w (zfA (rows := [(.slice (some ⟨b39, 0, none⟩) 2 2, [0, 2]), (.slice (some ⟨b40, 0, none⟩) 2 2, [2, 0]), (.slice (some ⟨b41, 0, none⟩) 2 2, [0, 2])]) (hI.at 42 O) trivial (fun r hr => by simp only [znt, List.not_mem_nil, or_false] at hr; rcases hr with rfl | rfl | rfl; (· exact qt (l := [0, 2]) (hI.at 39 O) trivial (by decide)); (· exact qt (l := [2, 0]) (hI.at 40 O) trivial (by decide)); (· exact qt (l := [0, 2]) (hI.at 41 O) trivial (by decide))) (by simp))) ?_
 rintro r3 w5 w6 hI5 hk56 ⟨u3, rfl, h3, _⟩ hlow3
 have h3 := h3 ⟨ziN, ziO⟩
 rw [zj6] at h3
 obtain ⟨a3, c3, rfl⟩ := h3.form
 rw [znn (znA ziN), znn (znA ziO)]
 refine Vs 12 O ?_
 refine zlh 49 O (fun k0 => ?_) (fun k0 => ?_)
 ·
  refine Vs 5 O ?_
  refine zlh 54 O (fun k1 => ?_) (fun k1 => ?_)
  ·
   refine Vs 1 O ?_
   refine zm6 56 [(0, _), (1, _)] tR27 ts3 tz3 (by decide) O O (by kernel_rfl) (fun b56 => ?_)
   refine zm6 57 [(0, _), (1, _)] tR27 ts3 tz3 (by decide) O O (by kernel_rfl) (fun b57 => ?_)
   refine zm6 58 [(0, _), (1, _)] tR27 ts3 tz3 (by decide) O O (by kernel_rfl) (fun b58 => ?_)
   refine zm6 59 [(0, _), (1, _)] tR27 ts3 tz3 (by decide) O O (by kernel_rfl) (fun b59 => ?_)
   refine zm6 60 [(0, _), (1, _), (2, _), (3, _)] tR34 ts27 tz27 (by decide) O O (by kernel_rfl) (fun b60 => ?_)
   refine zm9 [Value.slice none 0 0] [(0, 1)] [(0, _)] O O (fun _ => by kernel_rfl) ?_
   refine zlT Tryz.call18 O (fun w hI => jF [[1, 1], [1, 1], [1, 1], [1, 1]] [[1, 1], [1, 1], [1, 1], [1, 1]] _ _ _ (fun _ => True) w (hm.keep (yD za) hI.k2 (fun b hb _ hs => by have := hlow b hs; omega)) (zfA (rows := [(.slice (some ⟨b56, 0, none⟩) 2 2, [1, 1]), (.slice (some ⟨b57, 0, none⟩) 2 2, [1, 1]), (.slice (some ⟨b58, 0, none⟩) 2 2, [1, 1]), (.slice (some ⟨b59, 0, none⟩) 2 2, [1, 1])]) (hI.at 60 O) trivial (fun r hr => by simp only [znt, List.not_mem_nil, or_false] at hr; rcases hr with rfl | rfl | rfl | rfl; (· exact qt (l := [1, 1]) (hI.at 56 O) trivial (by decide)); (· exact qt (l := [1, 1]) (hI.at 57 O) trivial (by decide)); (· exact qt (l := [1, 1]) (hI.at 58 O) trivial (by decide)); (· exact qt (l := [1, 1]) (hI.at 59 O) trivial (by decide))) (by simp))) ?_
   refine Vs 2 O ?_
   refine zlh 64 O (fun k2 => ?_) (fun k2 => ?_)
   ·
    refine Vs 1 O ?_
    refine zlV Tryz.call17 O (fun w hI => zdr [[1, 1], [1, 1], [1, 1], [1, 1]] _ _ w (hm.keep (yD za) hI.k2 (fun b hb _ hs => by have := hlow b hs; omega)) (Tr1 hI.k3 ht)) ?_
    rintro r4 w7 w8 hI7 hk78 ⟨u4, rfl, h4⟩ hlow4
    rw [ziL] at h4
    obtain ⟨a4, c4, rfl⟩ := h4.form
    refine zm6 67 [(0, _)] tR27 ts3 tz3 (by decide) O O (by kernel_rfl) (fun b67 => ?_)
    refine zm6 68 [(0, _)] tR27 ts3 tz3 (by decide) O O (by kernel_rfl) (fun b68 => ?_)
    refine zm6 69 [(0, _)] tR27 ts3 tz3 (by decide) O O (by kernel_rfl) (fun b69 => ?_)
    refine zm6 70 [(0, _)] tR27 ts3 tz3 (by decide) O O (by kernel_rfl) (fun b70 => ?_)
    refine zm6 71 [(0, _), (1, _), (2, _), (3, _)] tR34 ts27 tz27 (by decide) O O (by kernel_rfl) (fun b71 => ?_)
    refine zm9 [Value.slice none 0 0] [(0, 1)] [(0, _)] O O (fun _ => by kernel_rfl) ?_
    refine zlT Tryz.call18 O (fun w hI => jF [[1], [1], [1], [1]] [[1], [1], [1], [1]] _ _ _ (fun _ => True) w (h4.keep (yD za) hI.k0 (fun b hb _ hs => by have := hlow4 b hs; omega)) (zfA (rows := [(.slice (some ⟨b67, 0, none⟩) 1 1, [1]), (.slice (some ⟨b68, 0, none⟩) 1 1, [1]), (.slice (some ⟨b69, 0, none⟩) 1 1, [1]), (.slice (some ⟨b70, 0, none⟩) 1 1, [1])]) (hI.at 71 O) trivial (fun r hr => by simp only [znt, List.not_mem_nil, or_false] at hr; rcases hr with rfl | rfl | rfl | rfl; (· exact qt (l := [1]) (hI.at 67 O) trivial (by decide)); (· exact qt (l := [1]) (hI.at 68 O) trivial (by decide)); (· exact qt (l := [1]) (hI.at 69 O) trivial (by decide)); (· exact qt (l := [1]) (hI.at 70 O) trivial (by decide))) (by simp))) ?_
    refine Vs 2 O ?_
    refine zlh 75 O (fun k3 => ?_) (fun k3 => ?_)
    ·
     refine Vs 1 O ?_
     refine zm6 77 [(0, _), (1, _)] tR27 ts3 tz3 (by decide) O O (by kernel_rfl) (fun b77 => ?_)
     refine zm6 78 [(0, _), (1, _)] tR27 ts3 tz3 (by decide) O O (by kernel_rfl) (fun b78 => ?_)
     refine zm6 79 [(0, _), (1, _)] tR34 ts27 tz27 (by decide) O O (by kernel_rfl) (fun b79 => ?_)
     refine zm9 [Value.slice none 0 0] [(0, 1)] [(0, _)] O O (fun _ => by kernel_rfl) ?_
     refine zlT Tryz.call18 O (fun w hI => jF [[1, 0], [0, 1]] [[1, 0], [0, 1]] _ _ _ (fun _ => True) w (h2.keep (yD za) hI.k2 (fun b hb _ hs => by have := hlow2 b hs; omega)) (zfA (rows := [(.slice (some ⟨b77, 0, none⟩) 2 2, [1, 0]), (.slice (some ⟨b78, 0, none⟩) 2 2, [0, 1])]) (hI.at 79 O) trivial (fun r hr => by simp only [znt, List.not_mem_nil, or_false] at hr; rcases hr with rfl | rfl; (· exact qt (l := [1, 0]) (hI.at 77 O) trivial (by decide)); (· exact qt (l := [0, 1]) (hI.at 78 O) trivial (by decide))) (by simp))) ?_
     refine Vs 2 O ?_
     refine zlh 83 O (fun k4 => ?_) (fun k4 => ?_)
     ·
      refine Vs 4 O ?_
      refine zlh 87 O (fun k5 => ?_) (fun k5 => ?_)
      ·
       refine Vs 1 O ?_
       refine zm6 89 [(0, _), (1, _), (2, _)] tR27 ts3 tz3 (by decide) O O (by kernel_rfl) (fun b89 => ?_)
       refine zlT Tryz.call27 O (fun w hI => zdt [0, 1, 0] [0, 1, 0] _ _ _ (fun _ => True) w (h3.keep za hI.k1 (fun b hb _ hs => by have := hlow3 b hs; omega)) (qt (l := [0, 1, 0]) (hI.at 89 O) trivial (by decide))) ?_
       refine Vs 5 O ?_
       refine zjH Tryz.results12 O (fun w hI => ⟨_, rfl, rfl, hI.k4⟩)
      . exact absurd O k5
     . exact absurd O k4
    . exact absurd O k3
   . exact absurd O k2
  . exact absurd O k1
 . exact absurd zh6 k0
end Go.Proofs.YtaenledoagbddaaGreatDoor
