/-
  Contracts and the mathematics that the proof needs. Nothing here is a claim.
-/
import Derived.Test.YtldhllpogdikdaaGreatKQ1
namespace Go.Proofs
open Go.GL
def Tryz.szs : Szs := [(3, 0), (97, 2), (50, 0), (26, 3), (24, 0), (84, 3), (29, 0), (86, 10), (31, 1), (243, 2), (82, 0), (22, 0), (91, 2), (58, 3), (38, 0), (121, 0), (40, 4), (80, 0), (125, 5), (70, 0), (4, 0), (23, 0), (52, 3), (64, 2), (109, 6), (81, 0), (9, 0), (231, 0), (89, 0), (134, 0), (160, 3), (135, 0), (167, 0), (180, 0), (136, 0), (162, 0)]
theorem Tryz.szsOk : Szs.Ok Tryz.prog Tryz.szs :=
 Szs.ok_cons (show Szs.one _ 3 0 from ⟨Tryz.isAgg3, Tryz.sizeOf3⟩) <|
 Szs.ok_cons (show Szs.one _ 97 2 from ⟨Tryz.isAgg97, Tryz.sizeOf97⟩) <|
 Szs.ok_cons (show Szs.one _ 50 0 from ⟨Tryz.isAgg50, Tryz.sizeOf50⟩) <|
 Szs.ok_cons (show Szs.one _ 26 3 from ⟨Tryz.isAgg26, Tryz.sizeOf26⟩) <|
 Szs.ok_cons (show Szs.one _ 24 0 from ⟨Tryz.isAgg24, Tryz.sizeOf24⟩) <|
 Szs.ok_cons (show Szs.one _ 84 3 from ⟨Tryz.isAgg84, Tryz.sizeOf84⟩) <|
 Szs.ok_cons (show Szs.one _ 29 0 from ⟨Tryz.isAgg29, Tryz.sizeOf29⟩) <|
 Szs.ok_cons (show Szs.one _ 86 10 from ⟨Tryz.isAgg86, Tryz.sizeOf86⟩) <|
 Szs.ok_cons (show Szs.one _ 31 1 from ⟨Tryz.isAgg31, Tryz.sizeOf31⟩) <|
 Szs.ok_cons (show Szs.one _ 243 2 from ⟨Tryz.isAgg243, Tryz.sizeOf243⟩) <|
 Szs.ok_cons (show Szs.one _ 82 0 from ⟨Tryz.isAgg82, Tryz.sizeOf82⟩) <|
 Szs.ok_cons (show Szs.one _ 22 0 from ⟨Tryz.isAgg22, Tryz.sizeOf22⟩) <|
 Szs.ok_cons (show Szs.one _ 91 2 from ⟨Tryz.isAgg91, Tryz.sizeOf91⟩) <|
 Szs.ok_cons (show Szs.one _ 58 3 from ⟨Tryz.isAgg58, Tryz.sizeOf58⟩) <|
 Szs.ok_cons (show Szs.one _ 38 0 from ⟨Tryz.isAgg38, Tryz.sizeOf38⟩) <|
 Szs.ok_cons (show Szs.one _ 121 0 from ⟨Tryz.isAgg121, Tryz.sizeOf121⟩) <|
 Szs.ok_cons (show Szs.one _ 40 4 from ⟨Tryz.isAgg40, Tryz.sizeOf40⟩) <|
 Szs.ok_cons (show Szs.one _ 80 0 from ⟨Tryz.isAgg80, Tryz.sizeOf80⟩) <|
 Szs.ok_cons (show Szs.one _ 125 5 from ⟨Tryz.isAgg125, Tryz.sizeOf125⟩) <|
 Szs.ok_cons (show Szs.one _ 70 0 from ⟨Tryz.isAgg70, Tryz.sizeOf70⟩) <|
 Szs.ok_cons (show Szs.one _ 4 0 from ⟨Tryz.isAgg4, Tryz.sizeOf4⟩) <|
 Szs.ok_cons (show Szs.one _ 23 0 from ⟨Tryz.isAgg23, Tryz.sizeOf23⟩) <|
 Szs.ok_cons (show Szs.one _ 52 3 from ⟨Tryz.isAgg52, Tryz.sizeOf52⟩) <|
 Szs.ok_cons (show Szs.one _ 64 2 from ⟨Tryz.isAgg64, Tryz.sizeOf64⟩) <|
 Szs.ok_cons (show Szs.one _ 109 6 from ⟨Tryz.isAgg109, Tryz.sizeOf109⟩) <|
 Szs.ok_cons (show Szs.one _ 81 0 from ⟨Tryz.isAgg81, Tryz.sizeOf81⟩) <|
 Szs.ok_cons (show Szs.one _ 9 0 from ⟨Tryz.isAgg9, Tryz.sizeOf9⟩) <|
 Szs.ok_cons (show Szs.one _ 231 0 from ⟨Tryz.isAgg231, Tryz.sizeOf231⟩) <|
 Szs.ok_cons (show Szs.one _ 89 0 from ⟨Tryz.isAgg89, Tryz.sizeOf89⟩) <|
 Szs.ok_cons (show Szs.one _ 134 0 from ⟨Tryz.isAgg134, Tryz.sizeOf134⟩) <|
 Szs.ok_cons (show Szs.one _ 160 3 from ⟨Tryz.isAgg160, Tryz.sizeOf160⟩) <|
 Szs.ok_cons (show Szs.one _ 135 0 from ⟨Tryz.isAgg135, Tryz.sizeOf135⟩) <|
 Szs.ok_cons (show Szs.one _ 167 0 from ⟨Tryz.isAgg167, Tryz.sizeOf167⟩) <|
 Szs.ok_cons (show Szs.one _ 180 0 from ⟨Tryz.isAgg180, Tryz.sizeOf180⟩) <|
 Szs.ok_cons (show Szs.one _ 136 0 from ⟨Tryz.isAgg136, Tryz.sizeOf136⟩) <|
 Szs.ok_cons (show Szs.one _ 162 0 from ⟨Tryz.isAgg162, Tryz.sizeOf162⟩) <|
 Szs.ok_nil
end Go.Proofs
namespace Go.Proofs.YtldhllpogdikdaaGreat
open Go.GL
section
variable {n : Nat} {Q : Exit → Act → World → Prop} {ks ks' : List Fr} {pos pos' : Pos} {env env' : Env} {A A' : Tgs} {H H' Hs : Hp} {Bs B0 : Bases} {ops : Array Oper} {L : List Nat} {fuel : Nat} {listed : Array Bool} {v : Value}
theorem Vs (k : Nat) (h : stepV Tryz.tab Tryz.szs n k none ks pos env A H = some (none, ks', pos', env', A', H')) (hr : V Tryz.prog n Q ks' pos' env' A' H' Bs) : V Tryz.prog n Q ks pos env A H Bs := V.go Tryz.tabOk Tryz.szsOk k h hr
theorem Va (k : Nat) {p : Prop} (h : stepV Tryz.tab Tryz.szs n k none ks pos env A H = some (some p, ks', pos', env', A', H')) (hp : p) (hr : V Tryz.prog n Q ks' pos' env' A' H' Bs) : V Tryz.prog n Q ks pos env A H Bs := V.goA Tryz.tabOk Tryz.szsOk k h hp hr
theorem Vq {id : Nat} {l : List Oper} (hB : Region.lexB .any l.toArray = true) (h : V Tryz.prog n Q ks (.q l.toArray l) env A H Bs) : V Tryz.prog n Q ks (.c (.region id l.toArray true)) env A H Bs := V.quiet Tryz.mixed hB h
theorem Vw {id : Nat} {l : List Oper} (hs L : List Nat) (hp : pickH H hs = some Hs) (h : VD Tryz.prog n Q ks l.toArray Hs Bs L l.length (Array.replicate l.length false) env A H Bs) : V Tryz.prog n Q ks (.c (.region id l.toArray true)) env A H Bs := V.drawK hs L Tryz.mixed hp h
theorem Vd (is : List Nat) (j : Nat) (hc : dchkV ops L is listed = true) (hB : Bs.drop j = B0) (hv : dpvV Tryz.tab Tryz.szs n ops Hs is none env A = some (none, env', A')) (hH0 : uniq (Hs.map (·.1)) = true) (h : VD Tryz.prog n Q ks ops Hs B0 L fuel (dset is listed) env' A' H Bs) : VD Tryz.prog n Q ks ops Hs B0 L (addN is fuel) listed env A H Bs := VD.ps Tryz.tabOk Tryz.szsOk is j hc hB hv hH0 h
end
end Go.Proofs.YtldhllpogdikdaaGreat
namespace Go.Proofs
theorem Tryz.el3 : (Tryz.prog.info? 3).map (fun i => (i.zero, i.size, i.bytes)) = some (some ((Value.int IntKind.i64 0)), 1, 8) := by kernel_rfl
theorem Tryz.el40 : (Tryz.prog.info? 40).map (fun i => (i.zero, i.size, i.bytes)) = some (some ((Value.agg #[Value.int IntKind.i64 0, Value.int IntKind.i64 0, Value.int IntKind.i64 0, Value.int IntKind.i64 0])), 4, 32) := by kernel_rfl
theorem Tryz.el50 : (Tryz.prog.info? 50).map (fun i => (i.zero, i.size, i.bytes)) = some (some ((Value.slice none 0 0)), 1, 24) := by kernel_rfl
theorem Tryz.el86 : (Tryz.prog.info? 86).map (fun i => (i.zero, i.size, i.bytes)) = some (some ((Value.agg #[Value.int IntKind.i64 0, Value.int IntKind.i64 0, Value.int IntKind.i64 0, Value.int IntKind.i64 0, Value.int IntKind.i64 0, Value.int IntKind.i64 0, Value.slice none 0 0, Value.slice none 0 0, Value.slice none 0 0, Value.slice none 0 0])), 10, 144) := by kernel_rfl
theorem Tryz.el97 : (Tryz.prog.info? 97).map (fun i => (i.zero, i.size, i.bytes)) = some (some ((Value.agg #[Value.int IntKind.i64 0, Value.int IntKind.i64 0])), 2, 16) := by kernel_rfl
theorem Tryz.el125 : (Tryz.prog.info? 125).map (fun i => (i.zero, i.size, i.bytes)) = some (some ((Value.agg #[Value.string { data := #[] }, Value.int IntKind.i64 0, Value.int IntKind.i64 0, Value.int IntKind.i64 0, Value.int IntKind.i64 0])), 5, 48) := by kernel_rfl
theorem Tryz.el135 : (Tryz.prog.info? 135).map (fun i => (i.zero, i.size, i.bytes)) = some (some ((Value.map none)), 1, 8) := by kernel_rfl
theorem Tryz.el167 : (Tryz.prog.info? 167).map (fun i => (i.zero, i.size, i.bytes)) = some (some (Value.nilFunc), 1, 8) := by kernel_rfl
theorem Tryz.el243 : (Tryz.prog.info? 243).map (fun i => (i.zero, i.size, i.bytes)) = some (some ((Value.agg #[Value.int IntKind.i64 0, Value.int IntKind.i64 0])), 2, 16) := by kernel_rfl
end Go.Proofs
namespace Go.GL
mutual
def Tm.nodes : Tm → Nat
 | .mk _ _ ks => 1 + tnodes ks
def tnodes : List Tm → Nat
 | [] => 0
 | k :: r => k.nodes + tnodes r
end
mutual
def Tm.depth : Tm → Nat
 | .mk _ _ ks => tdepth ks + 1
def tdepth : List Tm → Nat
 | [] => 0
 | k :: r => max k.depth (tdepth r)
end
mutual
def St.nodes : St → Nat
 | .mk _ _ _ _ t f g _ => 1 + t.nodes + snodes f + snodes g
def snodes : List St → Nat
 | [] => 0
 | s :: r => s.nodes + snodes r
end
mutual
def St.bulk : St → Nat
 | .mk _ _ _ _ t f g b => 1 + t.nodes + b.length + sbulk f + sbulk g
def sbulk : List St → Nat
 | [] => 0
 | s :: r => s.bulk + sbulk r
end
mutual
def St.size : St → Nat
 | .mk _ _ _ _ _ f g _ => 1 + ssize f + ssize g
def ssize : List St → Nat
 | [] => 0
 | s :: r => s.size + ssize r
end
mutual
def St.depth : St → Nat
 | .mk _ _ _ _ _ f g _ => max (sdepth f + 1) (sdepth g + 1)
def sdepth : List St → Nat
 | [] => 0
 | s :: r => max s.depth (sdepth r)
end
mutual
/-- Some term of a step is nested too deep. -/
def St.tdeep : St → Bool
 | .mk _ _ _ _ t f g _ => decide (12 < t.depth) || stdeep f || stdeep g
def stdeep : List St → Bool
 | [] => false
 | s :: r => s.tdeep || stdeep r
end
theorem Tm.nodes_eq (t : Tm) : t.nodes = 1 + tnodes t.kids := by cases t; rfl
theorem Tm.depth_eq (t : Tm) : t.depth = tdepth t.kids + 1 := by cases t; rfl
theorem St.nodes_eq (s : St) : s.nodes = 1 + s.term.nodes + snodes s.thn + snodes s.els := by cases s; rfl
theorem St.bulk_eq (s : St) : s.bulk = 1 + s.term.nodes + s.bounds.length + sbulk s.thn + sbulk s.els := by cases s; rfl
theorem St.size_eq (s : St) : s.size = 1 + ssize s.thn + ssize s.els := by cases s; rfl
theorem St.depth_eq (s : St) : s.depth = max (sdepth s.thn + 1) (sdepth s.els + 1) := by cases s; rfl
theorem St.tdeep_eq (s : St) : s.tdeep = (decide (12 < s.term.depth) || stdeep s.thn || stdeep s.els) := by cases s; rfl
theorem tnodes_append (a b : List Tm) : tnodes (a ++ b) = tnodes a + tnodes b := by
 induction a with
 | nil => simp [tnodes]
 | cons x r ih => simp [tnodes, ih, Nat.add_assoc]
theorem tdepth_append (a b : List Tm) : tdepth (a ++ b) = max (tdepth a) (tdepth b) := by
 induction a with
 | nil => simp [tdepth]
 | cons x r ih => simp [tdepth, ih, Nat.max_assoc]
theorem snodes_append (a b : List St) : snodes (a ++ b) = snodes a + snodes b := by
 induction a with
 | nil => simp [snodes]
 | cons x r ih => simp [snodes, ih, Nat.add_assoc]
theorem sbulk_append (a b : List St) : sbulk (a ++ b) = sbulk a + sbulk b := by
 induction a with
 | nil => simp [sbulk]
 | cons x r ih => simp [sbulk, ih, Nat.add_assoc]
theorem ssize_append (a b : List St) : ssize (a ++ b) = ssize a + ssize b := by
 induction a with
 | nil => simp [ssize]
 | cons x r ih => simp [ssize, ih, Nat.add_assoc]
theorem sdepth_append (a b : List St) : sdepth (a ++ b) = max (sdepth a) (sdepth b) := by
 induction a with
 | nil => simp [sdepth]
 | cons x r ih => simp [sdepth, ih, Nat.max_assoc]
theorem stdeep_append (a b : List St) : stdeep (a ++ b) = (stdeep a || stdeep b) := by
 induction a with
 | nil => simp [stdeep]
 | cons x r ih => simp [stdeep, ih, Bool.or_assoc]
theorem take_get {α : Type} {l : List α} {i : Nat} {x : α} (h : l[i]? = some x) : l.take (i + 1) = l.take i ++ [x] := by
 rw [List.take_add_one, h]; rfl
theorem tnodes_take {l : List Tm} {i : Nat} {x : Tm} (h : l[i]? = some x) : tnodes (l.take (i + 1)) = tnodes (l.take i) + x.nodes := by rw [take_get h, tnodes_append]; simp [tnodes]
theorem tdepth_take {l : List Tm} {i : Nat} {x : Tm} (h : l[i]? = some x) : tdepth (l.take (i + 1)) = max (tdepth (l.take i)) x.depth := by rw [take_get h, tdepth_append]; simp [tdepth]
theorem snodes_take {l : List St} {i : Nat} {x : St} (h : l[i]? = some x) : snodes (l.take (i + 1)) = snodes (l.take i) + x.nodes := by rw [take_get h, snodes_append]; simp [snodes]
theorem ssize_take {l : List St} {i : Nat} {x : St} (h : l[i]? = some x) : ssize (l.take (i + 1)) = ssize (l.take i) + x.size := by rw [take_get h, ssize_append]; simp [ssize]
theorem sdepth_take {l : List St} {i : Nat} {x : St} (h : l[i]? = some x) : sdepth (l.take (i + 1)) = max (sdepth (l.take i)) x.depth := by rw [take_get h, sdepth_append]; simp [sdepth]
theorem stdeep_take {l : List St} {i : Nat} {x : St} (h : l[i]? = some x) : stdeep (l.take (i + 1)) = (stdeep (l.take i) || x.tdeep) := by rw [take_get h, stdeep_append]; simp [stdeep]
theorem split_get {α : Type} {l : List α} {i : Nat} {x : α} (h : l[i]? = some x) : l = l.take i ++ x :: l.drop (i + 1) := by
 obtain ⟨h1, h2⟩ := List.getElem?_eq_some_iff.1 h
 rw [← h2, List.getElem_cons_drop, List.take_append_drop]
theorem sbulk_mem {l : List St} {x : St} (h : x ∈ l) : x.bulk ≤ sbulk l := by
 obtain ⟨i, hi⟩ := List.mem_iff_getElem?.1 h
 rw [split_get hi, sbulk_append]; simp [sbulk]; omega
theorem tnodes_split {l : List Tm} {i : Nat} {x : Tm} (h : l[i]? = some x) : tnodes l = tnodes (l.take i) + x.nodes + tnodes (l.drop (i + 1)) := by
 conv => lhs; rw [split_get h]
 rw [tnodes_append]; simp [tnodes, Nat.add_assoc]
theorem snodes_split {l : List St} {i : Nat} {x : St} (h : l[i]? = some x) : snodes l = snodes (l.take i) + x.nodes + snodes (l.drop (i + 1)) := by
 conv => lhs; rw [split_get h]
 rw [snodes_append]; simp [snodes, Nat.add_assoc]
theorem ssize_split {l : List St} {i : Nat} {x : St} (h : l[i]? = some x) : ssize l = ssize (l.take i) + x.size + ssize (l.drop (i + 1)) := by
 conv => lhs; rw [split_get h]
 rw [ssize_append]; simp [ssize, Nat.add_assoc]
theorem tlen_le (l : List Tm) : l.length ≤ tnodes l := by
 induction l with
 | nil => simp
 | cons x r ih => have := x.nodes_eq; simp [tnodes]; omega
theorem slen_le (l : List St) : l.length ≤ snodes l := by
 induction l with
 | nil => simp
 | cons x r ih => have := x.nodes_eq; simp [snodes]; omega
theorem ssize_snodes : ∀ l : List St, ssize l ≤ snodes l := by
 intro l
 induction l using Sts.ind with
 | h l ih =>
  have key : ∀ r : List St, (∀ s ∈ r, ssize s.thn ≤ snodes s.thn ∧ ssize s.els ≤ snodes s.els) → ssize r ≤ snodes r := by
   intro r
   induction r with
   | nil => intro _; simp [ssize]
   | cons x r ih2 =>
    intro h
    have h1 := h x (List.mem_cons_self ..)
    have h2 := ih2 (fun s hs => h s (List.mem_cons_of_mem _ hs))
    have h3 := x.nodes_eq
    have h4 := x.size_eq
    simp only [snodes, ssize]; omega
  exact key l ih
theorem slen_ssize (l : List St) : l.length ≤ ssize l := by
 induction l with
 | nil => simp
 | cons x r ih => have := x.size_eq; simp [ssize]; omega
def hnodes : List Ht → Nat
 | [] => 0
 | h :: r => h.term.nodes + hnodes r
theorem hnodes_append (a b : List Ht) : hnodes (a ++ b) = hnodes a + hnodes b := by
 induction a with
 | nil => simp [hnodes]
 | cons x r ih => simp [hnodes, ih, Nat.add_assoc]
theorem hnodes_take {l : List Ht} {i : Nat} {x : Ht} (h : l[i]? = some x) : hnodes (l.take (i + 1)) = hnodes (l.take i) + x.term.nodes := by rw [take_get h, hnodes_append]; simp [hnodes]
theorem hnodes_split {l : List Ht} {i : Nat} {x : Ht} (h : l[i]? = some x) : hnodes l = hnodes (l.take i) + x.term.nodes + hnodes (l.drop (i + 1)) := by
 conv => lhs; rw [split_get h]
 rw [hnodes_append]; simp [hnodes, Nat.add_assoc]
def few (f : Fl) (vars nodes : Nat) : Bool := decide (f.vars.length ≤ vars ∧ f.hatches.length ≤ vars ∧ sbulk f.body + hnodes f.hatches ≤ nodes)
end Go.GL
namespace Go.Proofs.YtldhllpogdikdaaGreat
open Go.GL
theorem flatSize_ok (l : List St) : ∀ (v : Value) (D : Nat → Prop) (w : World), SlR 10 RSt D w v l → ssize l ≤ 1000000 → Calls Tryz.prog 119 #[v] w (Ret fun r w' => r = .int .i64 (ssize l) ∧ Ext w w') := by
 induction l using Sts.ind with
 | h l ih =>
 intro v D w hl hsz
 have hlen := slen_ssize l
 obtain ⟨ao, cap, rfl⟩ := hl.form
 refine G.in1 Tryz.func119 rfl Tryz.ntmps119 rfl (Gs 21 rfl (G.loop (σ := Nat) (fun i => [(3, .int .i64 ((l.length : Int) + ssize (l.take i) - i)), (8, .slice ao l.length cap), (9, .int .i64 l.length), (10, .int .i64 i)]) (fun i => fun w' => i ≤ l.length ∧ Ext w w') (fun i => l.length - i) (0) (Sub.of rfl) (⟨Nat.zero_le _, Keep.refl _ _⟩) ?_))
 rintro i w1 ⟨hi, hL1⟩
 replace hl := Tr1 hL1 hl
 refine Gs 6 rfl (G.ite rfl (fun hlt => ?_) (fun hge => ?_))
 ·
  obtain ⟨s, he_s⟩ : ∃ x, l[i]? = some x := ⟨_, List.getElem?_eq_getElem (by omega)⟩
  have hm_s := List.mem_of_getElem? he_s
  obtain ⟨b_s, o_s, c_s, ha_s, _, hc_s, hR_s⟩ := hl.at he_s
  have h1_s := RSt.one hR_s
  obtain ⟨v1_s, v2_s, v3_s, v4_s, rfl, hk_s, ht_s, hs_s, hb_s⟩ := hR_s.get
  obtain ⟨a1_s, n1_s, rfl⟩ := hk_s.form
  obtain ⟨a2_s, n2_s, rfl⟩ := ht_s.form
  obtain ⟨a3_s, n3_s, rfl⟩ := hs_s.form
  obtain ⟨a4_s, n4_s, rfl⟩ := hb_s.form
  have hlt_s : b_s < _ := World.block_lt_of_cell? _ _ (hc_s 0 _ rfl)
  have hsp := ssize_split he_s
  have hse := s.size_eq
  have hE := Keep.refl (fun _ => False) w1
  refine Gs 6 rfl (G.ops1 rfl rfl (R.indexS Tryz.runUnderlying24 Tryz.sizeOf86 rfl rfl ha_s (by omega)) (G.ldK rfl Tryz.isAgg86 Tryz.sizeOf86 hc_s rfl (G.mem rfl rfl (M.alloc (cs := _) Tryz.zeroValue86 rfl) ?_)))
  rintro _ wa1 ⟨b, rfl, hg_b, hs_b, hB_b, hk_b⟩
  refine G.mem0 rfl (M.storeK Tryz.sizeOf86 rfl rfl rfl rfl h1_s hB_b (by simp)) ?_
  rintro w_b ⟨_, hB_b, hkk_b⟩
  replace hk_b := hk_b.trans hkk_b (fun q hq h => by have h : q = b := h; omega)
  have hge_b : _ ≤ b := Nat.le_trans hE.size (Nat.le_of_eq hg_b.symm)
  obtain ⟨hl, hL1, hc_s, hk_s, ht_s, hs_s, hb_s⟩ := Tr7 hk_b hl hL1 hc_s hk_s ht_s hs_s hb_s
  replace hE := Tr1 hk_b hE
  refine Gs 2 rfl (Dw (fun q => Ext w_b q) [] (fun wd2 hD _ => ?_))
  refine Ds [0, 1] (by kernel_rfl) rfl (WD.take 2 rfl (by kernel_rfl) rfl rfl rfl hD (fun w1 hw1 => R.load Tryz.isAgg24 rfl ((hw1.blk hB_b (fun h => h)).cells 7 _ rfl)) (Ds [4] (by kernel_rfl) rfl (WD.take 5 rfl (by kernel_rfl) rfl rfl rfl hD (fun w1 hw1 => R.load Tryz.isAgg24 rfl ((hw1.blk hB_b (fun h => h)).cells 8 _ rfl)) (WD.call 3 rfl (by kernel_rfl) rfl rfl rfl (F.call (vs := [_]) Tryz.call119 rfl) ((ih s hm_s).1 _ D _ (ht_s.ext stable_st hD) (by omega)) ?_))))
  rintro _ wz3 ⟨rfl, hz3⟩
  replace hD := hD.ext hz3
  refine ⟨fun _ => hD, ?_⟩
  refine WD.call 6 rfl (by kernel_rfl) rfl rfl rfl (F.call (vs := [_]) Tryz.call119 rfl) ((ih s hm_s).2 _ D _ (hs_s.ext stable_st hD) (by omega)) ?_
  rintro _ wz4 ⟨rfl, hz4⟩
  replace hD := hD.ext hz4
  refine ⟨fun _ => hD, ?_⟩
  refine Da [7, 8, 9] (by kernel_rfl) rfl (by omega) (G.done (by kernel_rfl) ?_ _)
  obtain ⟨hl, hL1, hc_s, hk_s, ht_s, hs_s, hb_s⟩ := Tr7 hD hl hL1 hc_s hk_s ht_s hs_s hb_s
  obtain ⟨hE, hB_b⟩ := Tr2 hD hE hB_b
  refine Ga 6 rfl (by omega) (G.back (i + 1) (Sub.cons (slotI rfl (by rw [ssize_take he_s]; omega)) (Sub.of rfl)) (⟨by omega, hL1⟩) (by first | omega | (dsimp only; omega)))
 ·
  have : i = l.length := by omega
  subst this
  refine Gs 12 rfl (G.ret1 Tryz.results119 rfl ⟨_, rfl, by rw [List.take_length]; congr 1; omega, hL1⟩)
theorem flatSizeF_ok (f : Fl) (v1 v2 v3 : Value) (D : Nat → Prop) (w : World) (h : RFl D w f v1 v2 v3) (hsz : ssize f.body ≤ 1000000) : Calls Tryz.prog 70 #[.agg #[v1, v2, v3]] w (Ret fun r w' => r = .int .i64 (ssize f.body) ∧ Ext w w') := by
 have hE := Keep.refl (fun _ => False) w
 refine G.in1 Tryz.func70 rfl Tryz.ntmps70 rfl (Gs 2 rfl (G.mem rfl rfl (M.box rfl rfl) ?_))
 rintro _ w_b ⟨b, rfl, hg_b, hs_b, hB_b, hk_b⟩
 have hge_b : _ ≤ b := Nat.le_trans hE.size (Nat.le_of_eq hg_b.symm)
 obtain ⟨hE, h⟩ := Tr2 hk_b hE h
 refine Gs 6 rfl (G.ld rfl Tryz.isAgg24 (hB_b.cells 2 _ rfl) (G.call rfl Tryz.call119 (flatSize_ok f.body _ D _ h.body hsz) ?_))
 rintro _ wz1 ⟨rfl, hz1⟩
 obtain ⟨hE, h, hB_b⟩ := Tr3 hz1 hE h hB_b
 refine Gs 4 rfl (G.ret1 Tryz.results70 rfl ⟨_, rfl, rfl, hE⟩)
def clampI (n low high : Int) : Int := if n < low then low else if high < n then high else n
theorem flatFlag_ok (p : Bool) (w : World) : Calls Tryz.prog 222 #[.bool p] w (Ret fun r w' => r = .int .i64 (if p then 1 else 0) ∧ Ext w w') := by
 refine G.in1 Tryz.func222 rfl Tryz.ntmps222 rfl (Gs 11 rfl (G.bool rfl (fun h => ?_) (fun h => ?_)))
 · refine Gs 7 rfl (G.ret1 Tryz.results222 rfl ⟨_, rfl, by rw [h]; rfl, Keep.refl _ _⟩)
 · refine Gs 8 rfl (G.ret1 Tryz.results222 rfl ⟨_, rfl, by rw [h]; rfl, Keep.refl _ _⟩)
theorem flatClamp_ok (a b c : Int) (w : World) (hbc : b ≤ c) : Calls Tryz.prog 223 #[.int .i64 a, .int .i64 b, .int .i64 c] w (Ret fun r w' => r = .int .i64 (clampI a b c) ∧ Ext w w') := by
 refine G.in3 Tryz.func223 rfl Tryz.ntmps223 rfl (Gs 16 rfl (G.ret1 Tryz.results223 rfl ⟨_, rfl, ?_, Keep.refl _ _⟩))
 congr 1
 unfold clampI
 split
 · omega
 · split <;> omega
end Go.Proofs.YtldhllpogdikdaaGreat
namespace Go.GL
theorem Nd.eq4 {a b : Nd} (h1 : a.kind = b.kind) (h2 : a.at_ = b.at_) (h3 : a.next = b.next) (h4 : a.other = b.other) : a = b := by
 cases a; cases b; simp_all
mutual
/-- The number of nodes of a step. -/
def St.wid : St → Nat
 | .mk a _ _ _ _ f g _ => 1 + widL f + widL g + (if a = 4 then 1 else 0)
def widL : List St → Nat
 | [] => 0
 | s :: r => s.wid + widL r
end
theorem St.wid_eq (s : St) : s.wid = 1 + widL s.thn + widL s.els + (if s.act = 4 then 1 else 0) := by cases s; rfl
theorem widL_append (a b : List St) : widL (a ++ b) = widL a + widL b := by
 induction a with
 | nil => simp [widL]
 | cons x r ih => simp [widL, ih, Nat.add_assoc]
theorem widL_take {l : List St} {i : Nat} {x : St} (h : l[i]? = some x) : widL (l.take (i + 1)) = widL (l.take i) + x.wid := by rw [take_get h, widL_append]; simp [widL]
theorem widL_split {l : List St} {i : Nat} {x : St} (h : l[i]? = some x) : widL l = widL (l.take i) + x.wid + widL (l.drop (i + 1)) := by
 conv => lhs; rw [split_get h]
 rw [widL_append]; simp [widL, Nat.add_assoc]
theorem widL_le : ∀ l : List St, widL l ≤ 2 * ssize l := by
 intro l
 induction l using Sts.ind with
 | h l ih =>
  have key : ∀ r : List St, (∀ s ∈ r, widL s.thn ≤ 2 * ssize s.thn ∧ widL s.els ≤ 2 * ssize s.els) → widL r ≤ 2 * ssize r := by
   intro r
   induction r with
   | nil => intro _; simp [widL]
   | cons x r ih2 =>
    intro h
    have h1 := h x (List.mem_cons_self ..)
    have h2 := ih2 (fun s hs => h s (List.mem_cons_of_mem _ hs))
    have h3 := x.wid_eq
    have h4 := x.size_eq
    have h5 : (if x.act = 4 then 1 else 0) ≤ 1 := by split <;> omega
    simp only [widL, ssize]; omega
  exact key l ih
mutual
def St.lay : St → Nat → Nat → Nat → List Nd
 | .mk a _ _ _ _ f g _, at_, node, e =>
  if a = 3 then ⟨3, at_, if f.isEmpty then e else (node + 1 : Nat), if g.isEmpty then e else (node + 1 + widL f : Nat)⟩ :: (layL f (at_ + 1) (node + 1) e ++ layL g (at_ + 1 + ssize f) (node + 1 + widL f) e)
  else if a = 4 then ⟨4, at_, (node + 1 : Nat), -1⟩ :: ⟨5, at_, if f.isEmpty then (node + 1 : Nat) else (node + 2 : Nat), e⟩ :: layL f (at_ + 1) (node + 2) (node + 1)
  else [⟨2, at_, e, -1⟩]
def layL : List St → Nat → Nat → Nat → List Nd
 | [], _, _, _ => []
 | s :: r, at_, node, after => s.lay at_ node (if r.isEmpty then after else node + s.wid) ++ layL r (at_ + s.size) (node + s.wid) after
end
theorem St.lay_eq (s : St) (at_ node e : Nat) : s.lay at_ node e =
  if s.act = 3 then ⟨3, at_, if s.thn.isEmpty then e else (node + 1 : Nat), if s.els.isEmpty then e else (node + 1 + widL s.thn : Nat)⟩ :: (layL s.thn (at_ + 1) (node + 1) e ++ layL s.els (at_ + 1 + ssize s.thn) (node + 1 + widL s.thn) e)
  else if s.act = 4 then ⟨4, at_, (node + 1 : Nat), -1⟩ :: ⟨5, at_, if s.thn.isEmpty then (node + 1 : Nat) else (node + 2 : Nat), e⟩ :: layL s.thn (at_ + 1) (node + 2) (node + 1)
  else [⟨2, at_, e, -1⟩] := by cases s; rw [St.lay]; rfl
def cfgN (f : Fl) : List Nd := ⟨0, -1, 1, -1⟩ :: (layL f.body 0 1 (1 + widL f.body) ++ [⟨1, -1, -1, -1⟩])
abbrev Hang := Nat × Bool
def setE (ns : List Nd) (to : Int) (e : Hang) : List Nd := ns.modify e.1 fun x => if e.2 then { x with other := to } else { x with next := to }
def setAll (ns : List Nd) (to : Int) (es : List Hang) : List Nd := es.foldl (fun ns e => setE ns to e) ns
structure Bd where
 nodes : List Nd
 step : Nat
mutual
def St.one : St → Nat → Bd → Bd × List Hang
 | .mk a _ _ _ _ f g _, at_, b =>
  if a = 3 then
   let x := listB f { nodes := b.nodes ++ [⟨3, b.step, -1, -1⟩], step := b.step + 1 } [(at_, false)]
   let y := listB g x.1 [(at_, true)]
   (y.1, x.2 ++ y.2)
  else if a = 4 then
   let x := listB f { nodes := setE (b.nodes ++ [⟨4, b.step, -1, -1⟩, ⟨5, b.step, -1, -1⟩]) (at_ + 1 : Nat) (at_, false), step := b.step + 1 } [(at_ + 1, false)]
   ({ x.1 with nodes := setAll x.1.nodes (at_ + 1 : Nat) x.2 }, [(at_ + 1, true)])
  else ({ nodes := b.nodes ++ [⟨2, b.step, -1, -1⟩], step := b.step + 1 }, [(at_, false)])
def listB : List St → Bd → List Hang → Bd × List Hang
 | [], b, ins => (b, ins)
 | s :: r, b, ins =>
  let x := s.one b.nodes.length { b with nodes := setAll b.nodes b.nodes.length ins }
  listB r x.1 x.2
end
theorem St.one_eq (s : St) (at_ : Nat) (b : Bd) : s.one at_ b =
  if s.act = 3 then
   ((listB s.els (listB s.thn { nodes := b.nodes ++ [⟨3, b.step, -1, -1⟩], step := b.step + 1 } [(at_, false)]).1 [(at_, true)]).1,
    (listB s.thn { nodes := b.nodes ++ [⟨3, b.step, -1, -1⟩], step := b.step + 1 } [(at_, false)]).2 ++ (listB s.els (listB s.thn { nodes := b.nodes ++ [⟨3, b.step, -1, -1⟩], step := b.step + 1 } [(at_, false)]).1 [(at_, true)]).2)
  else if s.act = 4 then
   ({ (listB s.thn { nodes := setE (b.nodes ++ [⟨4, b.step, -1, -1⟩, ⟨5, b.step, -1, -1⟩]) (at_ + 1 : Nat) (at_, false), step := b.step + 1 } [(at_ + 1, false)]).1 with
    nodes := setAll (listB s.thn { nodes := setE (b.nodes ++ [⟨4, b.step, -1, -1⟩, ⟨5, b.step, -1, -1⟩]) (at_ + 1 : Nat) (at_, false), step := b.step + 1 } [(at_ + 1, false)]).1.nodes (at_ + 1 : Nat)
     (listB s.thn { nodes := setE (b.nodes ++ [⟨4, b.step, -1, -1⟩, ⟨5, b.step, -1, -1⟩]) (at_ + 1 : Nat) (at_, false), step := b.step + 1 } [(at_ + 1, false)]).2 }, [(at_ + 1, true)])
  else ({ nodes := b.nodes ++ [⟨2, b.step, -1, -1⟩], step := b.step + 1 }, [(at_, false)]) := by cases s; rw [St.one]; rfl
theorem listB_cons (s : St) (r : List St) (b : Bd) (ins : List Hang) : listB (s :: r) b ins = listB r (s.one b.nodes.length { b with nodes := setAll b.nodes b.nodes.length ins }).1 (s.one b.nodes.length { b with nodes := setAll b.nodes b.nodes.length ins }).2 := by rw [listB]
def buildB (f : Fl) : List Nd :=
 setAll (listB f.body { nodes := [⟨0, -1, -1, -1⟩], step := 0 } [(0, false)]).1.nodes ((listB f.body { nodes := [⟨0, -1, -1, -1⟩], step := 0 } [(0, false)]).1.nodes.length : Nat) (listB f.body { nodes := [⟨0, -1, -1, -1⟩], step := 0 } [(0, false)]).2 ++ [⟨1, -1, -1, -1⟩]
theorem setE_len (ns : List Nd) (to : Int) (e : Hang) : (setE ns to e).length = ns.length := by simp [setE]
theorem setAll_len (es : List Hang) : ∀ (ns : List Nd) (to : Int), (setAll ns to es).length = ns.length := by
 induction es with
 | nil => intro ns to; rfl
 | cons e r ih => intro ns to; rw [setAll, List.foldl_cons, ← setAll, ih, setE_len]
theorem setAll_cons (e : Hang) (r : List Hang) (ns : List Nd) (to : Int) : setAll ns to (e :: r) = setAll (setE ns to e) to r := rfl
theorem setAll_append (a b : List Hang) (ns : List Nd) (to : Int) : setAll ns to (a ++ b) = setAll (setAll ns to a) to b := by simp [setAll, List.foldl_append]
theorem setE_comm (ns : List Nd) (to to' : Int) (e e' : Hang) (h : to = to' ∨ e ≠ e') : setE (setE ns to e) to' e' = setE (setE ns to' e') to e := by
 apply List.ext_getElem?
 intro i
 simp only [setE, List.getElem?_modify]
 obtain ⟨a, p⟩ := e
 obtain ⟨a', p'⟩ := e'
 dsimp only
 by_cases h1 : a = i <;> by_cases h2 : a' = i <;> simp only [h1, h2, if_true, if_false] <;> cases ns[i]? <;> simp
 rename_i x
 cases p <;> cases p' <;> simp
 ·
  rcases h with h | h
  · exact h.symm
  · exact absurd (by rw [h1, h2]) h
 ·
  rcases h with h | h
  · exact h.symm
  · exact absurd (by rw [h1, h2]) h
theorem setAll_setE (es : List Hang) : ∀ (ns : List Nd) (to to' : Int) (e : Hang), (to = to' ∨ e ∉ es) → setAll (setE ns to' e) to es = setE (setAll ns to es) to' e := by
 induction es with
 | nil => intro ns to to' e _; rfl
 | cons x r ih =>
  intro ns to to' e h
  rw [setAll_cons, setAll_cons, ← ih _ _ _ _ (h.imp id (fun h hm => h (List.mem_cons_of_mem _ hm)))]
  congr 1
  exact setE_comm _ _ _ _ _ (h.imp (fun h => h.symm) (fun h he => h (by rw [he]; exact List.mem_cons_self ..)))
theorem setAll_comm (es es' : List Hang) (ns : List Nd) (to : Int) : setAll (setAll ns to es) to es' = setAll (setAll ns to es') to es := by
 induction es generalizing ns with
 | nil => rfl
 | cons e r ih =>
  rw [setAll_cons, ih, setAll_cons, setAll_setE _ _ _ _ _ (.inl rfl)]
theorem setE_left {ns ms : List Nd} {to : Int} {e : Hang} (h : e.1 < ns.length) : setE (ns ++ ms) to e = setE ns to e ++ ms := by
 apply List.ext_getElem?
 intro i
 simp only [setE, List.getElem?_modify]
 by_cases h1 : i < ns.length
 · rw [List.getElem?_append_left h1, List.getElem?_append_left (by simpa using h1), List.getElem?_modify]
 ·
  rw [List.getElem?_append_right (by omega), List.getElem?_append_right (by simp; omega)]
  simp [show ¬ e.1 = i by omega]
theorem setAll_left {es : List Hang} : ∀ {ns ms : List Nd} {to : Int}, (∀ e ∈ es, e.1 < ns.length) → setAll (ns ++ ms) to es = setAll ns to es ++ ms := by
 induction es with
 | nil => intro ns ms to _; rfl
 | cons e r ih =>
  intro ns ms to h
  rw [setAll_cons, setAll_cons, setE_left (h e (List.mem_cons_self ..)), ih (fun x hx => by rw [setE_len]; exact h x (List.mem_cons_of_mem _ hx))]
theorem setE_last {ns : List Nd} {x : Nd} {to : Int} {p : Bool} {k : Nat} (hk : k = ns.length) : setE (ns ++ [x]) to (k, p) = ns ++ [if p then { x with other := to } else { x with next := to }] := by
 subst hk
 apply List.ext_getElem?
 intro i
 simp only [setE, List.getElem?_modify]
 by_cases h1 : i < ns.length
 · rw [List.getElem?_append_left h1, List.getElem?_append_left h1]; simp [show ¬ ns.length = i by omega]
 ·
  rw [List.getElem?_append_right (by omega), List.getElem?_append_right (by omega)]
  by_cases h2 : i = ns.length
  · subst h2; simp
  · rw [List.getElem?_eq_none (by simp; omega), List.getElem?_eq_none (by simp; omega)]; simp
theorem setE_mid {ns ms : List Nd} {x : Nd} {to : Int} {p : Bool} {k : Nat} (hk : k = ns.length) : setE (ns ++ x :: ms) to (k, p) = ns ++ (if p then { x with other := to } else { x with next := to }) :: ms := by
 have := setE_left (ns := ns ++ [x]) (ms := ms) (to := to) (e := (k, p)) (by simp; omega)
 rw [List.append_assoc, List.singleton_append, setE_last hk] at this
 simpa using this
mutual
def St.plainB : St → Bool
 | .mk a _ _ _ _ f g _ => (if a = 3 then true else if a = 4 then g.isEmpty else f.isEmpty && g.isEmpty) && plainL f && plainL g
def plainL : List St → Bool
 | [] => true
 | s :: r => s.plainB && plainL r
end
theorem St.plainB_eq (s : St) : s.plainB = ((if s.act = 3 then true else if s.act = 4 then s.els.isEmpty else s.thn.isEmpty && s.els.isEmpty) && plainL s.thn && plainL s.els) := by cases s; rw [St.plainB]; rfl
theorem plainL_mem {l : List St} (h : plainL l = true) : ∀ s ∈ l, s.plainB = true := by
 induction l with
 | nil => intro s hs; simp at hs
 | cons x r ih =>
  intro s hs
  rw [plainL, Bool.and_eq_true] at h
  rcases List.mem_cons.1 hs with rfl | hs
  · exact h.1
  · exact ih h.2 s hs
theorem plainL_of {l : List St} (h : ∀ s ∈ l, s.plainB = true) : plainL l = true := by
 induction l with
 | nil => rfl
 | cons x r ih => rw [plainL, h x (List.mem_cons_self ..), ih (fun s hs => h s (List.mem_cons_of_mem _ hs))]; rfl
structure BOk (l : List St) (b : Bd) (ins : List Hang) (c : Bd) (outs : List Hang) : Prop where
 len : c.nodes.length = b.nodes.length + widL l
 step : c.step = b.step + ssize l
 out : ∀ e ∈ outs, e ∈ ins ∨ b.nodes.length ≤ e.1
 lt : ∀ e ∈ outs, e.1 < c.nodes.length
 lay : ∀ after : Nat, setAll c.nodes after outs = setAll b.nodes (if l.isEmpty then after else b.nodes.length : Nat) ins ++ layL l b.step b.nodes.length after
structure OOk (s : St) (b : Bd) (c : Bd) (outs : List Hang) : Prop where
 len : c.nodes.length = b.nodes.length + s.wid
 step : c.step = b.step + s.size
 out : ∀ e ∈ outs, b.nodes.length ≤ e.1
 lt : ∀ e ∈ outs, e.1 < c.nodes.length
 lay : ∀ after : Nat, setAll c.nodes after outs = b.nodes ++ s.lay b.step b.nodes.length after
theorem one_built (s : St) (hp : s.plainB = true) (h1 : ∀ (b : Bd) (ins : List Hang), (∀ e ∈ ins, e.1 < b.nodes.length) → BOk s.thn b ins (listB s.thn b ins).1 (listB s.thn b ins).2)
  (h2 : ∀ (b : Bd) (ins : List Hang), (∀ e ∈ ins, e.1 < b.nodes.length) → BOk s.els b ins (listB s.els b ins).1 (listB s.els b ins).2) (b : Bd) : OOk s b (s.one b.nodes.length b).1 (s.one b.nodes.length b).2 := by
 rw [s.plainB_eq, Bool.and_eq_true, Bool.and_eq_true] at hp
 have hw := s.wid_eq
 have hz := s.size_eq
 rw [s.one_eq]
 by_cases a3 : s.act = 3
 ·
  rw [if_neg (show ¬ s.act = 4 by omega)] at hw
  simp only [if_pos a3]
  have H1 := h1 { nodes := b.nodes ++ [⟨3, b.step, -1, -1⟩], step := b.step + 1 } [(b.nodes.length, false)] (by simp)
  generalize hx : listB s.thn { nodes := b.nodes ++ [⟨3, b.step, -1, -1⟩], step := b.step + 1 } [(b.nodes.length, false)] = x at H1
  obtain ⟨len1, step1, out1, lt1, lay1⟩ := H1
  simp only [List.length_append, List.length_singleton] at len1 step1 out1 lay1
  have H2 := h2 x.1 [(b.nodes.length, true)] (by simp; omega)
  generalize hy : listB s.els x.1 [(b.nodes.length, true)] = y at H2
  obtain ⟨len2, step2, out2, lt2, lay2⟩ := H2
  refine ⟨by omega, by omega, ?_, ?_, ?_⟩
  ·
   intro e he
   rcases List.mem_append.1 he with he | he
   ·
    rcases out1 e he with h | h
    · rw [List.mem_singleton.1 h]; exact Nat.le_refl _
    · omega
   ·
    rcases out2 e he with h | h
    · rw [List.mem_singleton.1 h]; exact Nat.le_refl _
    · omega
  ·
   intro e he
   rcases List.mem_append.1 he with he | he
   · have := lt1 e he; omega
   · exact lt2 e he
  ·
   intro after
   have hnot : (b.nodes.length, true) ∉ x.2 := by
    intro h
    rcases out1 _ h with h | h
    · simp at h
    · dsimp only at h; omega
   rw [setAll_append, setAll_comm, lay2, setAll_left (by intro e he; rw [setAll_len]; exact lt1 e he)]
   rw [show ∀ (t : Int), setAll x.1.nodes t [(b.nodes.length, true)] = setE x.1.nodes t (b.nodes.length, true) from fun _ => rfl]
   rw [setAll_setE _ _ _ _ _ (.inr hnot), lay1]
   rw [show ∀ (t : Int) (ns : List Nd), setAll ns t [(b.nodes.length, false)] = setE ns t (b.nodes.length, false) from fun _ _ => rfl]
   rw [setE_last rfl, List.append_assoc, List.singleton_append, setE_mid rfl, s.lay_eq, if_pos a3]
   rw [List.append_assoc, List.cons_append, step1, len1]
   simp only [if_true, Bool.false_eq_true, if_false]
   congr 2
   apply Nd.eq4 <;> dsimp only
   · split <;> rfl
   · rw [apply_ite Nat.cast]
 ·
  by_cases a4 : s.act = 4
  ·
   rw [if_pos a4] at hw
   rw [if_neg a3, if_pos a4] at hp
   have he0 : s.els = [] := by simpa using hp.1.1
   rw [he0] at hw hz
   simp only [widL, ssize] at hw hz
   simp only [if_neg a3, if_pos a4]
   have hst : setE (b.nodes ++ [⟨4, b.step, -1, -1⟩, ⟨5, b.step, -1, -1⟩]) (b.nodes.length + 1 : Nat) (b.nodes.length, false) = b.nodes ++ [⟨4, b.step, (b.nodes.length + 1 : Nat), -1⟩, ⟨5, b.step, -1, -1⟩] := by rw [setE_mid rfl]; rfl
   rw [hst]
   have H1 := h1 { nodes := b.nodes ++ [⟨4, b.step, (b.nodes.length + 1 : Nat), -1⟩, ⟨5, b.step, -1, -1⟩], step := b.step + 1 } [(b.nodes.length + 1, false)] (by simp)
   generalize hx : listB s.thn { nodes := b.nodes ++ [⟨4, b.step, (b.nodes.length + 1 : Nat), -1⟩, ⟨5, b.step, -1, -1⟩], step := b.step + 1 } [(b.nodes.length + 1, false)] = x at H1
   obtain ⟨len1, step1, out1, lt1, lay1⟩ := H1
   simp only [List.length_append, List.length_cons, List.length_nil] at len1 step1 out1 lay1
   refine ⟨by rw [setAll_len]; omega, by dsimp only; omega, ?_, ?_, ?_⟩
   ·
    intro e he
    rw [List.mem_singleton.1 he]; dsimp only; omega
   ·
    intro e he
    rw [List.mem_singleton.1 he, setAll_len]; dsimp only; omega
   ·
    intro after
    dsimp only
    rw [lay1]
    simp only [show ∀ (t : Int) (ns : List Nd) (q : Bool), setAll ns t [(b.nodes.length + 1, q)] = setE ns t (b.nodes.length + 1, q) from fun _ _ _ => rfl]
    rw [show ∀ (x y : Nd), b.nodes ++ [x, y] = (b.nodes ++ [x]) ++ [y] from fun x y => by simp]
    rw [setE_last (by simp)]
    rw [List.append_assoc (b.nodes ++ [_]), List.singleton_append, setE_mid (by simp), s.lay_eq, if_neg a3, if_pos a4, List.append_assoc, List.singleton_append]
    simp only [if_true, Bool.false_eq_true, if_false]
    congr 3
    apply Nd.eq4 <;> dsimp only
    rw [apply_ite Nat.cast]
  ·
   rw [if_neg a4] at hw
   rw [if_neg a3, if_neg a4, Bool.and_eq_true, List.isEmpty_iff, List.isEmpty_iff] at hp
   rw [hp.1.1.1, hp.1.1.2] at hw hz
   simp only [widL, ssize] at hw hz
   simp only [if_neg a3, if_neg a4]
   refine ⟨by simp; omega, by dsimp only; omega, ?_, ?_, ?_⟩
   · intro e he; rw [List.mem_singleton.1 he]; exact Nat.le_refl _
   · intro e he; rw [List.mem_singleton.1 he]; simp
   ·
    intro after
    dsimp only
    rw [show ∀ (t : Int) (ns : List Nd), setAll ns t [(b.nodes.length, false)] = setE ns t (b.nodes.length, false) from fun _ _ => rfl]
    rw [setE_last rfl, s.lay_eq, if_neg a3, if_neg a4]
    rfl
theorem list_built (l : List St) : plainL l = true → ∀ (b : Bd) (ins : List Hang), (∀ e ∈ ins, e.1 < b.nodes.length) → BOk l b ins (listB l b ins).1 (listB l b ins).2 := by
 induction l using Sts.ind with
 | h l ih =>
 intro hp
 have key : ∀ r : List St, (∀ x ∈ r, x ∈ l) → ∀ (b : Bd) (ins : List Hang), (∀ e ∈ ins, e.1 < b.nodes.length) → BOk r b ins (listB r b ins).1 (listB r b ins).2 := by
  intro r
  induction r with
  | nil =>
   intro _ b ins hi
   rw [listB]
   exact ⟨by simp [widL], by simp [ssize], fun e he => .inl he, hi, fun after => by simp [layL]⟩
  | cons s r ihr =>
   intro hm b ins hi
   have hs := plainL_mem hp s (hm s (List.mem_cons_self ..))
   have hs2 := hs
   rw [s.plainB_eq, Bool.and_eq_true, Bool.and_eq_true] at hs2
   have H := one_built s hs (fun b ins h => (ih s (hm s (List.mem_cons_self ..))).1 hs2.1.2 b ins h) (fun b ins h => (ih s (hm s (List.mem_cons_self ..))).2 hs2.2 b ins h) { b with nodes := setAll b.nodes b.nodes.length ins }
   rw [listB_cons]
   dsimp only at H
   rw [setAll_len] at H
   generalize s.one b.nodes.length { b with nodes := setAll b.nodes b.nodes.length ins } = x at H
   obtain ⟨len1, step1, out1, lt1, lay1⟩ := H
   simp only [setAll_len] at len1 step1 out1 lt1 lay1
   have H2 := ihr (fun y hy => hm y (List.mem_cons_of_mem _ hy)) x.1 x.2 lt1
   generalize listB r x.1 x.2 = y at H2
   obtain ⟨len2, step2, out2, lt2, lay2⟩ := H2
   refine ⟨by simp only [widL]; omega, by simp only [ssize]; omega, ?_, lt2, ?_⟩
   ·
    intro e he
    rcases out2 e he with h | h
    · exact .inr (out1 e h)
    · exact .inr (by omega)
   ·
    intro after
    rw [lay2, lay1, layL, List.append_assoc, len1, step1]
    simp only [List.isEmpty_cons, Bool.false_eq_true, if_false]
 exact key l (fun x h => h)
theorem build_eq (f : Fl) (hp : plainL f.body = true) : buildB f = cfgN f := by
 have H := list_built f.body hp { nodes := [⟨0, -1, -1, -1⟩], step := 0 } [(0, false)] (by simp)
 unfold buildB cfgN
 generalize listB f.body { nodes := [⟨0, -1, -1, -1⟩], step := 0 } [(0, false)] = x at H ⊢
 obtain ⟨len1, step1, out1, lt1, lay1⟩ := H
 simp only [List.length_singleton] at len1 lay1
 rw [lay1, len1]
 rw [show ∀ (t : Int) (ns : List Nd), setAll ns t [((0 : Nat), false)] = setE ns t (0, false) from fun _ _ => rfl]
 have h1 : ∀ t : Int, setE [⟨0, -1, -1, -1⟩] t (0, false) = [⟨0, -1, t, -1⟩] := fun t => rfl
 rw [h1]
 have h2 : ((if f.body.isEmpty then 1 + widL f.body else 1 : Nat) : Int) = 1 := by
  split
  ·
   rename_i h
   have : f.body = [] := by simpa using h
   rw [this]; rfl
  · rfl
 rw [h2]
 rfl
theorem layL_len (l : List St) : plainL l = true → ∀ at_ node after, (layL l at_ node after).length = widL l := by
 intro hp at_ node after
 have H := list_built l hp { nodes := List.replicate node ⟨0, 0, 0, 0⟩, step := at_ } [] (by simp)
 have h1 := H.lay after
 have h2 := congrArg List.length h1
 rw [setAll_len, H.len] at h2
 simp [setAll] at h2
 exact h2.symm
theorem cfgN_len (f : Fl) (hp : plainL f.body = true) : (cfgN f).length = widL f.body + 2 := by
 simp [cfgN, layL_len _ hp]
structure Nums (ns : List Nd) (a n : Nat) : Prop where
 range : ∀ x ∈ ns, (a : Int) ≤ x.at_ ∧ x.at_ < (a + n : Nat)
 ord : ns.Pairwise fun x y => x.at_ ≤ y.at_
 all : ∀ k, k < n → ∃ x ∈ ns, x.at_ = (a + k : Nat)
theorem Nums.nil (a : Nat) : Nums [] a 0 := ⟨fun x h => by simp at h, List.Pairwise.nil, fun k h => by omega⟩
theorem Nums.append {ns ms : List Nd} {a n b m : Nat} (h : Nums ns a n) (h' : Nums ms b m) (hb : b = a + n) : Nums (ns ++ ms) a (n + m) := by
 subst hb
 refine ⟨fun x hx => ?_, ?_, fun k hk => ?_⟩
 ·
  rcases List.mem_append.1 hx with hx | hx
  · have := h.range x hx; omega
  · have := h'.range x hx; omega
 ·
  rw [List.pairwise_append]
  refine ⟨h.ord, h'.ord, fun x hx y hy => ?_⟩
  have := h.range x hx
  have := h'.range y hy
  omega
 ·
  by_cases hk2 : k < n
  ·
   obtain ⟨x, hx, e⟩ := h.all k hk2
   exact ⟨x, List.mem_append_left _ hx, e⟩
  ·
   obtain ⟨x, hx, e⟩ := h'.all (k - n) (by omega)
   exact ⟨x, List.mem_append_right _ hx, by rw [e]; omega⟩
theorem Nums.cons {ns : List Nd} {a n : Nat} {x : Nd} (h : Nums ns (a + 1) n) (hx : x.at_ = a) : Nums (x :: ns) a (n + 1) := by
 refine ⟨fun y hy => ?_, ?_, fun k hk => ?_⟩
 ·
  rcases List.mem_cons.1 hy with rfl | hy
  · omega
  · have := h.range y hy; omega
 ·
  rw [List.pairwise_cons]
  exact ⟨fun y hy => by have := h.range y hy; omega, h.ord⟩
 ·
  by_cases hk2 : k = 0
  · subst hk2; exact ⟨x, List.mem_cons_self .., hx⟩
  ·
   obtain ⟨y, hy, e⟩ := h.all (k - 1) (by omega)
   exact ⟨y, List.mem_cons_of_mem _ hy, by rw [e]; omega⟩
theorem Nums.again {ns : List Nd} {a n : Nat} {x : Nd} (h : Nums ns a n) (hn : 0 < n) (hx : x.at_ = a) : Nums (x :: ns) a n := by
 refine ⟨fun y hy => ?_, ?_, fun k hk => ?_⟩
 ·
  rcases List.mem_cons.1 hy with rfl | hy
  · omega
  · exact h.range y hy
 ·
  rw [List.pairwise_cons]
  exact ⟨fun y hy => by have := h.range y hy; omega, h.ord⟩
 ·
  obtain ⟨y, hy, e⟩ := h.all k hk
  exact ⟨y, List.mem_cons_of_mem _ hy, e⟩
theorem lay_nums (l : List St) : plainL l = true → ∀ a node after, Nums (layL l a node after) a (ssize l) := by
 induction l using Sts.ind with
 | h l ih =>
 intro hp
 have key : ∀ r : List St, (∀ x ∈ r, x ∈ l) → ∀ a node after, Nums (layL r a node after) a (ssize r) := by
  intro r
  induction r with
  | nil => intro _ a node after; exact Nums.nil a
  | cons s r ihr =>
   intro hm a node after
   have hs := plainL_mem hp s (hm s (List.mem_cons_self ..))
   rw [s.plainB_eq, Bool.and_eq_true, Bool.and_eq_true] at hs
   have h1 := (ih s (hm s (List.mem_cons_self ..))).1 hs.1.2
   have h2 := (ih s (hm s (List.mem_cons_self ..))).2 hs.2
   rw [layL, ssize]
   refine Nums.append ?_ (ihr (fun y hy => hm y (List.mem_cons_of_mem _ hy)) _ _ _) rfl
   generalize (if r.isEmpty = true then after else node + s.wid) = e
   have hz := s.size_eq
   rw [s.lay_eq]
   by_cases a3 : s.act = 3
   ·
    rw [if_pos a3, show s.size = (ssize s.thn + ssize s.els) + 1 by omega]
    exact Nums.cons (Nums.append (h1 _ _ _) (h2 _ _ _) rfl) rfl
   ·
    by_cases a4 : s.act = 4
    ·
     rw [if_neg a3, if_pos a4] at hs
     rw [if_neg a3, if_pos a4]
     have he0 : s.els = [] := by simpa using hs.1.1
     rw [he0] at hz
     simp only [ssize] at hz
     rw [show s.size = ssize s.thn + 1 by omega]
     exact Nums.again (Nums.cons (h1 _ _ _) rfl) (by omega) rfl
    ·
     rw [if_neg a3, if_neg a4, Bool.and_eq_true, List.isEmpty_iff, List.isEmpty_iff] at hs
     rw [if_neg a3, if_neg a4]
     rw [hs.1.1.1, hs.1.1.2] at hz
     simp only [ssize] at hz
     rw [show s.size = 0 + 1 by omega]
     exact Nums.cons (Nums.nil _) rfl
 exact key l (fun x h => h)
def fIdx {α : Type} (p : α → Bool) (l : List α) : Int := match l.findIdx? p with
 | some i => i
 | none => -1
open Go.RowKit
def Wr (p : TypeId → Bool) (W0 : Nat) (w : World) (k : Nat) : Prop := W0 ≤ k ∧ ∀ cs e, Blk w k cs e → p e = true
abbrev KT (p : TypeId → Bool) (W0 : Nat) (w w' : World) : Prop := Keep (Wr p W0 w) w w'
section
variable {p : TypeId → Bool} {W0 : Nat} {w w' w'' : World}
theorem Blk.ty {b : Nat} {cs cs' : List Value} {e e' : TypeId} (h : Blk w b cs e) (h' : Blk w b cs' e') : e = e' ∧ cs = cs' := by
 unfold Blk at h h'
 rw [h] at h'
 injection h' with h'
 injection h' with h1 h2
 exact ⟨h2, List.toArray_inj h1⟩
theorem Blk.ne {a b : Nat} {cs cs' : List Value} {e e' : TypeId} (h : Blk w a cs e) (h' : Blk w b cs' e') (hne : e ≠ e') : a ≠ b := by
 rintro rfl
 exact hne (h.ty h').1
theorem Wr.mk {k : Nat} {cs : List Value} {e : TypeId} (hW : W0 ≤ k) (hb : Blk w k cs e) (hp : p e = true) : Wr p W0 w k := ⟨hW, fun cs' e' h => by rw [← (hb.ty h).1]; exact hp⟩
theorem KT.refl : KT p W0 w w := Keep.refl _ _
theorem KT.trans (h : KT p W0 w w') (h' : KT p W0 w' w'') : KT p W0 w w'' := by
 refine Keep.trans h h' (fun k hk hT => ?_)
 by_cases hS : Wr p W0 w k
 · exact hS
 ·
  exfalso
  apply hS
  refine ⟨hT.1, fun cs e h2 => hT.2 cs e ?_⟩
  unfold Blk at h2 ⊢
  rw [h.block k hk hS]; exact h2
theorem KT.of_ext (h : Ext w w') : KT p W0 w w' := Keep.mono h (fun _ _ h => h.elim)
theorem KT.ext' (h : KT p W0 w w') (h' : Ext w' w'') : KT p W0 w w'' := KT.trans h (KT.of_ext h')
theorem KT.wrote {b : Nat} {cs cs' : List Value} {e : TypeId} (hb : Blk w b cs e) (hp : p e = true) (hW : W0 ≤ b) (h : Wrote w b cs' e w') : KT p W0 w w' :=
 h.2.2.mono (fun k _ (hk : k = b) => by subst hk; exact Wr.mk hW hb hp)
theorem own_blkty {e : TypeId} {k : Nat} {v : Value} {n : Nat} {xs : List Value} (h : w.ownsRow 0 e k v n xs) {g : Nat} (hg : v.ownBlock = some g) : ∃ cs, Blk w g cs e := by
 rcases h.2 with ⟨rfl, _⟩ | ⟨g', cap, cur, rfl, _, h2, _⟩
 · simp [Value.ownBlock] at hg
 ·
  simp [Value.ownBlock] at hg
  subst hg
  exact ⟨cur.toList, by unfold Blk; simpa using h2⟩
theorem KT.row {e : TypeId} {k : Nat} {v : Value} {n : Nat} {xs : List Value} (ho : w.ownsRow 0 e k v n xs) (hp : p e = true) (hW : ∀ g, v.ownBlock = some g → W0 ≤ g) (h : Keep (fun k => v.ownBlock = some k) w w') : KT p W0 w w' :=
 h.mono (fun g _ hg => by obtain ⟨cs, hb⟩ := own_blkty ho hg; exact Wr.mk (hW g hg) hb hp)
theorem KT.new {S : Nat → Prop} (h : KT p W0 w w') (h' : Keep S w' w'') (hS : ∀ k, S k → w.heap.size ≤ k) : KT p W0 w w'' :=
 Keep.trans h h' (fun k hk hT => absurd (hS k hT) (by omega))
theorem KT.mono {q : TypeId → Bool} {W1 : Nat} (h : KT p W0 w w') (hq : ∀ e, p e = true → q e = true) (hW : W1 ≤ W0) : KT q W1 w w' :=
 Keep.mono h (fun k _ ⟨h1, h2⟩ => ⟨by omega, fun cs e hb => hq e (h2 cs e hb)⟩)
theorem KT.fresh (h : KT p W0 w w') (hW : w.heap.size ≤ W0) : Ext w w' := Keep.mono h (fun k hk ⟨h1, _⟩ => by omega)
theorem KT.blk (h : KT p W0 w w') {b : Nat} {cs : List Value} {e : TypeId} (hb : Blk w b cs e) (hp : p e = false) : Blk w' b cs e :=
 Keep.blk h hb (fun ⟨_, h2⟩ => by have := h2 _ _ hb; rw [hp] at this; cases this)
theorem KT.own (h : KT p W0 w w') {e : TypeId} {k : Nat} {v : Value} {n : Nat} {xs : List Value} (ho : w.ownsRow 0 e k v n xs) (hp : p e = false) : w'.ownsRow 0 e k v n xs :=
 own_keep ho h (fun g hg ⟨_, h2⟩ => by obtain ⟨cs, hb⟩ := own_blkty ho hg; have := h2 _ _ hb; rw [hp] at this; cases this)
theorem KT.sl (h : KT p W0 w w') {α : Type} {k : Nat} {R : Rel α} (hs : Stable R) {D : Nat → Prop} {v : Value} {l : List α} (hl : SlR k R D w v l) (hD : ∀ q, D q → q < W0) : SlR k R D w' v l :=
 hl.keep hs h (fun q hq _ ⟨h1, _⟩ => by have := hD q hq; omega)
abbrev Above (B : Nat) (w w' : World) : Prop := Keep (fun k => B ≤ k) w w'
theorem Above.of_ext {B : Nat} (h : Ext w w') : Above B w w' := Keep.mono h (fun _ _ h => h.elim)
theorem Above.then {B : Nat} (h : Above B w w') (h' : Above B w' w'') : Above B w w'' := Keep.trans h h' (fun _ _ h => h)
theorem Above.ext' {B : Nat} (h : Above B w w') (h' : Ext w' w'') : Above B w w'' := Keep.ext h h'
theorem Above.of_keep {B : Nat} {S : Nat → Prop} (h : Keep S w w') (hS : ∀ k, S k → B ≤ k) : Above B w w' := Keep.mono h (fun k _ hk => hS k hk)
theorem Above.sl {B : Nat} (h : Above B w w') {α : Type} {k : Nat} {R : Rel α} (hs : Stable R) {D : Nat → Prop} {v : Value} {l : List α} (hl : SlR k R D w v l) (hD : ∀ q, D q → q < B) : SlR k R D w' v l :=
 hl.keep hs h (fun q hq _ (h1 : B ≤ q) => by have := hD q hq; omega)
theorem Above.fresh {B : Nat} (h : Above B w w') (hB : w.heap.size ≤ B) : Ext w w' := Keep.mono h (fun k hk (h1 : B ≤ k) => by omega)
end
structure Item where
 i : Nat
 o : Oper
 d : Nat
 R : World → Value → World → Prop
def anyOrder (ops : Array Oper) (L3 : Array Bool) : Nat → List Nat → Array Bool → Bool
 | 0, is, listed => is.isEmpty && (listed == L3)
 | k + 1, is, listed => !(Region.ready .any ops listed).isEmpty && (Region.ready .any ops listed).all (fun j => is.contains j && anyOrder ops L3 k (is.filter (fun x => x != j)) (listed.setIfInBounds j true))
def Apart (R : World → Value → World → Prop) (v : Value) (R' : World → Value → World → Prop) (u : Value) : Prop :=
 (∃ a a' c c', R a v a' ∧ R' c u c' ∧ Ext a' c) ∨ (∃ a a' c c', R a v a' ∧ R' c u c' ∧ Ext c' a)
theorem nodup_inj {α : Type} {f : α → Nat} : ∀ {l : List α}, (l.map f).Nodup → ∀ {x y : α}, x ∈ l → y ∈ l → f x = f y → x = y
 | [], _, _, _, hx, _, _ => by simp at hx
 | z :: r, h, x, y, hx, hy, e => by
  rw [List.map_cons, List.nodup_cons] at h
  rcases List.mem_cons.1 hx with h1 | h1
  ·
   rcases List.mem_cons.1 hy with h2 | h2
   · rw [h1, h2]
   · exact absurd (List.mem_map.2 ⟨y, h2, by rw [← e, h1]⟩) h.1
  ·
   rcases List.mem_cons.1 hy with h2 | h2
   · exact absurd (List.mem_map.2 ⟨x, h1, by rw [e, h2]⟩) h.1
   · exact nodup_inj h.2 h1 h2 e
theorem get_items {env : Env} {val : Nat → Value} : ∀ (I : List Item) (m : Nat) (v : Value), get (I.map (fun x => (x.d, val x.d)) ++ env) m = some v → (∃ x ∈ I, x.d = m ∧ v = val m) ∨ get env m = some v
 | [], m, v, h => .inr h
 | x :: r, m, v, h => by
  rw [List.map_cons, List.cons_append] at h
  simp only [GL.get] at h
  cases hb : Nat.beq x.d m with
  | true =>
   rw [hb] at h
   have e := Nat.eq_of_beq_eq_true hb
   exact .inl ⟨x, List.mem_cons_self .., e, by rw [← e]; exact (Option.some.inj h).symm⟩
  | false =>
   rw [hb] at h
   rcases get_items r m v h with ⟨y, hy, h1, h2⟩ | h1
   · exact .inl ⟨y, List.mem_cons_of_mem _ hy, h1, h2⟩
   · exact .inr h1
section
variable {P : Program} {n : Nat} {ops : Array Oper} {Q : Exit → Act → World → Prop} {S : World → Prop} {L : List Nat} {env : Env} {w : World} {fuel : Nat} {listed : Array Bool}
theorem wp_does {i d : Nat} {o : Oper} {R : Value → World → Prop} {K : Act → World → Prop} {Q' : Exit → Act → World → Prop} {a : Act} (hi : ops[i]? = some o) (hg : o.guard = none) (hd : o.dst = some d) (ha : Ok n env a) (hm : Does P o env w R)
  (h : ∀ v w', R v w' → K (a.put (some d) v) w') : wpOp P ops Q' i K a w := by
 refine mk_wpOp hi hg ?_
 unfold Oper.wp
 rcases hm with ⟨v, w', h1, h2⟩ | ⟨f, args, h1, h2⟩
 ·
  rw [h1 n a ha, Oper.upon_value, hd]
  exact h v w' h2
 ·
  rw [h1 n a ha, Oper.upon_enter]
  refine h2.mono ?_
  rintro e w' ⟨v, rfl, hR⟩
  simp only [hd]
  exact h v w' hR
theorem WD.many (I : List Item) {L3 : Array Bool} (hI : ∀ x ∈ I, ops[x.i]? = some x.o ∧ x.o.guard = none ∧ x.o.dst = some x.d ∧ Nat.blt x.d n = true ∧ get env x.d = none)
  (hnd : (I.map (·.d)).Nodup) (hni : (I.map (·.i)).Nodup) (hr : anyOrder ops L3 I.length (I.map (·.i)) listed = true)
  (hS : ∀ w', Ext w w' → S w') (hR : ∀ x ∈ I, ∀ a v a', x.R a v a' → Ext a a') (hm : ∀ x ∈ I, ∀ w', Ext w w' → Does P x.o env w' (x.R w'))
  (h : ∀ (val : Nat → Value) w', Ext w w' → (∀ x ∈ I, Made w x.R (val x.d) w') → (∀ x ∈ I, ∀ y ∈ I, x.d ≠ y.d → Apart x.R (val x.d) y.R (val y.d)) → WD P n ops Q S L fuel L3 (I.map (fun x => (x.d, val x.d)) ++ env) w') :
  WD P n ops Q S L (fuel + I.length) listed env w := by
 have key : ∀ (k : Nat) (J : List Item) (listed : Array Bool) (env' : Env) (w' : World) (val : Nat → Value), (∀ x ∈ J, x ∈ I) → anyOrder ops L3 k (J.map (·.i)) listed = true → Ext w w' → Sub env env' →
   (∀ x ∈ I, x ∉ J → get env' x.d = some (val x.d) ∧ Made w x.R (val x.d) w') → (∀ x ∈ I, x ∉ J → ∀ y ∈ I, y ∉ J → x.d ≠ y.d → Apart x.R (val x.d) y.R (val y.d)) →
   WD P n ops Q S L (fuel + k) listed env' w' := by
  intro k
  induction k with
  | zero =>
   intro J listed env' w' val hJ ho hE hsub hdone hap
   rw [anyOrder, Bool.and_eq_true, List.isEmpty_iff, List.map_eq_nil_iff] at ho
   obtain ⟨rfl, ho⟩ := ho
   have e : listed = L3 := by simpa using ho
   rw [e]
   refine (h val w' hE (fun x hx => (hdone x hx (by simp)).2) (fun x hx y hy hne => hap x hx (by simp) y hy (by simp) hne)).sub ?_
   intro m v hv
   rcases get_items I m v hv with ⟨x, hx, e1, e2⟩ | h1
   · rw [← e1, (hdone x hx (by simp)).1, e2, e1]
   · exact hsub m v h1
  | succ k ih =>
   intro J listed env' w' val hJ ho hE hsub hdone hap a ha
   rw [anyOrder, Bool.and_eq_true, List.all_eq_true] at ho
   refine ⟨fun h0 => (by rw [h0] at ho; simp at ho), fun j hj => ?_⟩
   have h1 := ho.2 j hj
   rw [Bool.and_eq_true] at h1
   obtain ⟨x, hx, rfl⟩ : ∃ x ∈ J, x.i = j := by simpa using h1.1
   have hxI := hJ x hx
   obtain ⟨q1, q2, q3, q4, q5⟩ := hI x hxI
   refine wp_does q1 q2 q3 ha ((hm x hxI w' hE).sub hsub) (fun v w2 hv => ?_)
   have k2 := hR x hxI _ _ _ hv
   refine ⟨fun _ _ => hS _ (hE.ext k2), ?_⟩
   have hne : ∀ y ∈ I, y ∉ J → y.d ≠ x.d := fun y hy hyJ e => hyJ (by rw [nodup_inj hnd hy hxI e]; exact hx)
   have hmem : ∀ z ∈ I, z ∉ J.filter (fun y => y.i != x.i) → z = x ∨ z ∉ J := by
    intro z hz hz2
    by_cases hzJ : z ∈ J
    ·
     left
     by_cases e : z.i = x.i
     · exact nodup_inj hni hz hxI e
     · exact absurd (List.mem_filter.2 ⟨hzJ, by simpa using e⟩) hz2
    · exact .inr hzJ
   refine ih (J.filter (fun y => y.i != x.i)) (listed.setIfInBounds x.i true) ((x.d, v) :: env') w2 (fun m => if m = x.d then v else val m) (fun z hz => hJ z (List.mem_filter.1 hz).1) ?_ (hE.ext k2) ?_ ?_ ?_ _ (ha.put q4)
   ·
    have := h1.2
    rw [List.filter_map] at this
    exact this
   ·
    intro m u hu
    simp only [GL.get]
    cases hb : Nat.beq x.d m with
    | true =>
     have e := Nat.eq_of_beq_eq_true hb
     rw [← e, q5] at hu
     cases hu
    | false => exact hsub m u hu
   ·
    intro z hz hz2
    rcases hmem z hz hz2 with rfl | hzJ
    ·
     refine ⟨by simp [GL.get, Nat.beq_refl], ?_⟩
     simp only [if_true]
     exact ⟨w', w2, hE, hv, Keep.refl _ _⟩
    ·
     have hzd := hne z hz hzJ
     simp only [hzd, if_false]
     obtain ⟨g1, a1, a2, g2, g3, g4⟩ := hdone z hz hzJ
     refine ⟨?_, a1, a2, g2, g3, g4.ext k2⟩
     simp only [GL.get]
     cases hb : Nat.beq x.d z.d with
     | true => exact absurd (Nat.eq_of_beq_eq_true hb).symm hzd
     | false => exact g1
   ·
    intro z hz hz2 y hy hy2 hzy
    rcases hmem z hz hz2 with rfl | hzJ <;> rcases hmem y hy hy2 with rfl | hyJ
    · exact absurd rfl hzy
    ·
     have hyd := hne y hy hyJ
     simp only [hyd, if_false, if_true]
     obtain ⟨_, a1, a2, g2, g3, g4⟩ := hdone y hy hyJ
     exact .inr ⟨_, _, _, _, hv, g3, g4⟩
    ·
     have hzd := hne z hz hzJ
     simp only [hzd, if_false, if_true]
     obtain ⟨_, a1, a2, g2, g3, g4⟩ := hdone z hz hzJ
     exact .inl ⟨_, _, _, _, g3, hv, g4⟩
    ·
     simp only [hne z hz hzJ, hne y hy hyJ, if_false]
     exact hap z hz hzJ y hy hyJ hzy
 refine key I.length I listed env w (fun _ => undef) (fun x hx => hx) hr (Keep.refl _ _) (Sub.refl _) (fun x hx h => absurd hx h) (fun x hx h => absurd hx h)
end
end Go.GL
namespace Go.Proofs.YtldhllpogdikdaaGreat
open Go.GL
def encN (x : Nd) : List Value := [.int .i64 x.kind, .int .i64 x.at_, .int .i64 x.next, .int .i64 x.other]
theorem encN_len (x : Nd) : (encN x).length = 4 := rfl
theorem encN_one (x : Nd) : ∀ u ∈ encN x, u.oneCell' = true := by simp [encN, Value.oneCell']
def bty (e : TypeId) : Bool := e == 164 || e == 40
theorem bty1 : bty 164 = true := by decide
theorem bty2 : bty 40 = true := by decide
structure BdS (W0 B : Nat) (w : World) (b : Bd) (v : Value) : Prop where
 blk : Blk w B [v, .int .i64 b.step] 164
 row : w.ownsRow 0 40 4 v b.nodes.length (b.nodes.flatMap encN)
 low : W0 ≤ B
 far : ∀ g, v.ownBlock = some g → W0 ≤ g
theorem BdS.ext {W0 B : Nat} {w w' : World} {b : Bd} {v : Value} (h : BdS W0 B w b v) (hk : Ext w w') : BdS W0 B w' b v := ⟨hk.blk h.blk (fun h => h), own_keep h.row hk (fun _ _ h => h), h.low, h.far⟩
theorem BdS.ne {W0 B : Nat} {w : World} {b : Bd} {v : Value} (h : BdS W0 B w b v) {g : Nat} (hg : v.ownBlock = some g) : g ≠ B := by
 obtain ⟨cs, hb⟩ := own_blkty h.row hg
 exact hb.ne h.blk (by decide)
def HC (B : Nat) (w : World) (e : Hang) (x : Value) : Prop := ∃ bb ab, x = .func (.func (if e.2 then 220 else 160)) #[] #[.pointer (some ⟨bb, 0, none⟩), .pointer (some ⟨ab, 0, none⟩)] ∧ Blk w bb [.pointer (some ⟨B, 0, none⟩)] 162 ∧ Blk w ab [.int .i64 e.1] 3
theorem HC.one {B : Nat} {w : World} {e : Hang} {x : Value} (h : HC B w e x) : x.oneCell' = true := by obtain ⟨_, _, rfl, _⟩ := h; rfl
theorem HC.ext {B : Nat} {w w' : World} {e : Hang} {x : Value} (h : HC B w e x) (hk : Ext w w') : HC B w' e x := by
 obtain ⟨bb, ab, h1, h2, h3⟩ := h
 exact ⟨bb, ab, h1, hk.blk h2 (fun h => h), hk.blk h3 (fun h => h)⟩
theorem HC.kt {B W0 : Nat} {w w' : World} {e : Hang} {x : Value} (h : HC B w e x) (hk : KT bty W0 w w') : HC B w' e x := by
 obtain ⟨bb, ab, h1, h2, h3⟩ := h
 exact ⟨bb, ab, h1, hk.blk h2 (by decide), hk.blk h3 (by decide)⟩
def Hung (B : Nat) (w : World) (v : Value) (es : List Hang) : Prop := ∃ xs : List Value, w.ownsRow 0 167 1 v es.length xs ∧ ∀ (i : Nat) e x, es[i]? = some e → xs[i]? = some x → HC B w e x
theorem Hung.ext {B : Nat} {w w' : World} {v : Value} {es : List Hang} (h : Hung B w v es) (hk : Ext w w') : Hung B w' v es := by
 obtain ⟨xs, h1, h2⟩ := h
 exact ⟨xs, own_keep h1 hk (fun _ _ h => h), fun i e x he hx => (h2 i e x he hx).ext hk⟩
theorem Hung.kt {B W0 : Nat} {w w' : World} {v : Value} {es : List Hang} (h : Hung B w v es) (hk : KT bty W0 w w') : Hung B w' v es := by
 obtain ⟨xs, h1, h2⟩ := h
 exact ⟨xs, hk.own h1 (by decide), fun i e x he hx => (h2 i e x he hx).kt hk⟩
theorem Hung.form {B : Nat} {w : World} {v : Value} {es : List Hang} (h : Hung B w v es) : ∃ ao c, v = .slice ao es.length c ∧ es.length ≤ c := by
 obtain ⟨xs, h1, h2⟩ := h
 rcases h1.2 with ⟨rfl, h3⟩ | ⟨g, cap, cur, rfl, h3, h4, h5, h6⟩
 · rw [h3]; exact ⟨_, _, rfl, Nat.le_refl _⟩
 · exact ⟨_, _, rfl, h5⟩
theorem Hung.at {B : Nat} {w : World} {ao : Option Addr} {n c : Nat} {es : List Hang} (h : Hung B w (.slice ao n c) es) {i : Nat} {e : Hang} (he : es[i]? = some e) : ∃ g x, ao = some ⟨g, 0, none⟩ ∧ Cells w g (0 + i * 1) [x] ∧ HC B w e x := by
 obtain ⟨xs, h1, h2⟩ := h
 have hi := (List.getElem?_eq_some_iff.1 he).1
 have hxl := h1.1
 obtain ⟨x, hx⟩ : ∃ x, xs[i]? = some x := ⟨_, List.getElem?_eq_getElem (by omega)⟩
 rcases h1.2 with ⟨h3, h4⟩ | ⟨g, cap, cur, h3, _, h4, h5, h6, h7, h8⟩
 · omega
 ·
  cases h3
  refine ⟨g, x, rfl, ?_, h2 i e x he hx⟩
  intro j u hu
  cases j with
  | zero =>
   simp at hu; subst hu
   have hb : Blk w g cur.toList 167 := by unfold Blk; simpa using h4
   have := hb.cells i x (by rw [← h8, List.getElem?_take] at hx; split at hx; exact hx; cases hx)
   simpa using this
  | succ j => simp at hu
theorem next_ok (B : Nat) (k : Nat) (w : World) : Calls Tryz.prog 107 #[.pointer (some ⟨B, 0, none⟩), .int .i64 k] w (Ret fun r w' => HC B w' (k, false) r ∧ Ext w w') := by
 have hE := Keep.refl (fun _ => False) w
 refine G.in2 Tryz.func107 rfl Tryz.ntmps107 rfl (Gs 2 rfl (G.mem rfl rfl (M.box rfl rfl) ?_))
 rintro _ w_bb ⟨bb, rfl, hg_bb, hs_bb, hB_bb, hk_bb⟩
 have hge_bb : _ ≤ bb := Nat.le_trans hE.size (Nat.le_of_eq hg_bb.symm)
 replace hE := Tr1 hk_bb hE
 refine G.mem rfl rfl (M.box rfl rfl) ?_
 rintro _ w_ab ⟨ab, rfl, hg_ab, hs_ab, hB_ab, hk_ab⟩
 have hn_bb_ab : bb ≠ ab := by have := hB_bb.lt; omega
 have hge_ab : _ ≤ ab := Nat.le_trans hE.size (Nat.le_of_eq hg_ab.symm)
 obtain ⟨hE, hB_bb⟩ := Tr2 hk_ab hE hB_bb
 refine Gs 10 rfl (G.ret1 Tryz.results107 rfl ⟨_, rfl, ⟨bb, ab, rfl, hB_bb, hB_ab⟩, hE⟩)
theorem other_ok (B : Nat) (k : Nat) (w : World) : Calls Tryz.prog 204 #[.pointer (some ⟨B, 0, none⟩), .int .i64 k] w (Ret fun r w' => HC B w' (k, true) r ∧ Ext w w') := by
 have hE := Keep.refl (fun _ => False) w
 refine G.in2 Tryz.func204 rfl Tryz.ntmps204 rfl (Gs 2 rfl (G.mem rfl rfl (M.box rfl rfl) ?_))
 rintro _ w_bb ⟨bb, rfl, hg_bb, hs_bb, hB_bb, hk_bb⟩
 have hge_bb : _ ≤ bb := Nat.le_trans hE.size (Nat.le_of_eq hg_bb.symm)
 replace hE := Tr1 hk_bb hE
 refine G.mem rfl rfl (M.box rfl rfl) ?_
 rintro _ w_ab ⟨ab, rfl, hg_ab, hs_ab, hB_ab, hk_ab⟩
 have hn_bb_ab : bb ≠ ab := by have := hB_bb.lt; omega
 have hge_ab : _ ≤ ab := Nat.le_trans hE.size (Nat.le_of_eq hg_ab.symm)
 obtain ⟨hE, hB_bb⟩ := Tr2 hk_ab hE hB_bb
 refine Gs 10 rfl (G.ret1 Tryz.results204 rfl ⟨_, rfl, ⟨bb, ab, rfl, hB_bb, hB_ab⟩, hE⟩)
theorem set_node (L : List Nd) (i : Nat) (hi : i < L.length) (sp : List Value) (to : Int) (p : Bool) : (L.flatMap encN ++ sp).set (i * 4 + (if p then 3 else 2)) (.int .i64 to) = (setE L to (i, p)).flatMap encN ++ sp := by
 have h1 := flat_set (enc := encN) encN_len hi (if p then { L[i] with other := to } else { L[i] with next := to }) sp
 have h2 : setE L to (i, p) = L.set i (if p then { L[i] with other := to } else { L[i] with next := to }) := by
  apply List.ext_getElem?
  intro j
  simp only [setE, List.getElem?_modify, List.getElem?_set]
  by_cases hj : i = j
  · subst hj; simp [hi]
  · simp [hj]
 rw [h2, ← h1]
 have h3 := flat_set (enc := encN) encN_len hi L[i] sp
 rw [List.set_getElem_self] at h3
 have ht : ((L.flatMap encN ++ sp).take (i * 4)).length = i * 4 := by
  have := flat_len encN_len L
  rw [List.length_take, List.length_append]; omega
 generalize (L.flatMap encN ++ sp).drop (i * 4 + 4) = C at h3 ⊢
 generalize (L.flatMap encN ++ sp).take (i * 4) = A at h3 ht ⊢
 rw [← h3, List.append_assoc, List.append_assoc, List.set_append_right _ _ (by rw [ht]; exact Nat.le_add_right _ _), ht, Nat.add_sub_cancel_left]
 cases p <;> rfl
theorem next_ok' (W0 B bb ab i : Nat) (to : Int) (b : Bd) (v : Value) (w : World) (hb : BdS W0 B w b v) (hbb : Blk w bb [.pointer (some ⟨B, 0, none⟩)] 162) (hab : Blk w ab [.int .i64 (i : Nat)] 3) (hi : i < b.nodes.length) :
  Calls Tryz.prog 160 #[.int .i64 to, .pointer (some ⟨bb, 0, none⟩), .pointer (some ⟨ab, 0, none⟩)] w (Ret fun _ w' => BdS W0 B w' { b with nodes := setE b.nodes to (i, false) } v ∧ KT bty W0 w w') := by
 obtain ⟨g, cap, sp, rfl, _, hnc, hcm, hBg, hlen⟩ := own_open encN_len (by decide) hb.row (by intro h; rw [h] at hi; simp at hi)
 have hB := hb.blk
 have hll := flat_len encN_len b.nodes
 have hfl : (b.nodes.flatMap encN ++ sp).length = b.nodes.length * 4 + sp.length := by rw [List.length_append, hll]
 have hgB := hb.ne rfl
 have hset := set_node b.nodes i hi sp to false
 refine G.in3 Tryz.func160 rfl Tryz.ntmps160 rfl (Dw (fun q => Ext w q) [8] (fun wd1 hD _ => ?_))
 refine WD.take 0 rfl (by kernel_rfl) rfl rfl rfl hD (fun w1 hw1 => R.load Tryz.isAgg162 rfl ((hw1.blk hbb (fun h => h)).cells 0 _ rfl)) (Ds [1, 2] (by kernel_rfl) rfl (WD.take 3 rfl (by kernel_rfl) rfl rfl rfl hD (fun w1 hw1 => R.load Tryz.isAgg29 rfl ((hw1.blk hB (fun h => h)).cells 0 _ rfl)) (WD.take 4 rfl (by kernel_rfl) rfl rfl rfl hD (fun w1 hw1 => R.load Tryz.isAgg3 rfl ((hw1.blk hab (fun h => h)).cells 0 _ rfl)) (Da [5, 6, 7] (by kernel_rfl) rfl (by omega) (WD.mem0 8 rfl (by kernel_rfl) rfl rfl (M.store Tryz.sizeOf3 rfl rfl rfl rfl (hD.blk hBg (fun h => h)) (by rw [hfl]; show 0 + (i : Int).toNat * 4 + 2 < _; omega)) ?_)))))
 rintro wf ⟨_, hBf, hkf⟩
 refine ⟨fun h => absurd (List.mem_singleton.2 rfl) h, ?_⟩
 rw [show 0 + (i : Int).toNat * 4 + _ = i * 4 + (if false then 3 else 2) by simp, hset] at hBf
 have hK : KT bty W0 w wf := Keep.trans (KT.of_ext hD) hkf (fun q hq h => by have h : q = g := h; subst h; exact Wr.mk (hb.far _ rfl) hBg bty2)
 refine G.done (by kernel_rfl) ?_ _
 refine G.end0 Tryz.results160 ⟨_, rfl, ⟨hkf.blk (hD.blk hB (fun h => h)) (fun h => hgB h.symm), ?_, hb.low, hb.far⟩, hK⟩
 have h := own_shut encN_len (k := b.nodes.length) hBf (by rw [List.length_append, flat_len encN_len, setE_len]; omega) (by rw [setE_len]; exact Nat.le_refl _) hnc hcm
 rw [List.take_of_length_le (by rw [setE_len]; exact Nat.le_refl _)] at h
 rw [setE_len]; exact h
theorem other_ok' (W0 B bb ab i : Nat) (to : Int) (b : Bd) (v : Value) (w : World) (hb : BdS W0 B w b v) (hbb : Blk w bb [.pointer (some ⟨B, 0, none⟩)] 162) (hab : Blk w ab [.int .i64 (i : Nat)] 3) (hi : i < b.nodes.length) :
  Calls Tryz.prog 220 #[.int .i64 to, .pointer (some ⟨bb, 0, none⟩), .pointer (some ⟨ab, 0, none⟩)] w (Ret fun _ w' => BdS W0 B w' { b with nodes := setE b.nodes to (i, true) } v ∧ KT bty W0 w w') := by
 obtain ⟨g, cap, sp, rfl, _, hnc, hcm, hBg, hlen⟩ := own_open encN_len (by decide) hb.row (by intro h; rw [h] at hi; simp at hi)
 have hB := hb.blk
 have hll := flat_len encN_len b.nodes
 have hfl : (b.nodes.flatMap encN ++ sp).length = b.nodes.length * 4 + sp.length := by rw [List.length_append, hll]
 have hgB := hb.ne rfl
 have hset := set_node b.nodes i hi sp to true
 refine G.in3 Tryz.func220 rfl Tryz.ntmps220 rfl (Dw (fun q => Ext w q) [8] (fun wd1 hD _ => ?_))
 refine WD.take 0 rfl (by kernel_rfl) rfl rfl rfl hD (fun w1 hw1 => R.load Tryz.isAgg162 rfl ((hw1.blk hbb (fun h => h)).cells 0 _ rfl)) (Ds [1, 2] (by kernel_rfl) rfl (WD.take 3 rfl (by kernel_rfl) rfl rfl rfl hD (fun w1 hw1 => R.load Tryz.isAgg29 rfl ((hw1.blk hB (fun h => h)).cells 0 _ rfl)) (WD.take 4 rfl (by kernel_rfl) rfl rfl rfl hD (fun w1 hw1 => R.load Tryz.isAgg3 rfl ((hw1.blk hab (fun h => h)).cells 0 _ rfl)) (Da [5, 6, 7] (by kernel_rfl) rfl (by omega) (WD.mem0 8 rfl (by kernel_rfl) rfl rfl (M.store Tryz.sizeOf3 rfl rfl rfl rfl (hD.blk hBg (fun h => h)) (by rw [hfl]; show 0 + (i : Int).toNat * 4 + 3 < _; omega)) ?_)))))
 rintro wf ⟨_, hBf, hkf⟩
 refine ⟨fun h => absurd (List.mem_singleton.2 rfl) h, ?_⟩
 rw [show 0 + (i : Int).toNat * 4 + _ = i * 4 + (if true then 3 else 2) by simp, hset] at hBf
 have hK : KT bty W0 w wf := Keep.trans (KT.of_ext hD) hkf (fun q hq h => by have h : q = g := h; subst h; exact Wr.mk (hb.far _ rfl) hBg bty2)
 refine G.done (by kernel_rfl) ?_ _
 refine G.end0 Tryz.results220 ⟨_, rfl, ⟨hkf.blk (hD.blk hB (fun h => h)) (fun h => hgB h.symm), ?_, hb.low, hb.far⟩, hK⟩
 have h := own_shut encN_len (k := b.nodes.length) hBf (by rw [List.length_append, flat_len encN_len, setE_len]; omega) (by rw [setE_len]; exact Nat.le_refl _) hnc hcm
 rw [List.take_of_length_le (by rw [setE_len]; exact Nat.le_refl _)] at h
 rw [setE_len]; exact h
theorem add_ok (W0 B : Nat) (kind : Int) (b : Bd) (v : Value) (w : World) (hb : BdS W0 B w b v) (hW : W0 ≤ w.heap.size) (hsz : b.nodes.length ≤ 100000) :
  Calls Tryz.prog 203 #[.pointer (some ⟨B, 0, none⟩), .int .i64 kind] w (Ret fun _ w' => (∃ v', BdS W0 B w' { b with nodes := b.nodes ++ [⟨kind, b.step, -1, -1⟩] } v') ∧ KT bty W0 w w') := by
 have hB := hb.blk
 refine G.in2 Tryz.func203 rfl Tryz.ntmps203 rfl (Dw (fun q => Blk q B [v, .int .i64 b.step] 164) [15] (fun wd hD _ => ?_))
 have hb1 := hb.ext hD
 refine Ds [0, 1, 2, 3] (by kernel_rfl) rfl (WD.take 4 rfl (by kernel_rfl) rfl rfl rfl hb1.blk (fun w1 hw1 => R.load Tryz.isAgg29 rfl (hw1.cells 0 _ rfl)) (Ds [5, 6, 7, 8] (by kernel_rfl) rfl (WD.take 9 rfl (by kernel_rfl) rfl rfl rfl hb1.blk (fun w1 hw1 => R.load Tryz.isAgg3 rfl (hw1.cells 1 _ rfl)) (WD.takeW 10 rfl (by kernel_rfl) rfl rfl rfl (fun w1 => R.build (v := .agg #[.int .i64 kind, .int .i64 b.step, .int .i64 (-1), .int .i64 (-1)]) [(0, _), (1, _), (2, _), (3, _)] rfl (fun _ => by kernel_rfl)) (WD.mem 11 rfl (by kernel_rfl) rfl rfl rfl (M.buildSlice (cs := encN ⟨kind, b.step, -1, -1⟩) [(0, _)] Tryz.runUnderlying29 Tryz.sizeOf40 Tryz.zeroValue40 (by decide) rfl (by kernel_rfl)) ?_)))))
 rintro _ w2 ⟨b2, rfl, hb2, hs2, hB2, hk2⟩
 have hb3 := hb1.ext hk2
 refine ⟨fun _ => hb3.blk, ?_⟩
 refine WD.mem 12 rfl (by kernel_rfl) rfl rfl rfl (M.append Tryz.underlying29 Tryz.el40 rfl (by decide) rfl rfl hb3.row rfl (Cells.add hB2.cells) (encN_one _) (by omega) (by omega)) ?_
 rintro v' w3 ⟨hown, hfr, hk3, _⟩
 have hBB := hk3.blk hb3.blk (fun h => hb3.ne h rfl)
 refine ⟨fun _ => hBB, ?_⟩
 refine Ds [13, 14] (by kernel_rfl) rfl ?_
 obtain ⟨av, cv, rfl⟩ := own_form hown
 refine WD.mem0 15 rfl (by kernel_rfl) rfl rfl (M.store Tryz.sizeOf29 rfl rfl rfl rfl hBB (by simp)) ?_
 rintro wf ⟨_, hBf, hkf⟩
 refine ⟨fun h => absurd (List.mem_singleton.2 rfl) h, ?_⟩
 have hsz1 := hD.size
 have hfar : ∀ g, Value.ownBlock (.slice av (b.nodes.length + 1) cv) = some g → W0 ≤ g ∧ g ≠ B := by
  intro g hg
  rcases hfr with h | ⟨g', h1, h2⟩
  · exact ⟨hb.far g (by rw [← h]; exact hg), hb3.ne (by rw [← h]; exact hg)⟩
  ·
   rw [h1] at hg; cases hg
   have := hb3.blk.lt
   exact ⟨by omega, by omega⟩
 refine G.done (by kernel_rfl) ?_ _
 refine G.end0 Tryz.results203 ⟨_, rfl, ⟨.slice av (b.nodes.length + 1) cv, hBf, ?_, hb.low, fun g hg => (hfar g hg).1⟩, ?_⟩
 ·
  have h := own_keep hown hkf (fun g hg h => (hfar g hg).2 h)
  rw [List.length_append, List.flatMap_append]
  simpa using h
 · exact KT.trans (KT.trans (KT.of_ext (hD.ext hk2)) (KT.row hb3.row bty2 hb3.far hk3)) (hkf.mono (fun q hq h => by have h : q = B := h; subst h; exact Wr.mk hb.low hBB bty1))
theorem hang_ok (W0 B i : Nat) (p : Bool) (to : Int) (b : Bd) (v x : Value) (w : World) (hb : BdS W0 B w b v) (hx : HC B w (i, p) x) (hi : i < b.nodes.length) :
  ∃ f, ∃ cs : List Value, x = .func (.func f) #[] cs.toArray ∧ (∀ args w, (callFunc f args).run Tryz.prog w = .ok (.enter f args) w) ∧ Calls Tryz.prog f (([] : List Value) ++ [Value.int .i64 to] ++ cs).toArray w (Ret fun _ w' => BdS W0 B w' { b with nodes := setE b.nodes to (i, p) } v ∧ KT bty W0 w w') := by
 obtain ⟨bb, ab, rfl, h1, h2⟩ := hx
 cases p
 · exact ⟨_, [_, _], rfl, Tryz.call160, next_ok' W0 B bb ab i to b v w hb h1 h2 hi⟩
 · exact ⟨_, [_, _], rfl, Tryz.call220, other_ok' W0 B bb ab i to b v w hb h1 h2 hi⟩
theorem BdS.bump {W0 B : Nat} {w w' : World} {b : Bd} {v : Value} (h : BdS W0 B w b v) (hw : Wrote w B [v, .int .i64 ((b.step : Int) + 1)] 164 w') : BdS W0 B w' { b with step := b.step + 1 } v ∧ KT bty W0 w w' :=
 ⟨⟨hw.2.1, own_keep h.row hw.2.2 (fun _ hg he => h.ne hg he), h.low, h.far⟩, KT.wrote h.blk bty1 h.low hw⟩
theorem Hung.lit {B : Nat} {w : World} {g : Nat} {x : Value} {e : Hang} (hb : Blk w g [x] 167) (hx : HC B w e x) : Hung B w (.slice (some ⟨g, 0, none⟩) 1 1) [e] :=
 ⟨[x], own_blk (k := 1) (n := 1) (cap := 1) hb (Nat.le_refl _) (by decide) rfl, fun i e' x' he hx' => by
  cases i with
  | zero => simp at he hx'; subst he; subst hx'; exact hx
  | succ i => simp at he⟩
theorem Hung.len {B : Nat} {w : World} {v : Value} {es : List Hang} (h : Hung B w v es) : es.length ≤ 9223372036854775807 := by
 obtain ⟨xs, h1, _⟩ := h
 obtain ⟨_, _, _, h2, h3⟩ := own_slice h1
 omega
theorem one_hang (s : St) (h1 : ∀ b ins, (listB s.thn b ins).2.length ≤ max ins.length 1 + widL s.thn) (h2 : ∀ b ins, (listB s.els b ins).2.length ≤ max ins.length 1 + widL s.els) (a : Nat) (b : Bd) : (s.one a b).2.length ≤ 1 + s.wid := by
 rw [s.one_eq]
 have hw := s.wid_eq
 split
 ·
  dsimp only
  rw [List.length_append]
  have e1 := h1 { nodes := b.nodes ++ [⟨3, b.step, -1, -1⟩], step := b.step + 1 } [(a, false)]
  have e2 := h2 (listB s.thn { nodes := b.nodes ++ [⟨3, b.step, -1, -1⟩], step := b.step + 1 } [(a, false)]).1 [(a, true)]
  simp only [List.length_singleton] at e1 e2
  omega
 · split <;> simp
theorem list_hang (l : List St) : ∀ b ins, (listB l b ins).2.length ≤ max ins.length 1 + widL l := by
 induction l using Sts.ind with
 | h l ih =>
 have key : ∀ r : List St, (∀ x ∈ r, x ∈ l) → ∀ b ins, (listB r b ins).2.length ≤ max ins.length 1 + widL r := by
  intro r
  induction r with
  | nil => intro _ b ins; rw [listB]; dsimp only; omega
  | cons s r ihr =>
   intro hm b ins
   have h1 := one_hang s (ih s (hm s (List.mem_cons_self ..))).1 (ih s (hm s (List.mem_cons_self ..))).2 b.nodes.length { b with nodes := setAll b.nodes b.nodes.length ins }
   rw [listB_cons]
   have h2 := ihr (fun y hy => hm y (List.mem_cons_of_mem _ hy)) (s.one b.nodes.length { b with nodes := setAll b.nodes b.nodes.length ins }).1 (s.one b.nodes.length { b with nodes := setAll b.nodes b.nodes.length ins }).2
   simp only [widL]
   omega
 exact key l (fun x h => h)
theorem setAll_take {ns : List Nd} {to : Int} {es : List Hang} {i : Nat} {e : Hang} (h : es[i]? = some e) : setAll ns to (es.take (i + 1)) = setE (setAll ns to (es.take i)) to e := by rw [take_get h, setAll_append]; rfl
def ListOk (l : List St) : Prop := ∀ (W0 B : Nat) (v vin : Value) (D : Nat → Prop) (w : World) (b : Bd) (nv : Value) (ins : List Hang), SlR 10 RSt D w v l → (∀ q, D q → q < W0) → BdS W0 B w b nv → Hung B w vin ins → (∀ e ∈ ins, e.1 < b.nodes.length) → W0 ≤ w.heap.size →
 plainL l = true → b.nodes.length + widL l ≤ 100000 → b.step + ssize l ≤ 100000 →
 Calls Tryz.prog 106 #[.pointer (some ⟨B, 0, none⟩), v, vin] w (Ret fun r w' => (∃ nv', BdS W0 B w' (listB l b ins).1 nv') ∧ Hung B w' r (listB l b ins).2 ∧ (r.ownBlock = vin.ownBlock ∨ ∃ g, r.ownBlock = some g ∧ w.heap.size ≤ g) ∧ KT bty W0 w w')
theorem one_ok (s : St) (h1 : ListOk s.thn) (h2 : ListOk s.els) (W0 B : Nat) (cs : List Value) (D : Nat → Prop) (w : World) (b : Bd) (nv : Value) (hs : RSt D w s cs) (hD : ∀ q, D q → q < W0) (hb : BdS W0 B w b nv) (hW : W0 ≤ w.heap.size) (hp : s.plainB = true)
  (hn : b.nodes.length + s.wid ≤ 100000) (hst : b.step + s.size ≤ 100000) :
  Calls Tryz.prog 159 #[.pointer (some ⟨B, 0, none⟩), .agg cs.toArray, .int .i64 b.nodes.length] w (Ret fun r w' => (∃ nv', BdS W0 B w' (s.one b.nodes.length b).1 nv') ∧ Hung B w' r (s.one b.nodes.length b).2 ∧ (∃ g, r.ownBlock = some g ∧ w.heap.size ≤ g) ∧ KT bty W0 w w') := by
 have hs1 := hs.one
 obtain ⟨v1, v2, v3, v4, rfl, hk, ht, he, hbs⟩ := hs.get
 have hw := s.wid_eq
 have hz := s.size_eq
 have hp2 := hp
 rw [s.plainB_eq, Bool.and_eq_true, Bool.and_eq_true] at hp2
 have hwl := hW
 refine G.in3 Tryz.func159 rfl Tryz.ntmps159 rfl (Gs 2 rfl (G.mem rfl rfl (M.box rfl rfl) ?_))
 rintro _ w1 ⟨c, rfl, hc, hs1', hBc, hk1⟩
 replace hb := hb.ext hk1
 have hE1 : KT bty W0 w w1 := KT.of_ext hk1
 refine Gs 7 rfl (G.ld rfl Tryz.isAgg80 (hBc.cells 0 _ rfl) (Gs 9 rfl (G.ite rfl (fun a3 => ?_) (fun a3 => ?_))))
 ·
  rw [s.one_eq, if_pos a3]
  rw [if_neg (show ¬ s.act = 4 by omega)] at hw
  refine Gs 3 rfl (G.call rfl Tryz.call203 (add_ok W0 B 3 b nv w1 hb (by have := hk1.size; omega) (by omega)) ?_)
  rintro _ w2 ⟨⟨nv2, hb2⟩, hK2⟩
  have hE2 := hE1.trans hK2
  have hBc2 := hK2.blk hBc (by decide)
  refine Gs 7 rfl (G.ld rfl Tryz.isAgg3 (hb2.blk.cells 1 (.int .i64 b.step) rfl) (Ga 3 rfl (by omega) (G.mem0 rfl (M.store Tryz.sizeOf3 rfl rfl rfl rfl hb2.blk (by simp)) ?_)))
  rintro w3 hw3
  obtain ⟨hb3, hK3⟩ := hb2.bump hw3
  have hE3 := hE2.trans hK3
  have hBc3 := hK3.blk hBc2 (by decide)
  refine Gs 3 rfl (Dw (fun q => Blk q c [.int .i64 s.act, .int .i64 s.cost, .int .i64 s.var, .int .i64 s.n, .int .i64 s.term.op, .int .i64 s.term.n, v1, v2, v3, v4] 86) [] (fun w4 hk4 _ => ?_))
  have hBc4 := hk4.blk hBc3 (fun h => h)
  have hb4 := hb3.ext hk4
  have hE4 := hE3.ext' hk4
  refine Ds [0, 1] (by kernel_rfl) rfl (WD.take 2 rfl (by kernel_rfl) rfl rfl rfl hBc4 (fun w1 hw1 => R.load Tryz.isAgg24 rfl (hw1.cells 7 _ rfl)) (Ds [3, 4] (by kernel_rfl) rfl (WD.call 5 rfl (by kernel_rfl) rfl rfl rfl (F.call (vs := [_, _]) Tryz.call107 rfl) (next_ok B b.nodes.length w4) ?_)))
  rintro x w5 ⟨hx, hk5⟩
  have hBc5 := hk5.blk hBc4 (fun h => h)
  have hb5 := hb4.ext hk5
  have hE5 := hE4.ext' hk5
  refine ⟨fun _ => hBc5, ?_⟩
  have hx0 := hx
  obtain ⟨bb, ab, rfl, _, _⟩ := hx
  refine WD.mem 6 rfl (by kernel_rfl) rfl rfl rfl (M.buildSlice (cs := [.func (.func 160) #[] #[.pointer (some ⟨bb, 0, none⟩), .pointer (some ⟨ab, 0, none⟩)]]) [(0, _)] Tryz.runUnderlying165 Tryz.sizeOf167 Tryz.zeroValue167 (by decide) rfl (by kernel_rfl)) ?_
  rintro _ w6 ⟨g6, rfl, hg6, hs6, hB6, hk6⟩
  have hBc6 := hk6.blk hBc5 (fun h => h)
  have hb6 := hb5.ext hk6
  have hE6 := hE5.ext' hk6
  refine ⟨fun _ => hBc6, ?_⟩
  have hu6 := Hung.lit hB6 (hx0.ext hk6)
  have hsz6 := hE6.size
  refine WD.call 7 rfl (by kernel_rfl) rfl rfl rfl (F.call (vs := [_, _, _]) Tryz.call106 rfl) (h1 W0 B _ _ D w6 _ _ _ (hE6.sl stable_st ht hD) hD hb6 hu6 (by simp) (by omega) hp2.1.2 (by simp; omega) (by dsimp only; omega)) ?_
  rintro r7 w7 ⟨⟨nv7, hb7⟩, hu7, hf7, hK7⟩
  have hBc7 := hK7.blk hBc6 (by decide)
  have hE7 := hE6.trans hK7
  refine ⟨fun _ => hBc7, ?_⟩
  have hl7 := list_built s.thn hp2.1.2 { nodes := b.nodes ++ [⟨3, b.step, -1, -1⟩], step := b.step + 1 } [(b.nodes.length, false)] (by simp)
  have hh7 := list_hang s.thn { nodes := b.nodes ++ [⟨3, b.step, -1, -1⟩], step := b.step + 1 } [(b.nodes.length, false)]
  simp only [List.length_singleton] at hh7
  generalize hX : listB s.thn { nodes := b.nodes ++ [⟨3, b.step, -1, -1⟩], step := b.step + 1 } [(b.nodes.length, false)] = X at hb7 hu7 hl7 hh7 ⊢
  have hlen7 := hl7.len
  have hstep7 := hl7.step
  simp only [List.length_append, List.length_singleton] at hlen7 hstep7
  have hr7 : ∃ g, r7.ownBlock = some g ∧ w.heap.size ≤ g := by
   have := hE5.size
   rcases hf7 with h | ⟨g, h, h'⟩
   · exact ⟨g6, by rw [h]; rfl, by omega⟩
   · exact ⟨g, h, by omega⟩
  refine Ds [8] (by kernel_rfl) rfl (G.done (by kernel_rfl) ?_ _)
  refine Gs 2 rfl (Dw (fun q => Blk q c [.int .i64 s.act, .int .i64 s.cost, .int .i64 s.var, .int .i64 s.n, .int .i64 s.term.op, .int .i64 s.term.n, v1, v2, v3, v4] 86) [] (fun x4 yk4 _ => ?_))
  have yBc4 := yk4.blk hBc7 (fun h => h)
  have yb4 := hb7.ext yk4
  have yu4 := hu7.ext yk4
  have yE4 := hE7.ext' yk4
  refine Ds [0, 1, 2] (by kernel_rfl) rfl (WD.take 3 rfl (by kernel_rfl) rfl rfl rfl yBc4 (fun w1 hw1 => R.load Tryz.isAgg24 rfl (hw1.cells 8 _ rfl)) (Ds [4, 5] (by kernel_rfl) rfl (WD.call 6 rfl (by kernel_rfl) rfl rfl rfl (F.call (vs := [_, _]) Tryz.call204 rfl) (other_ok B b.nodes.length x4) ?_)))
  rintro x x5 ⟨hx, yk5⟩
  have yBc5 := yk5.blk yBc4 (fun h => h)
  have yb5 := yb4.ext yk5
  have yu5 := yu4.ext yk5
  have yE5 := yE4.ext' yk5
  refine ⟨fun _ => yBc5, ?_⟩
  have hx0 := hx
  obtain ⟨bb, ab, rfl, _, _⟩ := hx
  refine WD.mem 7 rfl (by kernel_rfl) rfl rfl rfl (M.buildSlice (cs := [.func (.func 220) #[] #[.pointer (some ⟨bb, 0, none⟩), .pointer (some ⟨ab, 0, none⟩)]]) [(0, _)] Tryz.runUnderlying165 Tryz.sizeOf167 Tryz.zeroValue167 (by decide) rfl (by kernel_rfl)) ?_
  rintro _ x6 ⟨g6', rfl, yg6, ys6, yB6, yk6⟩
  have yBc6 := yk6.blk yBc5 (fun h => h)
  have yb6 := yb5.ext yk6
  have yu6 := yu5.ext yk6
  have yE6 := yE5.ext' yk6
  refine ⟨fun _ => yBc6, ?_⟩
  have zu6 := Hung.lit yB6 (hx0.ext yk6)
  have ysz6 := yE6.size
  refine WD.call 8 rfl (by kernel_rfl) rfl rfl rfl (F.call (vs := [_, _, _]) Tryz.call106 rfl) (h2 W0 B _ _ D x6 _ _ _ (yE6.sl stable_st he hD) hD yb6 zu6 (by intro e he; rw [List.mem_singleton.1 he]; dsimp only; omega) (by omega) hp2.2 (by omega) (by omega)) ?_
  rintro r8 x7 ⟨⟨nv8, yb7⟩, yu7, yf7, yK7⟩
  have yBc7 := yK7.blk yBc6 (by decide)
  have yE7 := yE6.trans yK7
  have zu7 := yu6.kt yK7
  refine ⟨fun _ => yBc7, ?_⟩
  have hh8 := list_hang s.els X.1 [(b.nodes.length, true)]
  simp only [List.length_singleton] at hh8
  generalize listB s.els X.1 [(b.nodes.length, true)] = Y at yb7 yu7 hh8 ⊢
  obtain ⟨xs7, ho7, hat7⟩ := zu7
  obtain ⟨xs8, ho8, hat8⟩ := yu7
  have h1c : ∀ u ∈ xs8, u.oneCell' = true := by
   intro u hu
   obtain ⟨i, hi⟩ := List.mem_iff_getElem?.1 hu
   have hlt := (List.getElem?_eq_some_iff.1 hi).1
   have h8 := ho8.1
   exact (hat8 i Y.2[i] u (List.getElem?_eq_getElem (by omega)) hi).one
  refine WD.mem 9 rfl (by kernel_rfl) rfl rfl rfl (M.appendO Tryz.underlying165 Tryz.el167 rfl (by decide) rfl rfl ho7 ho8 h1c (by omega) (by omega)) ?_
  rintro u x8 ⟨hou, hfu, yk8⟩
  have hfr8 : ∀ k, r7.ownBlock = some k → w.heap.size ≤ k := by
   intro k hk
   obtain ⟨g, h, h'⟩ := hr7
   rw [h] at hk; cases hk; exact h'
  have yE8 : KT bty W0 w x8 := yE7.new yk8 hfr8
  have hbl8 : ∀ k cs e, Blk x7 k cs e → e ≠ 167 → Blk x8 k cs e := fun k cs e hb hne => yk8.blk hb (fun h => by
   obtain ⟨cs', hb'⟩ := own_blkty ho7 h
   exact hne (hb.ty hb').1)
  refine ⟨fun _ => hbl8 _ _ _ yBc7 (by decide), ?_⟩
  refine Ds [10] (by kernel_rfl) rfl (G.done (by kernel_rfl) ?_ _)
  refine Gs 4 rfl ?_
  refine G.ret1 Tryz.results159 rfl ⟨_, rfl, ⟨nv8, hbl8 _ _ _ yb7.blk (by decide), own_keep yb7.row yk8 (fun g hg h => by
    obtain ⟨cs', hb'⟩ := own_blkty ho7 h
    obtain ⟨cs2, hb2⟩ := own_blkty yb7.row hg
    exact absurd (hb2.ty hb').1 (by decide)), yb7.low, yb7.far⟩, ⟨xs7 ++ xs8, by rw [List.length_append]; exact hou, ?_⟩, ?_, yE8⟩
  ·
   have hcc : ∀ e x, HC B x7 e x → HC B x8 e x := by
    rintro e x ⟨bb, ab, q1, q2, q3⟩
    exact ⟨bb, ab, q1, hbl8 _ _ _ q2 (by decide), hbl8 _ _ _ q3 (by decide)⟩
   intro i e x he' hx'
   have hl1 := ho7.1
   by_cases hi : i < X.2.length
   ·
    rw [List.getElem?_append_left hi] at he'
    rw [List.getElem?_append_left (by omega)] at hx'
    exact hcc _ _ (hat7 i e x he' hx')
   ·
    rw [List.getElem?_append_right (by omega)] at he'
    rw [List.getElem?_append_right (by omega), show i - xs7.length = i - X.2.length by omega] at hx'
    exact hcc _ _ (hat8 _ e x he' hx')
  ·
   rcases hfu with h | ⟨g, h, h'⟩
   ·
    obtain ⟨g, q1, q2⟩ := hr7
    exact ⟨g, by rw [h]; exact q1, q2⟩
   ·
    have := yE7.size
    exact ⟨g, h, by omega⟩
 ·
  rw [s.one_eq, if_neg a3]
  refine Gs 6 rfl (G.ite rfl (fun a4 => ?_) (fun a4 => ?_))
  ·
   rw [if_pos a4]
   rw [if_pos a4] at hw
   rw [if_neg a3, if_pos a4] at hp2
   refine Gs 3 rfl (G.call rfl Tryz.call203 (add_ok W0 B 4 b nv w1 hb (by have := hk1.size; omega) (by omega)) ?_)
   rintro _ w2 ⟨⟨nv2, hb2⟩, hK2⟩
   have hE2 := hE1.trans hK2
   have hBc2 := hK2.blk hBc (by decide)
   refine Gs 5 rfl (G.call rfl Tryz.call203 (add_ok W0 B 5 _ nv2 w2 hb2 (by have := hE2.size; omega) (by simp; omega)) ?_)
   rintro _ w3 ⟨⟨nv3, hb3⟩, hK3⟩
   have hE3 := hE2.trans hK3
   have hBc3 := hK3.blk hBc2 (by decide)
   dsimp only at hb3
   rw [List.append_assoc, List.singleton_append] at hb3
   refine Gs 7 rfl (G.ld rfl Tryz.isAgg3 (hb3.blk.cells 1 (.int .i64 b.step) rfl) (Ga 3 rfl (by omega) (G.mem0 rfl (M.store Tryz.sizeOf3 rfl rfl rfl rfl hb3.blk (by simp)) ?_)))
   rintro w4 hw4
   obtain ⟨hb4, hK4⟩ := hb3.bump hw4
   dsimp only at hb4
   have hE4 := hE3.trans hK4
   have hBc4 := hK4.blk hBc3 (by decide)
   obtain ⟨g, cap, sp, rfl, _, hnc, hcm, hBg, hlen⟩ := own_open encN_len (by decide) hb4.row (by simp)
   have hlx : (b.nodes ++ [⟨4, b.step, -1, -1⟩, ⟨5, b.step, -1, -1⟩] : List Nd).length = b.nodes.length + 2 := by simp
   have hfl : ((b.nodes ++ [⟨4, b.step, -1, -1⟩, ⟨5, b.step, -1, -1⟩] : List Nd).flatMap encN ++ sp).length = (b.nodes.length + 2) * 4 + sp.length := by rw [List.length_append, flat_len encN_len, hlx]
   have hset := set_node (b.nodes ++ [⟨4, b.step, -1, -1⟩, ⟨5, b.step, -1, -1⟩]) b.nodes.length (by omega) sp (b.nodes.length + 1 : Nat) false
   refine Gs 7 rfl (G.ld rfl Tryz.isAgg29 (hb4.blk.cells 0 _ rfl) (Ga 3 rfl (by omega) (G.ops1 rfl rfl (R.indexS Tryz.runUnderlying29 Tryz.sizeOf40 rfl rfl rfl (by simp; omega)) (Gs 1 rfl (G.mem0 rfl (M.store Tryz.sizeOf3 rfl rfl rfl rfl hBg (by rw [hfl]; show 0 + (b.nodes.length : Int).toNat * 4 + 2 < _; omega)) ?_)))))
   rintro w5 ⟨_, hBf, hkf⟩
   have e5 : 0 + (b.nodes.length : Int).toNat * 4 + 2 = b.nodes.length * 4 + (if false then 3 else 2) := by simp
   have hBf' : Blk w5 g (((b.nodes ++ [⟨4, b.step, -1, -1⟩, ⟨5, b.step, -1, -1⟩] : List Nd).flatMap encN ++ sp).set (0 + (b.nodes.length : Int).toNat * 4 + 2) (.int .i64 (b.nodes.length + 1 : Nat))) 40 := hBf
   rw [e5, hset] at hBf'
   have hK5 : KT bty W0 w4 w5 := KT.wrote hBg bty2 (hb4.far _ rfl) ⟨‹_›, hBf, hkf⟩
   have hE5 := hE4.trans hK5
   have hBc5 := hK5.blk hBc4 (by decide)
   have hgB := hb4.ne rfl
   have hb5 : BdS W0 B w5 { nodes := setE (b.nodes ++ [⟨4, b.step, -1, -1⟩, ⟨5, b.step, -1, -1⟩]) (b.nodes.length + 1 : Nat) (b.nodes.length, false), step := b.step + 1 } (.slice (some ⟨g, 0, none⟩) (b.nodes ++ [⟨4, b.step, -1, -1⟩, ⟨5, b.step, -1, -1⟩] : List Nd).length cap) := by
    refine ⟨hkf.blk hb4.blk (fun h => hgB h.symm), ?_, hb4.low, hb4.far⟩
    have h := own_shut encN_len (k := (b.nodes ++ [⟨4, b.step, -1, -1⟩, ⟨5, b.step, -1, -1⟩] : List Nd).length) hBf' (by rw [List.length_append, flat_len encN_len, setE_len, hlx]; exact hfl.symm.trans hlen) (by rw [setE_len]; exact Nat.le_refl _) hnc hcm
    rw [List.take_of_length_le (by rw [setE_len]; exact Nat.le_refl _)] at h
    dsimp only
    rw [setE_len]; exact h
   refine Gs 4 rfl (Dw (fun q => Blk q c [.int .i64 s.act, .int .i64 s.cost, .int .i64 s.var, .int .i64 s.n, .int .i64 s.term.op, .int .i64 s.term.n, v1, v2, v3, v4] 86) [] (fun w6 hk6 _ => ?_))
   have hBc6 := hk6.blk hBc5 (fun h => h)
   have hb6 := hb5.ext hk6
   have hE6 := hE5.ext' hk6
   refine Ds [0, 1] (by kernel_rfl) rfl (WD.take 2 rfl (by kernel_rfl) rfl rfl rfl hBc6 (fun w1 hw1 => R.load Tryz.isAgg24 rfl (hw1.cells 7 _ rfl)) (Da [3, 4, 5, 10] (by kernel_rfl) rfl (by omega) (WD.call 6 rfl (by kernel_rfl) rfl rfl rfl (F.call (vs := [_, _]) Tryz.call107 rfl) (next_ok B (b.nodes.length + 1) w6) ?_)))
   rintro x w7 ⟨hx, hk7⟩
   have hBc7 := hk7.blk hBc6 (fun h => h)
   have hb7 := hb6.ext hk7
   have hE7 := hE6.ext' hk7
   refine ⟨fun _ => hBc7, ?_⟩
   have hx0 := hx
   obtain ⟨bb, ab, rfl, _, _⟩ := hx
   refine WD.mem 7 rfl (by kernel_rfl) rfl rfl rfl (M.buildSlice (cs := [.func (.func 160) #[] #[.pointer (some ⟨bb, 0, none⟩), .pointer (some ⟨ab, 0, none⟩)]]) [(0, _)] Tryz.runUnderlying165 Tryz.sizeOf167 Tryz.zeroValue167 (by decide) rfl (by kernel_rfl)) ?_
   rintro _ w8 ⟨g8, rfl, hg8, hs8, hB8, hk8⟩
   have hBc8 := hk8.blk hBc7 (fun h => h)
   have hb8 := hb7.ext hk8
   have hE8 := hE7.ext' hk8
   refine ⟨fun _ => hBc8, ?_⟩
   have hu8 := Hung.lit hB8 (hx0.ext hk8)
   have hsz8 := hE8.size
   refine WD.call 8 rfl (by kernel_rfl) rfl rfl rfl (F.call (vs := [_, _, _]) Tryz.call106 rfl) (h1 W0 B _ _ D w8 _ _ _ (hE8.sl stable_st ht hD) hD hb8 hu8 (by intro e he; rw [List.mem_singleton.1 he]; dsimp only; rw [setE_len, hlx]; omega) (by omega) hp2.1.2 (by dsimp only; rw [setE_len, hlx]; omega) (by dsimp only; omega)) ?_
   rintro r9 w9 ⟨⟨nv9, hb9⟩, hu9, hf9, hK9⟩
   have hBc9 := hK9.blk hBc8 (by decide)
   have hE9 := hE8.trans hK9
   refine ⟨fun _ => hBc9, ?_⟩
   have hl9 := list_built s.thn hp2.1.2 { nodes := setE (b.nodes ++ [⟨4, b.step, -1, -1⟩, ⟨5, b.step, -1, -1⟩]) (b.nodes.length + 1 : Nat) (b.nodes.length, false), step := b.step + 1 } [(b.nodes.length + 1, false)] (by intro e he; rw [List.mem_singleton.1 he]; dsimp only; rw [setE_len, hlx]; omega)
   generalize hX : listB s.thn { nodes := setE (b.nodes ++ [⟨4, b.step, -1, -1⟩, ⟨5, b.step, -1, -1⟩]) (b.nodes.length + 1 : Nat) (b.nodes.length, false), step := b.step + 1 } [(b.nodes.length + 1, false)] = X at hb9 hu9 hl9 ⊢
   obtain ⟨a9, c9, rfl, _⟩ := hu9.form
   have hlen9 := hl9.len
   have hlt9 := hl9.lt
   have hmx9 := hu9.len
   dsimp only at hlen9
   rw [setE_len, hlx] at hlen9
   refine Ds [9] (by kernel_rfl) rfl (G.done (by kernel_rfl) ?_ _)
   refine Gs 1 rfl (G.cut (σ := Unit) (fun u => [(0, .pointer (some ⟨B, 0, none⟩)), (2, .int .i64 b.nodes.length)]) (fun u => fun w' => (∃ nv', BdS W0 B w' { X.1 with nodes := setAll X.1.nodes (b.nodes.length + 1 : Nat) X.2 } nv') ∧ KT bty W0 w w') ?_ ?_)
   ·
    refine Gs 1 rfl (G.loop (σ := Nat) (fun j => [(0, .pointer (some ⟨B, 0, none⟩)), (2, .int .i64 b.nodes.length), (71, .slice a9 X.2.length c9), (72, .int .i64 X.2.length), (73, .int .i64 j)]) (fun j => fun w' => j ≤ X.2.length ∧ (∃ nv', BdS W0 B w' { X.1 with nodes := setAll X.1.nodes (b.nodes.length + 1 : Nat) (X.2.take j) } nv') ∧ Hung B w' (.slice a9 X.2.length c9) X.2 ∧ KT bty W0 w w') (fun j => X.2.length - j) (0) (Sub.of rfl) (⟨Nat.zero_le _, ⟨_, hb9⟩, hu9, hE9⟩) ?_)
    rintro j y1 ⟨hj, ⟨nvj, hbj⟩, huj, hEj⟩
    refine Gs 6 rfl (G.ite rfl (fun hlt => ?_) (fun hge => ?_))
    ·
     obtain ⟨e, he⟩ : ∃ e, X.2[j]? = some e := ⟨_, List.getElem?_eq_getElem (by omega)⟩
     obtain ⟨ge, x, rfl, hcx, hHx⟩ := huj.at he
     obtain ⟨ie, pe⟩ := e
     obtain ⟨f, fcs, rfl, hcf, hcall⟩ := hang_ok W0 B ie pe (b.nodes.length + 1 : Nat) _ _ x y1 hbj hHx (by dsimp only; rw [setAll_len]; exact hlt9 _ (List.mem_of_getElem? he))
     refine Ga 7 rfl (by omega) (G.ld rfl Tryz.isAgg167 (hcx 0 _ rfl) (Ga 7 rfl (by omega) (G.callV rfl hcf hcall ?_)))
     rintro _ y2 ⟨hb', hK'⟩
     refine Ga 7 rfl (by omega) (G.back (j + 1) (Sub.of rfl) (⟨by omega, ⟨nvj, by rw [setAll_take he]; exact hb'⟩, huj.kt hK', hEj.trans hK'⟩) (by first | omega | (dsimp only; omega)))
    ·
     have hjj : j = X.2.length := by omega
     subst hjj
     rw [List.take_length] at hbj
     refine Gs 4 rfl (G.meet (()) (Sub.of rfl) (⟨⟨nvj, hbj⟩, hEj⟩))
   ·
    rintro u y3 ⟨⟨nv3', yb3⟩, yE3⟩
    refine Ga 6 rfl (by omega) (G.call rfl Tryz.call204 (other_ok B (b.nodes.length + 1) y3) ?_)
    rintro x y4 ⟨hx, yk4⟩
    have hx0 := hx
    obtain ⟨bb, ab, rfl, _, _⟩ := hx
    refine G.mem rfl rfl (M.buildSlice (cs := [.func (.func 220) #[] #[.pointer (some ⟨bb, 0, none⟩), .pointer (some ⟨ab, 0, none⟩)]]) [(0, _)] Tryz.runUnderlying165 Tryz.sizeOf167 Tryz.zeroValue167 (by decide) rfl (by kernel_rfl)) ?_
    rintro _ y5 ⟨g5, rfl, yg5, ys5, yB5, yk5⟩
    have := yE3.size
    have := yk4.size
    refine Gs 6 rfl (G.ret1 Tryz.results159 rfl ⟨_, rfl, ⟨nv3', (yb3.ext yk4).ext yk5⟩, Hung.lit yB5 (hx0.ext yk5), ⟨g5, rfl, by omega⟩, (yE3.ext' yk4).ext' yk5⟩)
  ·
   rw [if_neg a4]
   rw [if_neg a4] at hw
   rw [if_neg a3, if_neg a4] at hp2
   refine Gs 6 rfl (G.call rfl Tryz.call203 (add_ok W0 B 2 b nv w1 hb (by have := hk1.size; omega) (by omega)) ?_)
   rintro _ w2 ⟨⟨nv2, hb2⟩, hK2⟩
   have hE2 := hE1.trans hK2
   refine Gs 7 rfl (G.ld rfl Tryz.isAgg3 (hb2.blk.cells 1 (.int .i64 b.step) rfl) (Ga 3 rfl (by omega) (G.mem0 rfl (M.store Tryz.sizeOf3 rfl rfl rfl rfl hb2.blk (by simp)) ?_)))
   rintro w3 hw3
   obtain ⟨hb3, hK3⟩ := hb2.bump hw3
   have hE3 := hE2.trans hK3
   refine Gs 6 rfl (G.call rfl Tryz.call107 (next_ok B b.nodes.length w3) ?_)
   rintro x w4 ⟨hx, hk4⟩
   have hx0 := hx
   obtain ⟨bb, ab, rfl, _, _⟩ := hx
   refine G.mem rfl rfl (M.buildSlice (cs := [.func (.func 160) #[] #[.pointer (some ⟨bb, 0, none⟩), .pointer (some ⟨ab, 0, none⟩)]]) [(0, _)] Tryz.runUnderlying165 Tryz.sizeOf167 Tryz.zeroValue167 (by decide) rfl (by kernel_rfl)) ?_
   rintro _ w5 ⟨g5, rfl, hg5, hs5, hB5, hk5⟩
   have := hE3.size
   have := hk4.size
   refine Gs 4 rfl (G.ret1 Tryz.results159 rfl ⟨_, rfl, ⟨nv2, (hb3.ext hk4).ext hk5⟩, Hung.lit hB5 (hx0.ext hk5), ⟨g5, rfl, by omega⟩, (hE3.ext' hk4).ext' hk5⟩)
theorem drop_cons {α : Type} {l : List α} {i : Nat} {x : α} (h : l[i]? = some x) : l.drop i = x :: l.drop (i + 1) := by
 obtain ⟨h1, h2⟩ := List.getElem?_eq_some_iff.1 h
 rw [← h2, List.getElem_cons_drop]
theorem list_ok (l : List St) : ListOk l := by
 induction l using Sts.ind with
 | h l ih =>
 intro W0 B v vin D w b nv ins hl hD hb hu hlt hW hp hn hst
 obtain ⟨av, cv, rfl⟩ := hl.form
 have hmx := hl.max
 refine G.in3 Tryz.func106 rfl Tryz.ntmps106 rfl (Gs 14 rfl (G.loop (σ := Nat × Value) (fun ⟨i, vi⟩ => [(0, .pointer (some ⟨B, 0, none⟩)), (2, vi), (12, .slice av l.length cv), (13, .int .i64 l.length), (14, .int .i64 i)]) (fun ⟨i, vi⟩ => fun w' => i ≤ l.length ∧ (∃ b' nv' ins', BdS W0 B w' b' nv' ∧ Hung B w' vi ins' ∧ (∀ e ∈ ins', e.1 < b'.nodes.length) ∧ listB (l.drop i) b' ins' = listB l b ins ∧ b'.nodes.length = b.nodes.length + widL (l.take i) ∧ b'.step = b.step + ssize (l.take i)) ∧ (vi.ownBlock = vin.ownBlock ∨ ∃ g, vi.ownBlock = some g ∧ w.heap.size ≤ g) ∧ KT bty W0 w w') (fun ⟨i, vi⟩ => l.length - i) ((0, vin)) (Sub.of rfl) (⟨Nat.zero_le _, ⟨b, nv, ins, hb, hu, hlt, rfl, by simp [widL], by simp [ssize]⟩, .inl rfl, KT.refl⟩) ?_))
 rintro ⟨i, vi⟩ w1 ⟨hi, ⟨b1, nv1, ins1, hb1, hu1, hlt1, hL1, hn1, hs1⟩, hf1, hE1⟩
 show G _ _ _ _ _ [(0, .pointer (some ⟨B, 0, none⟩)), (2, vi), (12, .slice av l.length cv), (13, .int .i64 l.length), (14, .int .i64 i)] _
 refine Gs 6 rfl (G.ite rfl (fun hlt' => ?_) (fun hge => ?_))
 ·
  obtain ⟨s, he⟩ : ∃ x, l[i]? = some x := ⟨_, List.getElem?_eq_getElem (by omega)⟩
  have hm := List.mem_of_getElem? he
  have hl1 := hE1.sl stable_st hl hD
  obtain ⟨bq, oq, cq, haq, hDq, hcl, hcq, hRq⟩ : ∃ b o cs, av = some ⟨b, o, none⟩ ∧ D b ∧ cs.length = 10 ∧ Cells w1 b (o + i * 10) cs ∧ RSt D w1 s cs := by
   obtain ⟨ao', cap', h1, h2, h3, h4⟩ := hl1
   cases h1
   exact h4 i s he
  have hone := hRq.one
  have hps := plainL_mem hp s hm
  have hws := widL_split he
  have hzs := ssize_split he
  obtain ⟨v1, v2, v3, v4, rfl, q1, q2, q3, q4⟩ := hRq.get
  refine Gs 6 rfl (G.ops1 rfl rfl (R.indexS Tryz.runUnderlying24 Tryz.sizeOf86 rfl rfl haq (by omega)) (G.ldK rfl Tryz.isAgg86 Tryz.sizeOf86 hcq rfl (G.mem rfl rfl (M.alloc (cs := _) Tryz.zeroValue86 rfl) ?_)))
  rintro _ w2 ⟨c, rfl, hc, hsc, hBc0, hk2⟩
  refine G.mem0 rfl (M.storeK Tryz.sizeOf86 rfl rfl rfl rfl hone hBc0 (by simp)) ?_
  rintro w3 ⟨_, hBc, hkc⟩
  have hk3 : Ext w1 w3 := hk2.trans hkc (fun q hq h => by have h : q = c := h; omega)
  have hE3 := hE1.ext' hk3
  replace hb1 := hb1.ext hk3
  replace hu1 := hu1.ext hk3
  obtain ⟨an, cn, rfl, hnc, _⟩ := own_slice hb1.row
  obtain ⟨a1, c1, rfl, _⟩ := hu1.form
  have hmx1 := hu1.len
  have hBc' : Blk w3 c [.int .i64 s.act, .int .i64 s.cost, .int .i64 s.var, .int .i64 s.n, .int .i64 s.term.op, .int .i64 s.term.n, v1, v2, v3, v4] 86 := hBc
  refine Gs 7 rfl (G.ld rfl Tryz.isAgg29 (hb1.blk.cells 0 _ rfl) (Gs 13 rfl (G.loop (σ := Nat) (fun j => [(0, .pointer (some ⟨B, 0, none⟩)), (8, .pointer (some ⟨c, 0, none⟩)), (9, .int .i64 b1.nodes.length), (12, .slice av l.length cv), (13, .int .i64 l.length), (14, .int .i64 i), (23, .slice a1 ins1.length c1), (24, .int .i64 ins1.length), (25, .int .i64 j)]) (fun j => fun w' => j ≤ ins1.length ∧ BdS W0 B w' { b1 with nodes := setAll b1.nodes b1.nodes.length (ins1.take j) } (.slice an b1.nodes.length cn) ∧ Hung B w' (.slice a1 ins1.length c1) ins1 ∧ Blk w' c [.int .i64 s.act, .int .i64 s.cost, .int .i64 s.var, .int .i64 s.n, .int .i64 s.term.op, .int .i64 s.term.n, v1, v2, v3, v4] 86 ∧ KT bty W0 w3 w') (fun j => ins1.length - j) (0) (Sub.of rfl) (⟨Nat.zero_le _, hb1, hu1, hBc', KT.refl⟩) ?_)))
  rintro j y1 ⟨hj, hbj, huj, hBj, hFj⟩
  have hEj := hE3.trans hFj
  refine Gs 6 rfl (G.ite rfl (fun hjl => ?_) (fun hjg => ?_))
  ·
   obtain ⟨e, hee⟩ : ∃ e, ins1[j]? = some e := ⟨_, List.getElem?_eq_getElem (by omega)⟩
   obtain ⟨ge, x, rfl, hcx, hHx⟩ := huj.at hee
   obtain ⟨ie, pe⟩ := e
   obtain ⟨f, fcs, rfl, hcf, hcall⟩ := hang_ok W0 B ie pe (b1.nodes.length : Nat) _ _ x y1 hbj hHx (by dsimp only; rw [setAll_len]; exact hlt1 _ (List.mem_of_getElem? hee))
   refine Ga 7 rfl (by omega) (G.ld rfl Tryz.isAgg167 (hcx 0 _ rfl) (Gs 6 rfl (G.callV rfl hcf hcall ?_)))
   rintro _ y2 ⟨hb', hK'⟩
   refine Ga 7 rfl (by omega) (G.back (j + 1) (Sub.of rfl) (⟨by omega, by rw [setAll_take hee]; exact hb', huj.kt hK', hK'.blk hBj (by decide), hFj.trans hK'⟩) (by first | omega | (dsimp only; omega)))
  ·
   have hjj : j = ins1.length := by omega
   subst hjj
   rw [List.take_length] at hbj
   have hszj := hEj.size
   have hone := one_ok s (ih s hm).1 (ih s hm).2 W0 B _ D y1 { b1 with nodes := setAll b1.nodes b1.nodes.length ins1 } _ (RSt.put (s := s) (hFj.sl stable_tm (q1.ext stable_tm hk3) hD) (hFj.sl stable_st (q2.ext stable_st hk3) hD) (hFj.sl stable_st (q3.ext stable_st hk3) hD) (hFj.sl stable_int (q4.ext stable_int hk3) hD)) hD hbj (by omega) hps (by dsimp only; rw [setAll_len]; omega) (by dsimp only; omega)
   have hbt := one_built s hps (fun b ins h => list_built s.thn (by rw [s.plainB_eq, Bool.and_eq_true, Bool.and_eq_true] at hps; exact hps.1.2) b ins h) (fun b ins h => list_built s.els (by rw [s.plainB_eq, Bool.and_eq_true, Bool.and_eq_true] at hps; exact hps.2) b ins h) { b1 with nodes := setAll b1.nodes b1.nodes.length ins1 }
   simp only [setAll_len] at hone hbt
   refine Gs 7 rfl (G.ldK rfl Tryz.isAgg86 Tryz.sizeOf86 hBj.cells rfl (Gs 1 rfl (G.call rfl Tryz.call159 hone ?_)))
   rintro r y2 ⟨⟨nv2, hb2⟩, hu2, ⟨g2, hg2, hg2'⟩, hK2⟩
   refine Ga 8 rfl (by omega) (G.back ((i + 1, r)) (Sub.of rfl) (⟨by omega, ⟨_, nv2, _, hb2, hu2, hbt.lt, ?_, ?_, ?_⟩, .inr ⟨g2, hg2, by omega⟩, hEj.trans hK2⟩) (by first | omega | (dsimp only; omega)))
   · rw [← hL1, drop_cons he, listB_cons]
   · have := hbt.len; dsimp only at this; rw [setAll_len] at this; rw [widL_take he]; omega
   · have := hbt.step; dsimp only at this; rw [ssize_take he]; omega
 ·
  have hii : i = l.length := by omega
  subst hii
  rw [List.drop_length, listB] at hL1
  refine Gs 12 rfl (G.ret1 Tryz.results106 rfl ⟨_, rfl, ⟨nv1, by rw [← hL1]; exact hb1⟩, by rw [← hL1]; exact hu1, hf1, hE1⟩)
def kidsN (op : Int) : Int := if op = 0 ∨ op = 24 then 0 else if op = 6 ∨ op = 7 then 1 else if 8 ≤ op ∧ op ≤ 22 then 2 else if op = 23 then 3 else if op = 25 then -2 else -1
theorem flatKids_ok (op : Int) (w : World) : Calls Tryz.prog 218 #[.int .i64 op] w (Ret fun r w' => (∃ a b : Int, r = .tuple #[.int .i64 a, .int .i64 b] ∧ (a < 0 ↔ kidsN op = -1) ∧ (0 ≤ kidsN op → a = kidsN op ∧ b = kidsN op) ∧ (kidsN op = -2 → a = 2 ∧ b = 33)) ∧ Ext w w') := by
 refine G.in1 Tryz.func218 rfl Tryz.ntmps218 rfl (Gs 13 rfl (G.sp 7 rfl (fun h1 => ?_) (fun h1 => ?_)))
 ·
  refine Gs 16 rfl ?_
  have e : kidsN op = 0 := by unfold kidsN; rw [if_pos (by omega)]
  refine G.ret2 Tryz.results218 rfl rfl ⟨_, rfl, ⟨0, 0, rfl, by rw [e]; omega, fun _ => by rw [e]; exact ⟨rfl, rfl⟩, fun h => by rw [e] at h; omega⟩, Keep.refl _ _⟩
 ·
  refine Gs 6 rfl (G.ite rfl (fun h2 => ?_) (fun h2 => ?_))
  ·
   refine Gs 9 rfl ?_
   have e : kidsN op = 0 := by unfold kidsN; rw [if_pos (by omega)]
   refine G.ret2 Tryz.results218 rfl rfl ⟨_, rfl, ⟨0, 0, rfl, by rw [e]; omega, fun _ => by rw [e]; exact ⟨rfl, rfl⟩, fun h => by rw [e] at h; omega⟩, Keep.refl _ _⟩
  ·
   refine Gs 5 rfl (G.sp 14 rfl (fun h3 => ?_) (fun h3 => ?_))
   ·
    refine Gs 16 rfl ?_
    have e : kidsN op = 1 := by unfold kidsN; rw [if_neg (by omega), if_pos (by omega)]
    refine G.ret2 Tryz.results218 rfl rfl ⟨_, rfl, ⟨1, 1, rfl, by rw [e]; omega, fun _ => by rw [e]; exact ⟨rfl, rfl⟩, fun h => by rw [e] at h; omega⟩, Keep.refl _ _⟩
   ·
    refine Gs 6 rfl (G.ite rfl (fun h4 => ?_) (fun h4 => ?_))
    ·
     refine Gs 9 rfl ?_
     have e : kidsN op = 1 := by unfold kidsN; rw [if_neg (by omega), if_pos (by omega)]
     refine G.ret2 Tryz.results218 rfl rfl ⟨_, rfl, ⟨1, 1, rfl, by rw [e]; omega, fun _ => by rw [e]; exact ⟨rfl, rfl⟩, fun h => by rw [e] at h; omega⟩, Keep.refl _ _⟩
    ·
     refine Gs 1 rfl (G.cut (σ := Bool) (fun q => [(0, .int .i64 op), (18, .bool q)]) (fun q => fun w' => (q = true ↔ 8 ≤ op ∧ op ≤ 22) ∧ w' = w) ?_ ?_)
     ·
      refine Gs 4 rfl (G.sp 21 rfl (fun h5 => ?_) (fun h5 => ?_))
      · refine Gs 5 rfl (G.meet (decide (op ≤ 22)) (Sub.of rfl) (⟨by simp; omega, rfl⟩))
      · refine Gs 5 rfl (G.meet (false) (Sub.cons rfl (Sub.cons (by first | rfl | (show some (Value.bool false) = some (Value.bool _); simp [*])) Sub.nil)) (⟨by simp; omega, rfl⟩))
     ·
      rintro q w1 ⟨hq, hw1⟩
      subst hw1
      refine Gs 1 rfl (G.bool rfl (fun h6 => ?_) (fun h6 => ?_))
      ·
       have h7 := hq.1 h6
       refine Gs 9 rfl ?_
       have e : kidsN op = 2 := by unfold kidsN; rw [if_neg (by omega), if_neg (by omega), if_pos (by omega)]
       refine G.ret2 Tryz.results218 rfl rfl ⟨_, rfl, ⟨2, 2, rfl, by rw [e]; omega, fun _ => by rw [e]; exact ⟨rfl, rfl⟩, fun h => by rw [e] at h; omega⟩, Keep.refl _ _⟩
      ·
       have h7 : ¬ (8 ≤ op ∧ op ≤ 22) := fun h => by rw [hq.2 h] at h6; cases h6
       refine Gs 7 rfl (G.ite rfl (fun h8 => ?_) (fun h8 => ?_))
       ·
        refine Gs 9 rfl ?_
        have e : kidsN op = 3 := by unfold kidsN; rw [if_neg (by omega), if_neg (by omega), if_neg (by omega), if_pos (by omega)]
        refine G.ret2 Tryz.results218 rfl rfl ⟨_, rfl, ⟨3, 3, rfl, by rw [e]; omega, fun _ => by rw [e]; exact ⟨rfl, rfl⟩, fun h => by rw [e] at h; omega⟩, Keep.refl _ _⟩
       ·
        refine Gs 7 rfl (G.ite rfl (fun h9 => ?_) (fun h9 => ?_))
        ·
         refine Gs 9 rfl ?_
         have e : kidsN op = -2 := by unfold kidsN; rw [if_neg (by omega), if_neg (by omega), if_neg (by omega), if_neg (by omega), if_pos (by omega)]
         refine G.ret2 Tryz.results218 rfl rfl ⟨_, rfl, ⟨2, 33, rfl, by rw [e]; omega, fun h => by rw [e] at h; omega, fun _ => ⟨rfl, rfl⟩⟩, Keep.refl _ _⟩
        ·
         refine Gs 10 rfl ?_
         have e : kidsN op = -1 := by unfold kidsN; rw [if_neg (by omega), if_neg (by omega), if_neg (by omega), if_neg (by omega), if_neg (by omega)]
         refine G.ret2 Tryz.results218 rfl rfl ⟨_, rfl, ⟨-1, -1, rfl, by rw [e]; omega, fun h => by rw [e] at h; omega, fun h => by rw [e] at h; omega⟩, Keep.refl _ _⟩
@[irreducible] def letterB (n : Int) : Bool := decide (97 ≤ n ∧ n ≤ 122)
@[irreducible] def otherB (n : Int) : Bool := decide (48 ≤ n ∧ n ≤ 57 ∨ n = 46 ∨ n = 95)
def okB (i : Nat) (n : Int) : Bool := letterB n || (decide (i ≠ 0) && otherB n)
@[irreducible] def isNm (s : ByteArray) : Bool := decide (1 ≤ s.size ∧ s.size ≤ 40 ∧ ∀ (i : Nat) (h : i < s.size), okB i (s[i].toNat : Int) = true)
theorem refIsName_ok (s : ByteArray) (w : World) : Calls Tryz.prog 63 #[.string s] w (Ret fun r w' => r = .bool (isNm s) ∧ Ext w w') := by
 refine G.in1 Tryz.func63 rfl Tryz.ntmps63 rfl (Gs 12 rfl (G.sp 10 rfl (fun h1 => ?_) (fun h1 => ?_)))
 · refine Gs 14 rfl (G.ret1 Tryz.results63 rfl ⟨_, rfl, by rw [isNm, decide_eq_false (fun h => by omega)], Keep.refl _ _⟩)
 ·
  refine Gs 6 rfl (G.ite rfl (fun h2 => ?_) (fun h2 => ?_))
  · refine Gs 7 rfl (G.ret1 Tryz.results63 rfl ⟨_, rfl, by rw [isNm, decide_eq_false (fun h => by omega)], Keep.refl _ _⟩)
  ·
   refine Gs 9 rfl (G.loop (σ := Nat) (fun i => [(0, .string s), (3, .int .i64 i)]) (fun i => fun w' => i ≤ s.size ∧ (∀ (j : Nat) (h : j < s.size), j < i → okB j (s[j].toNat : Int) = true) ∧ w' = w) (fun i => s.size - i) (0) (Sub.of rfl) (⟨Nat.zero_le _, fun j _ h => absurd h (Nat.not_lt_zero _), rfl⟩) ?_)
   rintro i w1 ⟨hi, hall, hw1⟩
   subst hw1
   refine Gs 9 rfl (G.ite rfl (fun hlt => ?_) (fun hlt => ?_))
   ·
    have hlt' : i < s.size := by omega
    refine Gs 8 rfl (G.ops1 rfl rfl (R.indexStr Tryz.underlying9 rfl rfl i rfl hlt') ?_)
    obtain ⟨n, hn⟩ : ∃ n : Int, n = (s[i].toNat : Int) := ⟨_, rfl⟩
    rw [← hn]
    refine Gs 4 rfl (G.cut (σ := Bool) (fun q => [(0, .string s), (3, .int .i64 i), (4, .int .u8 n), (5, .bool q)]) (fun q => fun w' => q = letterB n ∧ w' = w1) ?_ ?_)
    ·
     refine Gs 4 rfl (G.sp 26 rfl (fun a => ?_) (fun a => ?_))
     · refine Gs 5 rfl (G.meet (decide (n ≤ 122)) (Sub.of rfl) (⟨by unfold letterB; congr 1; simp; omega, rfl⟩))
     · refine Gs 5 rfl (G.meet (false) (Sub.cons rfl (Sub.cons rfl (Sub.cons rfl (Sub.cons (by first | rfl | (show some (Value.bool false) = some (Value.bool _); simp [*])) Sub.nil)))) (⟨by unfold letterB; rw [decide_eq_false (by omega)], rfl⟩))
    rintro q w2 ⟨hq, hw2⟩
    subst hq
    refine Gs 2 rfl (G.cut (σ := Bool) (fun q => [(0, .string s), (3, .int .i64 i), (5, .bool (letterB n)), (6, .bool q)]) (fun q => fun w' => q = otherB n ∧ w' = w2) ?_ ?_)
    ·
     refine Gs 4 rfl (G.sp 32 rfl (fun a => ?_) (fun a => ?_))
     ·
      refine Gs 4 rfl (G.sp 36 rfl (fun b => ?_) (fun b => ?_))
      · refine Gs 9 rfl (G.meet (true) (Sub.cons rfl (Sub.cons rfl (Sub.cons rfl (Sub.cons (by first | rfl | (show some (Value.bool true) = some (Value.bool _); simp [*])) Sub.nil)))) (⟨by unfold otherB; rw [decide_eq_true (by omega)], rfl⟩))
      ·
       refine Gs 4 rfl (G.sp 40 rfl (fun c => ?_) (fun c => ?_))
       · refine Gs 5 rfl (G.meet (true) (Sub.cons rfl (Sub.cons rfl (Sub.cons rfl (Sub.cons (by first | rfl | (show some (Value.bool true) = some (Value.bool _); simp [*])) Sub.nil)))) (⟨by unfold otherB; rw [decide_eq_true (by omega)], rfl⟩))
       · refine Gs 5 rfl (G.meet (decide (n = 95)) (Sub.of rfl) (⟨by unfold otherB; congr 1; simp; omega, rfl⟩))
     ·
      refine Gs 8 rfl (G.sp 40 rfl (fun c => ?_) (fun c => ?_))
      · refine Gs 5 rfl (G.meet (true) (Sub.cons rfl (Sub.cons rfl (Sub.cons rfl (Sub.cons (by first | rfl | (show some (Value.bool true) = some (Value.bool _); simp [*])) Sub.nil)))) (⟨by unfold otherB; rw [decide_eq_true (by omega)], rfl⟩))
      · refine Gs 5 rfl (G.meet (decide (n = 95)) (Sub.of rfl) (⟨by unfold otherB; congr 1; simp; omega, rfl⟩))
    rintro q w3 ⟨hq, hw3⟩
    subst hq
    have hstep : okB i n = true → ∀ (j : Nat) (h : j < s.size), j < i + 1 → okB j (s[j].toNat : Int) = true := by
     intro h0 j h h1
     by_cases e : j = i
     · subst e; rw [← hn]; exact h0
     · exact hall j h (by omega)
    have hbad : okB i n = false → isNm s = false := by
     intro h0
     rw [isNm, decide_eq_false]
     rintro ⟨_, _, h3⟩
     have := h3 i hlt'
     rw [← hn, h0] at this
     cases this
    have hw : w3 = w1 := by rw [hw3, hw2]
    refine Gs 4 rfl (G.ops1 rfl rfl (R.notU rfl (by first | exact not_decide_eq | rfl)) (Gs 1 rfl (G.sb 46 rfl (fun l => ?_) (fun l => ?_))))
    ·
     have l' : letterB n = false := by simpa using l
     refine Gs 3 rfl (G.sp 49 rfl (fun z => ?_) (fun z => ?_))
     · refine Gs 18 rfl (G.ret1 Tryz.results63 rfl ⟨_, rfl, by rw [hbad (by unfold okB; rw [l', decide_eq_false (by omega)]; rfl)], by rw [hw]; exact Keep.refl _ _⟩)
     ·
      have z' : decide (i ≠ 0) = true := decide_eq_true (by omega)
      refine Gs 1 rfl (G.ops1 rfl rfl (R.notU rfl (by first | exact not_decide_eq | rfl)) (Gs 4 rfl (G.bool rfl (fun o => ?_) (fun o => ?_))))
      ·
       have o' : otherB n = false := by simpa using o
       refine Gs 11 rfl (G.ret1 Tryz.results63 rfl ⟨_, rfl, by rw [hbad (by unfold okB; rw [l', o']; simp)], by rw [hw]; exact Keep.refl _ _⟩)
      ·
       have o' : otherB n = true := by simpa using o
       refine Ga 8 rfl (by omega) (G.back (i + 1) (Sub.of rfl) (⟨by omega, hstep (by unfold okB; rw [o', z']; simp), hw⟩) (by first | omega | (dsimp only; omega)))
    ·
     have l' : letterB n = true := by simpa using l
     refine Ga 18 rfl (by omega) (G.back (i + 1) (Sub.of rfl) (⟨by omega, hstep (by unfold okB; rw [l']; rfl), hw⟩) (by first | omega | (dsimp only; omega)))
   · refine Gs 11 rfl (G.ret1 Tryz.results63 rfl ⟨_, rfl, by rw [isNm, decide_eq_true ⟨by omega, by omega, fun j h => hall j h (by omega)⟩], Keep.refl _ _⟩)
theorem flatIsName_ok (s : ByteArray) (w : World) : Calls Tryz.prog 150 #[.string s] w (Ret fun r w' => r = .bool (isNm s) ∧ Ext w w') := by
 refine G.in1 Tryz.func150 rfl Tryz.ntmps150 rfl (Gs 11 rfl (G.sp 8 rfl (fun h1 => ?_) (fun h1 => ?_)))
 ·
  have h1' : s.size = 0 := by
   have := congrArg List.length h1
   rw [ByteArray.toList_eq] at this
   simpa using this
  refine Gs 14 rfl (G.ret1 Tryz.results150 rfl ⟨_, rfl, by rw [isNm, decide_eq_false (fun h => by omega)], Keep.refl _ _⟩)
 ·
  have h1' : s.size ≠ 0 := by
   intro h
   apply h1
   have : s.toList.length = 0 := by rw [ByteArray.toList_eq]; simpa using h
   rw [List.eq_nil_of_length_eq_zero this, ByteArray.toList_eq]
  refine Gs 6 rfl (G.ite rfl (fun h2 => ?_) (fun h2 => ?_))
  · refine Gs 7 rfl (G.ret1 Tryz.results150 rfl ⟨_, rfl, by rw [isNm, decide_eq_false (fun h => by omega)], Keep.refl _ _⟩)
  ·
   refine Gs 11 rfl (G.loop (σ := Nat) (fun i => [(0, .string s), (14, .int .i64 s.size), (15, .int .i64 i)]) (fun i => fun w' => i ≤ s.size ∧ (∀ (j : Nat) (h : j < s.size), j < i → okB j (s[j].toNat : Int) = true) ∧ w' = w) (fun i => s.size - i) (0) (Sub.of rfl) (⟨Nat.zero_le _, fun j _ h => absurd h (Nat.not_lt_zero _), rfl⟩) ?_)
   rintro i w1 ⟨hi, hall, hw1⟩
   subst hw1
   refine Gs 6 rfl (G.ite rfl (fun hlt => ?_) (fun hlt => ?_))
   ·
    have hlt' : i < s.size := by omega
    refine Gs 14 rfl (G.ops1 rfl rfl (R.indexStr Tryz.underlying9 rfl rfl i rfl hlt') ?_)
    obtain ⟨n, hn⟩ : ∃ n : Int, n = (s[i].toNat : Int) := ⟨_, rfl⟩
    rw [← hn]
    refine Gs 4 rfl (G.cut (σ := Bool) (fun q => [(0, .string s), (14, .int .i64 s.size), (15, .int .i64 i), (3, .int .i64 i), (4, .int .u8 n), (5, .bool q)]) (fun q => fun w' => q = letterB n ∧ w' = w1) ?_ ?_)
    ·
     refine Gs 4 rfl (G.sp 23 rfl (fun a => ?_) (fun a => ?_))
     · refine Gs 5 rfl (G.meet (decide (n ≤ 122)) (Sub.of rfl) (⟨by unfold letterB; congr 1; simp; omega, rfl⟩))
     · refine Gs 5 rfl (G.meet (false) (Sub.cons rfl (Sub.cons rfl (Sub.cons rfl (Sub.cons rfl (Sub.cons rfl (Sub.cons (by first | rfl | (show some (Value.bool false) = some (Value.bool _); simp [*])) Sub.nil)))))) (⟨by unfold letterB; rw [decide_eq_false (by omega)], rfl⟩))
    rintro q w3 ⟨hq, hw⟩
    subst hq
    have hstep : okB i n = true → ∀ (j : Nat) (h : j < s.size), j < i + 1 → okB j (s[j].toNat : Int) = true := by
     intro h0 j h h1
     by_cases e : j = i
     · subst e; rw [← hn]; exact h0
     · exact hall j h (by omega)
    have hbad : okB i n = false → isNm s = false := by
     intro h0
     rw [isNm, decide_eq_false]
     rintro ⟨_, _, h3⟩
     have := h3 i hlt'
     rw [← hn, h0] at this
     cases this
    refine Gs 4 rfl (G.ops1 rfl rfl (R.notU rfl (by first | exact not_decide_eq | rfl)) (Gs 1 rfl (G.sb 29 rfl (fun l => ?_) (fun l => ?_))))
    ·
     have l' : letterB n = false := by simpa using l
     refine Gs 3 rfl (G.sp 32 rfl (fun z => ?_) (fun z => ?_))
     · refine Gs 30 rfl (G.ret1 Tryz.results150 rfl ⟨_, rfl, by rw [hbad (by unfold okB; rw [l', decide_eq_false (by omega)]; rfl)], by rw [hw]; exact Keep.refl _ _⟩)
     ·
      have z' : decide (i ≠ 0) = true := decide_eq_true (by omega)
      have fin : (otherB n = false → False) → okB i n = true := fun h => by
       unfold okB; rw [z']
       cases ho : otherB n
       · exact (h ho).elim
       · simp
      have bad : otherB n = false → isNm s = false := fun h => hbad (by unfold okB; rw [l', h]; simp)
      refine Gs 3 rfl (G.sp 35 rfl (fun a => ?_) (fun a => ?_))
      ·
       refine Gs 8 rfl (G.sp 43 rfl (fun b => ?_) (fun b => ?_))
       ·
        refine Gs 7 rfl (G.ite rfl (fun c => ?_) (fun c => ?_))
        ·
         have ho : otherB n = false := by unfold otherB; exact decide_eq_false (by omega)
         refine Gs 11 rfl (G.ret1 Tryz.results150 rfl ⟨_, rfl, by rw [bad ho], by rw [hw]; exact Keep.refl _ _⟩)
        · refine Ga 7 rfl (by omega) (G.back (i + 1) (Sub.of rfl) (⟨by omega, hstep (fin (fun h => by unfold otherB at h; have := of_decide_eq_false h; omega)), hw⟩) (by first | omega | (dsimp only; omega)))
       · refine Ga 15 rfl (by omega) (G.back (i + 1) (Sub.of rfl) (⟨by omega, hstep (fin (fun h => by unfold otherB at h; have := of_decide_eq_false h; omega)), hw⟩) (by first | omega | (dsimp only; omega)))
      ·
       refine Gs 4 rfl (G.sp 39 rfl (fun b0 => ?_) (fun b0 => ?_))
       ·
        refine Gs 4 rfl (G.sp 43 rfl (fun b => ?_) (fun b => ?_))
        ·
         refine Gs 7 rfl (G.ite rfl (fun c => ?_) (fun c => ?_))
         ·
          have ho : otherB n = false := by unfold otherB; exact decide_eq_false (by omega)
          refine Gs 11 rfl (G.ret1 Tryz.results150 rfl ⟨_, rfl, by rw [bad ho], by rw [hw]; exact Keep.refl _ _⟩)
         · refine Ga 7 rfl (by omega) (G.back (i + 1) (Sub.of rfl) (⟨by omega, hstep (fin (fun h => by unfold otherB at h; have := of_decide_eq_false h; omega)), hw⟩) (by first | omega | (dsimp only; omega)))
        · refine Ga 15 rfl (by omega) (G.back (i + 1) (Sub.of rfl) (⟨by omega, hstep (fin (fun h => by unfold otherB at h; have := of_decide_eq_false h; omega)), hw⟩) (by first | omega | (dsimp only; omega)))
       · refine Ga 19 rfl (by omega) (G.back (i + 1) (Sub.of rfl) (⟨by omega, hstep (fin (fun h => by unfold otherB at h; have := of_decide_eq_false h; omega)), hw⟩) (by first | omega | (dsimp only; omega)))
    ·
     have l' : letterB n = true := by simpa using l
     refine Ga 29 rfl (by omega) (G.back (i + 1) (Sub.of rfl) (⟨by omega, hstep (by unfold okB; rw [l']; rfl), hw⟩) (by first | omega | (dsimp only; omega)))
   · refine Gs 11 rfl (G.ret1 Tryz.results150 rfl ⟨_, rfl, by rw [isNm, decide_eq_true ⟨by omega, by omega, fun j h => hall j h (by omega)⟩], Keep.refl _ _⟩)
@[irreducible] def bndB (low high : Int) : Bool := decide (low ≤ high ∧ -1048576 ≤ low ∧ high ≤ 1048576)
theorem refBounded_ok (a b : Int) (w : World) : Calls Tryz.prog 64 #[.int .i64 a, .int .i64 b] w (Ret fun r w' => r = .bool (bndB a b) ∧ Ext w w') := by
 refine G.in2 Tryz.func64 rfl Tryz.ntmps64 rfl (Gs 11 rfl (G.sp 8 rfl (fun h1 => ?_) (fun h1 => ?_)))
 ·
  refine Gs 4 rfl (G.sp 12 rfl (fun h2 => ?_) (fun h2 => ?_))
  · refine Gs 7 rfl (G.ret1 Tryz.results64 rfl ⟨_, rfl, by unfold bndB; congr 2; simp; omega, Keep.refl _ _⟩)
  · refine Gs 7 rfl (G.ret1 Tryz.results64 rfl ⟨_, rfl, by rw [bndB, decide_eq_false (by omega)], Keep.refl _ _⟩)
 · refine Gs 11 rfl (G.ret1 Tryz.results64 rfl ⟨_, rfl, by rw [bndB, decide_eq_false (by omega)], Keep.refl _ _⟩)
theorem flatBounded_ok (a b : Int) (w : World) : Calls Tryz.prog 152 #[.int .i64 a, .int .i64 b] w (Ret fun r w' => r = .bool (bndB a b) ∧ Ext w w') := by
 refine G.in2 Tryz.func152 rfl Tryz.ntmps152 rfl (Gs 11 rfl (G.sp 8 rfl (fun h1 => ?_) (fun h1 => ?_)))
 ·
  refine Gs 4 rfl (G.sp 12 rfl (fun h2 => ?_) (fun h2 => ?_))
  · refine Gs 7 rfl (G.ret1 Tryz.results152 rfl ⟨_, rfl, by unfold bndB; congr 2; simp; omega, Keep.refl _ _⟩)
  · refine Gs 7 rfl (G.ret1 Tryz.results152 rfl ⟨_, rfl, by rw [bndB, decide_eq_false (by omega)], Keep.refl _ _⟩)
 · refine Gs 11 rfl (G.ret1 Tryz.results152 rfl ⟨_, rfl, by rw [bndB, decide_eq_false (by omega)], Keep.refl _ _⟩)
def kidsFit (op : Int) (n : Nat) : Bool := if 0 ≤ kidsN op then decide ((n : Int) = kidsN op) else decide (kidsN op = -2 ∧ 2 ≤ n ∧ n ≤ 33)
def isLocal (vs : List Vr) (n : Int) : Bool := match vs[n.toNat]? with
 | some v => decide (v.kind = 0)
 | none => false
def refFit (vs : List Vr) (inputs : Bool) (op n : Int) : Bool := if op = 24 then decide (0 ≤ n ∧ n < vs.length) && !(inputs && isLocal vs n) else decide (op = 0 ∨ n = 0)
mutual
def formedT (vs : List Vr) (inputs : Bool) : Tm → Bool
 | .mk op n ks => kidsFit op ks.length && refFit vs inputs op n && formedL vs inputs ks
def formedL (vs : List Vr) (inputs : Bool) : List Tm → Bool
 | [] => true
 | k :: r => formedT vs inputs k && formedL vs inputs r
end
section
variable {vs : List Vr} {inp : Bool}
theorem formedT_eq (t : Tm) : formedT vs inp t = (kidsFit t.op t.kids.length && refFit vs inp t.op t.n && formedL vs inp t.kids) := by cases t; rw [formedT]; rfl
theorem formedL_append (a b : List Tm) : formedL vs inp (a ++ b) = (formedL vs inp a && formedL vs inp b) := by
 induction a with
 | nil => simp [formedL]
 | cons x r ih => simp [formedL, ih, Bool.and_assoc]
theorem formedL_take {l : List Tm} {i : Nat} {x : Tm} (h : l[i]? = some x) : formedL vs inp (l.take (i + 1)) = (formedL vs inp (l.take i) && formedT vs inp x) := by rw [take_get h, formedL_append]; simp [formedL]
theorem formedL_mem {l : List Tm} {x : Tm} (h : formedL vs inp l = true) (hx : x ∈ l) : formedT vs inp x = true := by
 obtain ⟨i, hi⟩ := List.mem_iff_getElem?.1 hx
 rw [split_get hi, formedL_append] at h
 simp [formedL] at h
 exact h.2.1
theorem formedL_bad {l : List Tm} {x : Tm} (hx : x ∈ l) (h : formedT vs inp x = false) : formedL vs inp l = false := by
 cases h1 : formedL vs inp l with
 | false => rfl
 | true => rw [formedL_mem h1 hx] at h; cases h
theorem kidsFit_no {op : Int} {n : Nat} (h : kidsN op = -1 ∨ (0 ≤ kidsN op ∧ (n : Int) ≠ kidsN op) ∨ (kidsN op = -2 ∧ (n < 2 ∨ 33 < n))) : kidsFit op n = false := by
 unfold kidsFit
 split
 · exact decide_eq_false (by omega)
 · exact decide_eq_false (by omega)
theorem kidsFit_yes {op : Int} {n : Nat} (h : (0 ≤ kidsN op ∧ (n : Int) = kidsN op) ∨ (kidsN op = -2 ∧ 2 ≤ n ∧ n ≤ 33)) : kidsFit op n = true := by
 unfold kidsFit
 split
 · exact decide_eq_true (by omega)
 · exact decide_eq_true (by omega)
theorem kidsN_vals (op : Int) : kidsN op = 0 ∨ kidsN op = 1 ∨ kidsN op = 2 ∨ kidsN op = 3 ∨ kidsN op = -2 ∨ kidsN op = -1 := by
 unfold kidsN; (repeat' split); all_goals omega
theorem refFit_ref {n : Int} (h : 0 ≤ n ∧ n < vs.length) {v : Vr} (hv : vs[n.toNat]? = some v) : refFit vs inp 24 n = !(inp && decide (v.kind = 0)) := by
 unfold refFit isLocal
 rw [if_pos rfl, decide_eq_true h, hv, Bool.true_and]
theorem refFit_out {n : Int} (h : ¬ (0 ≤ n ∧ n < vs.length)) : refFit vs inp 24 n = false := by
 unfold refFit
 rw [if_pos rfl, decide_eq_false h]; rfl
theorem refFit_else {op n : Int} (h : op ≠ 24) : refFit vs inp op n = decide (op = 0 ∨ n = 0) := by
 unfold refFit
 rw [if_neg h]
end
theorem flatFormed_ok (vs : List Vr) (inp : Bool) (vv : Value) (Dv : Nat → Prop) (t : Tm) : ∀ (cs : List Value) (D : Nat → Prop) (w : World), SlR 5 RVr Dv w vv vs → RTm D w t cs → Calls Tryz.prog 196 #[vv, .agg cs.toArray, .bool inp] w (Ret fun r w' => r = .bool (formedT vs inp t) ∧ Ext w w') := by
 induction t using Tm.ind with
 | h t ih =>
 intro cs D w hvs ht
 have hcs1 := ht.one
 obtain ⟨v, rfl, hk⟩ := ht.get
 have hmx := hk.max
 obtain ⟨ao, cap, rfl⟩ := hk.form
 obtain ⟨av, nv, rfl⟩ := hvs.form
 have hfe := formedT_eq (vs := vs) (inp := inp) t
 have hkv := kidsN_vals t.op
 have hE := Keep.refl (fun _ => False) w
 refine G.in3 Tryz.func196 rfl Tryz.ntmps196 rfl (Gs 2 rfl (G.mem rfl rfl (M.box rfl rfl) ?_))
 rintro _ w_b ⟨b, rfl, hg_b, hs_b, hB_b, hk_b⟩
 have hge_b : _ ≤ b := Nat.le_trans hE.size (Nat.le_of_eq hg_b.symm)
 obtain ⟨hE, hvs, hk⟩ := Tr3 hk_b hE hvs hk
 refine Gs 6 rfl (G.ld rfl Tryz.isAgg81 (hB_b.cells 0 _ rfl) (G.call rfl Tryz.call218 (flatKids_ok t.op _) ?_))
 rintro _ wz1 ⟨⟨la, mo, rfl, hk1, hk2, hk3⟩, hz1⟩
 obtain ⟨hE, hvs, hk, hB_b⟩ := Tr4 hz1 hE hvs hk hB_b
 refine Gs 9 rfl (G.cut (σ := Bool) (fun q => [(0, .slice av vs.length nv), (2, .bool inp), (4, .pointer (some ⟨b, 0, none⟩)), (32, .bool q)]) (fun q => fun w' => q = (!kidsFit t.op t.kids.length) ∧ w' = wz1) ?_ ?_)
 ·
  refine Gs 4 rfl (G.sp 19 rfl (fun h1 => ?_) (fun h1 => ?_))
  · refine Gs 14 rfl (G.meet (true) (Sub.cons rfl (Sub.cons rfl (Sub.cons rfl (Sub.cons (by first | rfl | (show some (Value.bool true) = some (Value.bool _); simp [*])) Sub.nil)))) (⟨by rw [kidsFit_no (.inl (hk1.1 h1))]; rfl, rfl⟩))
  ·
   have h1' : kidsN t.op ≠ -1 := fun h => h1 (hk1.2 h)
   refine Gs 1 rfl (G.ld rfl Tryz.isAgg82 (hB_b.cells 2 _ rfl) (Gs 5 rfl (G.sp 26 rfl (fun h2 => ?_) (fun h2 => ?_))))
   ·
    refine Gs 7 rfl (G.meet (true) (Sub.cons rfl (Sub.cons rfl (Sub.cons rfl (Sub.cons (by first | rfl | (show some (Value.bool true) = some (Value.bool _); simp [*])) Sub.nil)))) (⟨?_, rfl⟩))
    rcases (show 0 ≤ kidsN t.op ∨ kidsN t.op = -2 by omega) with h | h
    ·
     have := hk2 h
     rw [kidsFit_no (.inr (.inl ⟨h, by omega⟩))]; rfl
    ·
     have := hk3 h
     rw [kidsFit_no (.inr (.inr ⟨h, by omega⟩))]; rfl
   ·
    refine Gs 1 rfl (G.ld rfl Tryz.isAgg82 (hB_b.cells 2 _ rfl) (Gs 5 rfl (G.meet (decide (mo < (t.kids.length : Int))) (Sub.of rfl) (⟨?_, rfl⟩))))
    rcases (show 0 ≤ kidsN t.op ∨ kidsN t.op = -2 by omega) with h | h
    ·
     have := hk2 h
     by_cases h3 : mo < (t.kids.length : Int)
     · rw [kidsFit_no (.inr (.inl ⟨h, by omega⟩)), decide_eq_true h3]; rfl
     · rw [kidsFit_yes (.inl ⟨h, by omega⟩), decide_eq_false h3]; rfl
    ·
     have := hk3 h
     by_cases h3 : mo < (t.kids.length : Int)
     · rw [kidsFit_no (.inr (.inr ⟨h, by omega⟩)), decide_eq_true h3]; rfl
     · rw [kidsFit_yes (.inr ⟨h, by omega, by omega⟩), decide_eq_false h3]; rfl
 rintro q w2 ⟨hq, hw2⟩
 subst hw2
 refine Gs 1 rfl (G.bool rfl (fun hq1 => ?_) (fun hq1 => ?_))
 ·
  have hf : kidsFit t.op t.kids.length = false := by rw [hq1] at hq; simpa using hq.symm
  refine Gs 7 rfl (G.ret1 Tryz.results196 rfl ⟨_, rfl, by rw [hfe, hf]; rfl, hE⟩)
 ·
  have hf : kidsFit t.op t.kids.length = true := by rw [hq1] at hq; simpa using hq.symm
  rw [hf, Bool.true_and] at hfe
  refine Gs 6 rfl (G.ld rfl Tryz.isAgg81 (hB_b.cells 0 _ rfl) (Gs 2 rfl (G.cut (σ := Unit) (fun u => [(0, .slice av vs.length nv), (2, .bool inp), (4, .pointer (some ⟨b, 0, none⟩))]) (fun u => fun w' => refFit vs inp t.op t.n = true ∧ w' = w2) ?_ ?_)))
  ·
   refine Gs 7 rfl (G.ite rfl (fun h0 => ?_) (fun h0 => ?_))
   ·
    have hrf := refFit_else (vs := vs) (inp := inp) (n := t.n) (show t.op ≠ 24 by omega)
    refine Gs 2 rfl (G.meet (()) (Sub.of rfl) (⟨by rw [hrf, decide_eq_true (by omega)], rfl⟩))
   ·
    refine Gs 6 rfl (G.ite rfl (fun h24 => ?_) (fun h24 => ?_))
    ·
     have hrn : ¬ (0 ≤ t.n ∧ t.n < vs.length) → formedT vs inp t = false := fun h => by rw [hfe, h24, refFit_out h]; rfl
     refine Gs 3 rfl (G.ld rfl Tryz.isAgg3 (hB_b.cells 1 _ rfl) (Gs 2 rfl (G.sp 45 rfl (fun n0 => ?_) (fun n0 => ?_))))
     · refine Gs 30 rfl (G.ret1 Tryz.results196 rfl ⟨_, rfl, by rw [hrn (by omega)], hE⟩)
     ·
      refine Gs 1 rfl (G.ld rfl Tryz.isAgg3 (hB_b.cells 1 _ rfl) (Gs 5 rfl (G.sp 52 rfl (fun n1 => ?_) (fun n1 => ?_))))
      · refine Gs 23 rfl (G.ret1 Tryz.results196 rfl ⟨_, rfl, by rw [hrn (by omega)], hE⟩)
      ·
       obtain ⟨x, he_x⟩ : ∃ x, vs[t.n.toNat]? = some x := ⟨_, List.getElem?_eq_getElem (by omega)⟩
       have hm_x := List.mem_of_getElem? he_x
       obtain ⟨b_x, o_x, c_x, ha_x, _, hc_x, hR_x⟩ := hvs.at he_x
       have h1_x := RVr.one hR_x
       obtain rfl := hR_x
       have hlt_x : b_x < _ := World.block_lt_of_cell? _ _ (hc_x 0 _ rfl)
       have hrf := refFit_ref (vs := vs) (inp := inp) (n := t.n) ⟨by omega, by omega⟩ he_x
       refine Gs 2 rfl (G.sb 54 rfl (fun hi => ?_) (fun hi => ?_))
       ·
        refine Gs 2 rfl (G.ld rfl Tryz.isAgg3 (hB_b.cells 1 _ rfl) (G.ops1 rfl rfl (R.indexS Tryz.runUnderlying22 Tryz.sizeOf125 rfl rfl ha_x (by omega)) (Gs 1 rfl (G.ld rfl Tryz.isAgg121 (hc_x 1 _ rfl) (Gs 5 rfl (G.ite rfl (fun hk0 => ?_) (fun hk0 => ?_)))))))
        · refine Gs 9 rfl (G.ret1 Tryz.results196 rfl ⟨_, rfl, by rw [hfe, h24, hrf, hi, decide_eq_true hk0]; rfl, hE⟩)
        · refine Gs 2 rfl (G.meet (()) (Sub.of rfl) (⟨by rw [h24, hrf, hi, decide_eq_false hk0]; rfl, rfl⟩))
       · refine Gs 14 rfl (G.meet (()) (Sub.of rfl) (⟨by rw [h24, hrf, hi]; rfl, rfl⟩))
    ·
     have hrf := refFit_else (vs := vs) (inp := inp) (n := t.n) h24
     refine Gs 3 rfl (G.ld rfl Tryz.isAgg3 (hB_b.cells 1 _ rfl) (Gs 3 rfl (G.ite rfl (fun n0 => ?_) (fun n0 => ?_))))
     · refine Gs 9 rfl (G.ret1 Tryz.results196 rfl ⟨_, rfl, by rw [hfe, hrf, decide_eq_false (by omega)]; rfl, hE⟩)
     · refine Gs 2 rfl (G.meet (()) (Sub.of rfl) (⟨by rw [hrf, decide_eq_true (by omega)], rfl⟩))
  rintro u w3 ⟨hrf, hw3⟩
  subst hw3
  rw [hrf, Bool.true_and] at hfe
  refine Gs 5 rfl (G.ld rfl Tryz.isAgg82 (hB_b.cells 2 _ rfl) (Gs 5 rfl (G.loop (σ := Nat) (fun i => [(0, .slice av vs.length nv), (2, .bool inp), (65, .slice ao t.kids.length cap), (66, .int .i64 t.kids.length), (67, .int .i64 i)]) (fun i => fun w' => i ≤ t.kids.length ∧ formedL vs inp (t.kids.take i) = true ∧ Ext w3 w') (fun i => t.kids.length - i) (0) (Sub.of rfl) (⟨Nat.zero_le _, by simp [formedL], Keep.refl _ _⟩) ?_)))
  rintro i w4 ⟨hi, hall, hL1⟩
  obtain ⟨hE, hvs, hk, hB_b⟩ := Tr4 hL1 hE hvs hk hB_b
  refine Gs 6 rfl (G.ite rfl (fun hlt => ?_) (fun hlt => ?_))
  ·
   obtain ⟨k, he_k⟩ : ∃ x, t.kids[i]? = some x := ⟨_, List.getElem?_eq_getElem (by omega)⟩
   have hm_k := List.mem_of_getElem? he_k
   obtain ⟨b_k, o_k, c_k, ha_k, _, hc_k, hR_k⟩ := hk.at he_k
   have h1_k := RTm.one hR_k
   obtain ⟨v1_k, rfl, hk_k⟩ := hR_k.get
   obtain ⟨a1_k, n1_k, rfl⟩ := hk_k.form
   have hlt_k : b_k < _ := World.block_lt_of_cell? _ _ (hc_k 0 _ rfl)
   refine Gs 6 rfl (G.ops1 rfl rfl (R.indexS Tryz.runUnderlying82 Tryz.sizeOf84 rfl rfl ha_k (by omega)) (G.ldK rfl Tryz.isAgg84 Tryz.sizeOf84 hc_k rfl (G.mem rfl rfl (M.alloc (cs := _) Tryz.zeroValue84 rfl) ?_)))
   rintro _ wa2 ⟨c, rfl, hg_c, hs_c, hB_c, hk_c⟩
   refine G.mem0 rfl (M.storeK Tryz.sizeOf84 rfl rfl rfl rfl h1_k hB_c (by simp)) ?_
   rintro w_c ⟨_, hB_c, hkk_c⟩
   replace hk_c := hk_c.trans hkk_c (fun q hq h => by have h : q = c := h; omega)
   have hn_b_c : b ≠ c := by have := hB_b.lt; omega
   have hge_c : _ ≤ c := Nat.le_trans hE.size (Nat.le_of_eq hg_c.symm)
   obtain ⟨hE, hvs, hk, hB_b, hL1, hc_k, hk_k⟩ := Tr7 hk_c hE hvs hk hB_b hL1 hc_k hk_k
   refine Gs 5 rfl (G.ldK rfl Tryz.isAgg84 Tryz.sizeOf84 hB_c.cells rfl (Gs 1 rfl (G.call rfl Tryz.call196 (ih k hm_k _ D _ hvs (RTm.put hk_k)) ?_)))
   rintro _ wz3 ⟨rfl, hz3⟩
   obtain ⟨hE, hvs, hk, hB_b, hL1, hc_k, hk_k⟩ := Tr7 hz3 hE hvs hk hB_b hL1 hc_k hk_k
   replace hB_c := Tr1 hz3 hB_c
   refine G.ops1 rfl rfl (R.notU rfl (by first | exact not_decide_eq | rfl)) (Gs 2 rfl (G.bool rfl (fun hb => ?_) (fun hb => ?_)))
   ·
    have hb' : formedT vs inp k = false := by simpa using hb
    refine Gs 11 rfl (G.ret1 Tryz.results196 rfl ⟨_, rfl, by rw [hfe, formedL_bad hm_k hb'], hE⟩)
   ·
    have hb' : formedT vs inp k = true := by simpa using hb
    refine Ga 7 rfl (by omega) (G.back (i + 1) (Sub.of rfl) (⟨by omega, by rw [formedL_take he_k, hall, hb']; rfl, hL1⟩) (by first | omega | (dsimp only; omega)))
  ·
   have : i = t.kids.length := by omega
   subst this
   rw [List.take_length] at hall
   refine Gs 11 rfl (G.ret1 Tryz.results196 rfl ⟨_, rfl, by rw [hfe, hall], hE⟩)
open Go.GL
abbrev Rg := Int × Int
def okR (r : Rg) : Bool := decide (-1048576 ≤ r.1 ∧ r.2 ≤ 1048576)
def Good (r : Rg) : Prop := -1048576 ≤ r.1 ∧ r.1 ≤ r.2 ∧ r.2 ≤ 1048576
def hullL (x : Rg) (l : List Rg) : Rg := l.foldl (fun o r => (min o.1 r.1, max o.2 r.2)) x
def cornersI (a b : Rg) : Rg := hullL (a.1 * b.1, a.1 * b.1) [(a.1 * b.2, a.1 * b.2), (a.2 * b.1, a.2 * b.1), (a.2 * b.2, a.2 * b.2)]
theorem hullL_take {x : Rg} {l : List Rg} {i : Nat} {r : Rg} (h : l[i]? = some r) : hullL x (l.take (i + 1)) = (min (hullL x (l.take i)).1 r.1, max (hullL x (l.take i)).2 r.2) := by
 rw [take_get h]; simp [hullL]
theorem mul_le {x y : Int} (hx : -1048576 ≤ x ∧ x ≤ 1048576) (hy : -1048576 ≤ y ∧ y ≤ 1048576) : -1099511627776 ≤ x * y ∧ x * y ≤ 1099511627776 := by
 have h1 := Int.natAbs_mul x y
 have h2 : x.natAbs * y.natAbs ≤ 1048576 * 1048576 := Nat.mul_le_mul (by omega) (by omega)
 omega
theorem hull_ok (a b : Rg) (w : World) : Calls Tryz.prog 228 #[.agg #[.int .i64 a.1, .int .i64 a.2], .agg #[.int .i64 b.1, .int .i64 b.2]] w (Ret fun r w' => r = .agg #[.int .i64 (min a.1 b.1), .int .i64 (max a.2 b.2)] ∧ Ext w w') := by
 have hE := Keep.refl (fun _ => False) w
 refine G.in2 Tryz.func228 rfl Tryz.ntmps228 rfl (Gs 2 rfl (G.mem rfl rfl (M.box rfl rfl) ?_))
 rintro _ w_x ⟨x, rfl, hg_x, hs_x, hB_x, hk_x⟩
 have hge_x : _ ≤ x := Nat.le_trans hE.size (Nat.le_of_eq hg_x.symm)
 replace hE := Tr1 hk_x hE
 refine G.mem rfl rfl (M.box rfl rfl) ?_
 rintro _ w_y ⟨y, rfl, hg_y, hs_y, hB_y, hk_y⟩
 have hn_x_y : x ≠ y := by have := hB_x.lt; omega
 have hge_y : _ ≤ y := Nat.le_trans hE.size (Nat.le_of_eq hg_y.symm)
 obtain ⟨hE, hB_x⟩ := Tr2 hk_y hE hB_x
 refine G.mem rfl rfl (M.alloc (cs := _) Tryz.zeroValue243 rfl) ?_
 rintro _ w_r ⟨r, rfl, hg_r, hs_r, hB_r, hk_r⟩
 have hn_x_r : x ≠ r := by have := hB_x.lt; omega
 have hn_y_r : y ≠ r := by have := hB_y.lt; omega
 have hge_r : _ ≤ r := Nat.le_trans hE.size (Nat.le_of_eq hg_r.symm)
 obtain ⟨hE, hB_x, hB_y⟩ := Tr3 hk_r hE hB_x hB_y
 refine Gs 5 rfl (G.ld rfl Tryz.isAgg3 (hB_x.cells 0 _ rfl) (Gs 1 rfl (G.ld rfl Tryz.isAgg3 (hB_y.cells 0 _ rfl) (Gs 2 rfl (G.ld rfl Tryz.isAgg3 (hB_x.cells 1 _ rfl) (Gs 1 rfl (G.ld rfl Tryz.isAgg3 (hB_y.cells 1 _ rfl) (Gs 1 rfl (G.ops1 rfl rfl (R.build (v := .agg #[.int .i64 (min a.1 b.1), .int .i64 (max a.2 b.2)]) [(0, _), (1, _)] rfl (fun _ => by kernel_rfl)) (G.mem0 rfl (M.storeK Tryz.sizeOf243 rfl rfl rfl rfl (by simp [Value.oneCell']) hB_r (by simp)) ?_))))))))))
 rintro wf ⟨_, hBf, hkf⟩
 refine Gs 3 rfl (G.retC Tryz.results228 rfl (run_loadK Tryz.isAgg243 Tryz.sizeOf243 rfl hBf.cells) ?_)
 exact ⟨_, rfl, rfl, hE.trans hkf (fun q hq h => by have h : q = r := h; omega)⟩
theorem mulF_ok (a b : Int) (w : World) (ha : -1048576 ≤ a ∧ a ≤ 1048576) (hb : -1048576 ≤ b ∧ b ≤ 1048576) : Calls Tryz.prog 227 #[.int .i64 a, .int .i64 b] w (Ret fun r w' => r = .int .i64 (a * b) ∧ Ext w w') := by
 have := mul_le ha hb
 refine G.in2 Tryz.func227 rfl Tryz.ntmps227 rfl (Ga 14 rfl (by omega) (G.ret1 Tryz.results227 rfl ⟨_, rfl, rfl, Keep.refl _ _⟩))
theorem corners_ok (a b : Rg) (w : World) (ha : Good a) (hb : Good b) : Calls Tryz.prog 226 #[.agg #[.int .i64 a.1, .int .i64 a.2], .agg #[.int .i64 b.1, .int .i64 b.2], .func (.func 227) #[] #[]] w (Ret fun r w' => r = .agg #[.int .i64 (cornersI a b).1, .int .i64 (cornersI a b).2] ∧ Ext w w') := by
 unfold Good at ha hb
 have hE := Keep.refl (fun _ => False) w
 refine G.in3 Tryz.func226 rfl Tryz.ntmps226 rfl (Gs 2 rfl (G.mem rfl rfl (M.box rfl rfl) ?_))
 rintro _ w_x ⟨x, rfl, hg_x, hs_x, hB_x, hk_x⟩
 have hge_x : _ ≤ x := Nat.le_trans hE.size (Nat.le_of_eq hg_x.symm)
 replace hE := Tr1 hk_x hE
 refine G.mem rfl rfl (M.box rfl rfl) ?_
 rintro _ w_y ⟨y, rfl, hg_y, hs_y, hB_y, hk_y⟩
 have hn_x_y : x ≠ y := by have := hB_x.lt; omega
 have hge_y : _ ≤ y := Nat.le_trans hE.size (Nat.le_of_eq hg_y.symm)
 obtain ⟨hE, hB_x⟩ := Tr2 hk_y hE hB_x
 refine G.mem rfl rfl (M.alloc (cs := _) Tryz.zeroValue243 rfl) ?_
 rintro _ w_r ⟨r, rfl, hg_r, hs_r, hB_r, hk_r⟩
 have hn_x_r : x ≠ r := by have := hB_x.lt; omega
 have hn_y_r : y ≠ r := by have := hB_y.lt; omega
 have hge_r : _ ≤ r := Nat.le_trans hE.size (Nat.le_of_eq hg_r.symm)
 obtain ⟨hE, hB_x, hB_y⟩ := Tr3 hk_r hE hB_x hB_y
 refine Gs 6 rfl (G.ld rfl Tryz.isAgg3 (hB_x.cells 0 _ rfl) (Gs 1 rfl (G.ld rfl Tryz.isAgg3 (hB_y.cells 0 _ rfl) (G.callV rfl Tryz.call227 (mulF_ok a.1 b.1 _ (by omega) (by omega)) ?_))))
 rintro _ wz1 ⟨rfl, hz1⟩
 obtain ⟨hE, hB_x, hB_y, hB_r⟩ := Tr4 hz1 hE hB_x hB_y hB_r
 refine Gs 7 rfl (G.ops1 rfl rfl (R.build (v := .agg #[.int .i64 (a.1 * b.1), .int .i64 (a.1 * b.1)]) [(0, _), (1, _)] rfl (fun _ => by kernel_rfl)) (G.mem rfl rfl (M.alloc (cs := _) Tryz.zeroValue243 rfl) ?_))
 rintro _ wa2 ⟨o, rfl, hg_o, hs_o, hB_o, hk_o⟩
 refine G.mem0 rfl (M.storeK Tryz.sizeOf243 rfl rfl rfl rfl (by simp [Value.oneCell']) hB_o (by simp)) ?_
 rintro w_o ⟨_, hB_o, hkk_o⟩
 replace hk_o := hk_o.trans hkk_o (fun q hq h => by have h : q = o := h; omega)
 have hn_x_o : x ≠ o := by have := hB_x.lt; omega
 have hn_y_o : y ≠ o := by have := hB_y.lt; omega
 have hn_r_o : r ≠ o := by have := hB_r.lt; omega
 have hge_o : _ ≤ o := Nat.le_trans hE.size (Nat.le_of_eq hg_o.symm)
 obtain ⟨hE, hB_x, hB_y, hB_r⟩ := Tr4 hk_o hE hB_x hB_y hB_r
 refine Gs 4 rfl (Dw (fun q => Ext w_o q) [] (fun wd3 hD _ => ?_))
 refine Ds [0, 1] (by kernel_rfl) rfl (WD.take 2 rfl (by kernel_rfl) rfl rfl rfl hD (fun w1 hw1 => R.load Tryz.isAgg3 rfl ((hw1.blk hB_x (fun h => h)).cells 0 _ rfl)) (Ds [3] (by kernel_rfl) rfl (WD.take 4 rfl (by kernel_rfl) rfl rfl rfl hD (fun w1 hw1 => R.load Tryz.isAgg3 rfl ((hw1.blk hB_y (fun h => h)).cells 1 _ rfl)) (Ds [6, 7] (by kernel_rfl) rfl (WD.take 8 rfl (by kernel_rfl) rfl rfl rfl hD (fun w1 hw1 => R.load Tryz.isAgg3 rfl ((hw1.blk hB_x (fun h => h)).cells 1 _ rfl)) (Ds [9] (by kernel_rfl) rfl (WD.take 10 rfl (by kernel_rfl) rfl rfl rfl hD (fun w1 hw1 => R.load Tryz.isAgg3 rfl ((hw1.blk hB_y (fun h => h)).cells 0 _ rfl)) ?_)))))))
 refine Ds [12, 13] (by kernel_rfl) rfl (WD.take 14 rfl (by kernel_rfl) rfl rfl rfl hD (fun w1 hw1 => R.load Tryz.isAgg3 rfl ((hw1.blk hB_x (fun h => h)).cells 1 _ rfl)) (Ds [15] (by kernel_rfl) rfl (WD.take 16 rfl (by kernel_rfl) rfl rfl rfl hD (fun w1 hw1 => R.load Tryz.isAgg3 rfl ((hw1.blk hB_y (fun h => h)).cells 1 _ rfl)) (Ds [20] (by kernel_rfl) rfl (WD.call 5 rfl (by kernel_rfl) rfl rfl rfl (F.callV (vs := [_, _]) Tryz.call227 rfl rfl) (mulF_ok a.1 b.2 _ (by omega) (by omega)) ?_)))))
 rintro _ wz4 ⟨rfl, hz4⟩
 replace hD := hD.ext hz4
 refine ⟨fun _ => hD, ?_⟩
 refine WD.call 11 rfl (by kernel_rfl) rfl rfl rfl (F.callV (vs := [_, _]) Tryz.call227 rfl rfl) (mulF_ok a.2 b.1 _ (by omega) (by omega)) ?_
 rintro _ wz5 ⟨rfl, hz5⟩
 replace hD := hD.ext hz5
 refine ⟨fun _ => hD, ?_⟩
 refine WD.call 17 rfl (by kernel_rfl) rfl rfl rfl (F.callV (vs := [_, _]) Tryz.call227 rfl rfl) (mulF_ok a.2 b.2 _ (by omega) (by omega)) ?_
 rintro _ wz6 ⟨rfl, hz6⟩
 replace hD := hD.ext hz6
 refine ⟨fun _ => hD, ?_⟩
 refine WD.mem 18 rfl (by kernel_rfl) rfl rfl rfl (M.buildSlice (cs := [.int .i64 (a.1 * b.2), .int .i64 (a.2 * b.1), .int .i64 (a.2 * b.2)]) [(0, _), (1, _), (2, _)] Tryz.runUnderlying50 Tryz.sizeOf3 Tryz.zeroValue3 (by decide) rfl (by kernel_rfl)) ?_
 rintro _ ws ⟨s, rfl, hg_s, hs_s, hB_s, hk_s⟩
 have hEs := hD.ext hk_s
 have hso : s ≠ o := by have := hB_o.lt; have := hD.size; omega
 refine ⟨fun _ => hEs, ?_⟩
 refine Ds [19] (by kernel_rfl) rfl (G.done (by kernel_rfl) ?_ _)
 obtain ⟨hE, hB_x, hB_y, hB_r, hB_o⟩ := Tr5 hEs hE hB_x hB_y hB_r hB_o
 obtain ⟨es, hes⟩ : ∃ es : List Int, es = [a.1 * b.2, a.2 * b.1, a.2 * b.2] := ⟨_, rfl⟩
 have hel : es.length = 3 := by rw [hes]; rfl
 have hBs : Blk ws s (es.map (.int .i64)) 3 := by rw [hes]; exact hB_s
 have hp := mul_le (x := a.1) (y := b.1) (by omega) (by omega)
 refine Gs 2 rfl (G.loop (σ := Nat) (fun k => [(6, .pointer (some ⟨r, 0, none⟩)), (8, .pointer (some ⟨o, 0, none⟩)), (38, .slice (some ⟨s, 0, none⟩) 3 3), (39, .int .i64 3), (40, .int .i64 k)]) (fun k => fun w' => k ≤ 3 ∧ Blk w' o [.int .i64 (hullL (a.1 * b.1, a.1 * b.1) ((es.map (fun x => (x, x))).take k)).1, .int .i64 (hullL (a.1 * b.1, a.1 * b.1) ((es.map (fun x => (x, x))).take k)).2] 243 ∧ Keep (fun q => q = o) ws w') (fun k => 3 - k) (0) (Sub.of rfl) (⟨Nat.zero_le _, hB_o, Keep.refl _ _⟩) ?_)
 rintro k w1 ⟨hk, hB_o, hk1⟩
 refine Gs 6 rfl (G.ite rfl (fun hlt => ?_) (fun hlt => ?_))
 ·
  obtain ⟨x, hx⟩ : ∃ x, es[k]? = some x := ⟨_, List.getElem?_eq_getElem (by omega)⟩
  refine Ga 7 rfl (by omega) (G.ld rfl Tryz.isAgg3 ((hk1.blk hBs hso).cells.el1 k rfl (by rw [List.getElem?_map, hx]; rfl)) ?_)
  refine Gs 4 rfl (G.ldK rfl Tryz.isAgg243 Tryz.sizeOf243 hB_o.cells rfl (Gs 2 rfl (G.ops1 rfl rfl (R.build (v := .agg #[.int .i64 x, .int .i64 x]) [(0, _), (1, _)] rfl (fun _ => by kernel_rfl)) (G.call rfl Tryz.call228 (hull_ok (hullL (a.1 * b.1, a.1 * b.1) ((es.map (fun x => (x, x))).take k)) (x, x) w1) ?_))))
  rintro _ w2 ⟨rfl, hk2⟩
  refine G.mem0 rfl (M.storeK Tryz.sizeOf243 rfl rfl rfl rfl (by simp [Value.oneCell']) (hk2.blk hB_o (fun h => h)) (by simp)) ?_
  rintro w3 ⟨_, hB3, hk3⟩
  refine Ga 7 rfl (by omega) (G.back (k + 1) (Sub.of rfl) (⟨by omega, ?_, (hk1.ext hk2).trans hk3 (fun _ _ h => h)⟩) (by first | omega | (dsimp only; omega)))
  rw [hullL_take (show (es.map (fun x => (x, x)))[k]? = some (x, x) by rw [List.getElem?_map, hx]; rfl)]
  exact hB3
 ·
  have hk3 : k = 3 := by omega
  subst hk3
  have hr1 := hk1.blk hB_r hn_r_o
  have e : hullL (a.1 * b.1, a.1 * b.1) ((es.map (fun x => (x, x))).take 3) = cornersI a b := by rw [hes]; rfl
  rw [e] at hB_o
  refine Gs 7 rfl (G.ldK rfl Tryz.isAgg243 Tryz.sizeOf243 hB_o.cells rfl (G.mem0 rfl (M.storeK Tryz.sizeOf243 rfl rfl rfl rfl (by simp [Value.oneCell']) hr1 (by simp)) ?_))
  rintro wf ⟨_, hBf, hkf⟩
  refine Gs 3 rfl (G.retC Tryz.results226 rfl (run_loadK Tryz.isAgg243 Tryz.sizeOf243 rfl hBf.cells) ?_)
  exact ⟨_, rfl, rfl, (hE.trans hk1 (fun q hq h => by have h : q = o := h; omega)).trans hkf (fun q hq h => by have h : q = r := h; omega)⟩
def at2 (l : List Rg) (i : Nat) : Rg := l[i]?.getD (0, 0)
theorem at2_eq {l : List Rg} {i : Nat} {x : Rg} (h : l[i]? = some x) : at2 l i = x := by simp [at2, h]
def vat (vs : List Vr) (n : Int) : Rg := match vs[n.toNat]? with
 | some v => (v.low, v.high)
 | none => (0, 0)
theorem vat_eq {vs : List Vr} {n : Int} {v : Vr} (h : vs[n.toNat]? = some v) : vat vs n = (v.low, v.high) := by simp [vat, h]
def spanOf (vs : List Vr) (op n : Int) (l : List Rg) : Rg :=
 if op = 0 then (n, n)
 else if op = 24 then vat vs n
 else if op = 6 then (-(at2 l 0).2, -(at2 l 0).1)
 else if op = 8 then ((at2 l 0).1 + (at2 l 1).1, (at2 l 0).2 + (at2 l 1).2)
 else if op = 9 then ((at2 l 0).1 - (at2 l 1).2, (at2 l 0).2 - (at2 l 1).1)
 else if op = 10 then cornersI (at2 l 0) (at2 l 1)
 else if op = 11 then (if 0 ≤ (at2 l 0).1 ∧ 0 ≤ (at2 l 1).1 then 0 else -(max (at2 l 0).2 (-(at2 l 0).1)), max (at2 l 0).2 (-(at2 l 0).1))
 else if op = 12 then (if (at2 l 1).1 < 0 then min ((at2 l 1).1 + 1) 0 else 0, if 0 < (at2 l 1).2 then max ((at2 l 1).2 - 1) 0 else 0)
 else if op = 21 then (min (at2 l 0).1 (at2 l 1).1, min (at2 l 0).2 (at2 l 1).2)
 else if op = 22 then (max (at2 l 0).1 (at2 l 1).1, max (at2 l 0).2 (at2 l 1).2)
 else if op = 23 ∨ op = 25 then hullL (at2 l 1) (l.drop 2)
 else (0, 1)
structure NodeOk (vs : List Vr) (op n : Int) (l : List Rg) : Prop where
 k0 : op = 0 ∨ op = 24 → l.length = 0
 k1 : op = 6 ∨ op = 7 → l.length = 1
 k2 : 8 ≤ op ∧ op ≤ 22 → l.length = 2
 k3 : op = 23 ∨ op = 25 → 2 ≤ l.length ∧ l.length ≤ 33
 good : ∀ r ∈ l, Good r
 var : op = 24 → 0 ≤ n ∧ n < vs.length
 vars : ∀ v ∈ vs, Good (v.low, v.high)
theorem nodeOk_of {vs : List Vr} {inp : Bool} {op n : Int} {l : List Rg} {k : Nat} (hl : l.length = k) (h1 : kidsFit op k = true) (h2 : refFit vs inp op n = true) (hg : ∀ r ∈ l, Good r) (hv : ∀ v ∈ vs, Good (v.low, v.high)) : NodeOk vs op n l := by
 have h3 : (0 ≤ kidsN op → (l.length : Int) = kidsN op) ∧ (¬ 0 ≤ kidsN op → 2 ≤ l.length ∧ l.length ≤ 33) := by
  unfold kidsFit at h1
  rw [hl]
  constructor
  · intro h; rw [if_pos h] at h1; exact of_decide_eq_true h1
  · intro h; rw [if_neg h] at h1; exact (of_decide_eq_true h1).2
 unfold kidsN at h3
 refine ⟨fun h => ?_, fun h => ?_, fun h => ?_, fun h => ?_, hg, fun h => ?_, hv⟩
 · rw [if_pos h] at h3; have := h3.1 (by omega); omega
 · rw [if_neg (by omega), if_pos h] at h3; have := h3.1 (by omega); omega
 · rw [if_neg (by omega), if_neg (by omega), if_pos h] at h3; have := h3.1 (by omega); omega
 ·
  rcases h with h | h
  · rw [if_neg (by omega), if_neg (by omega), if_neg (by omega), if_pos h] at h3; have := h3.1 (by omega); omega
  · rw [if_neg (by omega), if_neg (by omega), if_neg (by omega), if_neg (by omega), if_pos h] at h3; exact h3.2 (by omega)
 ·
  unfold refFit at h2
  rw [if_pos h, Bool.and_eq_true] at h2
  exact of_decide_eq_true h2.1
theorem rule_ok (vs : List Vr) (t : Tm) (ks : List Rg) (vv kv : Value) (cs : List Value) (Dv D Dk : Nat → Prop) (w : World) (hvs : SlR 5 RVr Dv w vv vs) (ht : RTm D w t cs) (hks : SlR 2 RPair Dk w kv ks) (hn : NodeOk vs t.op t.n ks) : Calls Tryz.prog 219 #[vv, .agg cs.toArray, kv] w (Ret fun r w' => r = .agg #[.int .i64 (spanOf vs t.op t.n ks).1, .int .i64 (spanOf vs t.op t.n ks).2] ∧ Ext w w') := by
 obtain ⟨v, rfl, hk⟩ := ht.get
 obtain ⟨av, nv, rfl⟩ := hvs.form
 obtain ⟨ak, nk, rfl⟩ := hks.form
 have hmx := hks.max
 have hE := Keep.refl (fun _ => False) w
 refine G.in3 Tryz.func219 rfl Tryz.ntmps219 rfl (Gs 2 rfl (G.mem rfl rfl (M.box rfl rfl) ?_))
 rintro _ w_b ⟨b, rfl, hg_b, hs_b, hB_b, hk_b⟩
 have hge_b : _ ≤ b := Nat.le_trans hE.size (Nat.le_of_eq hg_b.symm)
 obtain ⟨hE, hvs, hks⟩ := Tr3 hk_b hE hvs hks
 refine G.mem rfl rfl (M.alloc (cs := _) Tryz.zeroValue243 rfl) ?_
 rintro _ w_r ⟨r, rfl, hg_r, hs_r, hB_r, hk_r⟩
 have hn_b_r : b ≠ r := by have := hB_b.lt; omega
 have hge_r : _ ≤ r := Nat.le_trans hE.size (Nat.le_of_eq hg_r.symm)
 obtain ⟨hE, hvs, hks, hB_b⟩ := Tr4 hk_r hE hvs hks hB_b
 refine Gs 6 rfl (G.ld rfl Tryz.isAgg81 (hB_b.cells 0 _ rfl) (Gs 9 rfl (G.ite rfl (fun h0 => ?_) (fun h0 => ?_))))
 ·
  have e : spanOf vs t.op t.n ks = (t.n, t.n) := by rw [spanOf, if_pos h0]
  refine Gs 3 rfl (G.ld rfl Tryz.isAgg3 (hB_b.cells 1 _ rfl) (Gs 1 rfl (G.ld rfl Tryz.isAgg3 (hB_b.cells 1 _ rfl) (G.ops1 rfl rfl (R.build (v := .agg #[.int .i64 t.n, .int .i64 t.n]) [(0, _), (1, _)] rfl (fun _ => by kernel_rfl)) (G.mem0 rfl (M.storeK Tryz.sizeOf243 rfl rfl rfl rfl (by simp [Value.oneCell']) hB_r (by simp)) ?_)))))
  rintro wf ⟨_, hBf, hkf⟩
  refine Gs 5 rfl (G.retC Tryz.results219 rfl (run_loadK Tryz.isAgg243 Tryz.sizeOf243 rfl hBf.cells) ?_)
  exact ⟨_, rfl, by rw [e] <;> rfl, hE.trans hkf (fun q hq h => by have h : q = r := h; omega)⟩
 ·
  refine Gs 6 rfl (G.ite rfl (fun h24 => ?_) (fun h24 => ?_))
  ·
   have hv := hn.var h24
   obtain ⟨x, he_x⟩ : ∃ x, vs[t.n.toNat]? = some x := ⟨_, List.getElem?_eq_getElem (by omega)⟩
   have hm_x := List.mem_of_getElem? he_x
   obtain ⟨b_x, o_x, c_x, ha_x, _, hc_x, hR_x⟩ := hvs.at he_x
   have h1_x := RVr.one hR_x
   obtain rfl := hR_x
   have hlt_x : b_x < _ := World.block_lt_of_cell? _ _ (hc_x 0 _ rfl)
   have e : spanOf vs t.op t.n ks = (x.low, x.high) := by rw [spanOf, if_neg h0, if_pos h24, vat_eq he_x]
   refine Gs 1 rfl (Dw (fun q => Ext w_r q) [13] (fun wd1 hD _ => ?_))
   refine Ds [0, 1] (by kernel_rfl) rfl (WD.take 2 rfl (by kernel_rfl) rfl rfl rfl hD (fun w1 hw1 => R.load Tryz.isAgg3 rfl ((hw1.blk hB_b (fun h => h)).cells 1 _ rfl)) (WD.takeW 3 rfl (by kernel_rfl) rfl rfl rfl (fun w1 => R.indexS Tryz.runUnderlying22 Tryz.sizeOf125 rfl rfl ha_x (by omega)) (Ds [4] (by kernel_rfl) rfl (WD.take 5 rfl (by kernel_rfl) rfl rfl rfl hD (fun w1 hw1 => R.load Tryz.isAgg3 rfl ((hw1.cells hc_x (fun h => h)) 2 _ rfl)) (Ds [6, 7] (by kernel_rfl) rfl (WD.take 8 rfl (by kernel_rfl) rfl rfl rfl hD (fun w1 hw1 => R.load Tryz.isAgg3 rfl ((hw1.blk hB_b (fun h => h)).cells 1 _ rfl)) ?_))))))
   refine WD.takeW 9 rfl (by kernel_rfl) rfl rfl rfl (fun w1 => R.indexS Tryz.runUnderlying22 Tryz.sizeOf125 rfl rfl ha_x (by omega)) (Ds [10] (by kernel_rfl) rfl (WD.take 11 rfl (by kernel_rfl) rfl rfl rfl hD (fun w1 hw1 => R.load Tryz.isAgg3 rfl ((hw1.cells hc_x (fun h => h)) 3 _ rfl)) (WD.takeW 12 rfl (by kernel_rfl) rfl rfl rfl (fun w1 => R.build (v := .agg #[.int .i64 x.low, .int .i64 x.high]) [(0, _), (1, _)] rfl (fun _ => by kernel_rfl)) (WD.mem0 13 rfl (by kernel_rfl) rfl rfl (M.storeK Tryz.sizeOf243 rfl rfl rfl rfl (by simp [Value.oneCell']) (hD.blk hB_r (fun h => h)) (by simp)) ?_))))
   rintro wf ⟨_, hBf, hkf⟩
   refine ⟨fun h => absurd (by simp) h, ?_⟩
   refine G.done (by kernel_rfl) ?_ _
   refine Gs 4 rfl (G.retC Tryz.results219 rfl (run_loadK Tryz.isAgg243 Tryz.sizeOf243 rfl hBf.cells) ?_)
   exact ⟨_, rfl, by rw [e] <;> rfl, (hE.ext hD).trans hkf (fun q hq h => by have h : q = r := h; omega)⟩
  ·
   refine Gs 6 rfl (G.ite rfl (fun h6 => ?_) (fun h6 => ?_))
   ·
    have hl := hn.k1 (.inl h6)
    obtain ⟨x, he_x⟩ : ∃ x, ks[0]? = some x := ⟨_, List.getElem?_eq_getElem (by omega)⟩
    have hm_x := List.mem_of_getElem? he_x
    obtain ⟨b_x, o_x, c_x, ha_x, _, hc_x, hR_x⟩ := hks.at he_x
    obtain rfl := hR_x
    have hlt_x : b_x < _ := World.block_lt_of_cell? _ _ (hc_x 0 _ rfl)
    have hgx := hn.good x hm_x
    unfold Good at hgx
    have e : spanOf vs t.op t.n ks = (-x.2, -x.1) := by rw [spanOf, if_neg h0, if_neg h24, if_pos h6, at2_eq he_x]
    refine Gs 1 rfl (Dw (fun q => Ext w_r q) [11] (fun wd2 hD _ => ?_))
    refine Ds [0] (by kernel_rfl) rfl (WD.takeW 1 rfl (by kernel_rfl) rfl rfl rfl (fun w1 => R.indexS Tryz.runUnderlying261 Tryz.sizeOf243 rfl rfl ha_x (by omega)) (Ds [2] (by kernel_rfl) rfl (WD.take 3 rfl (by kernel_rfl) rfl rfl rfl hD (fun w1 hw1 => R.load Tryz.isAgg3 rfl ((hw1.cells hc_x (fun h => h)) 1 _ rfl)) (Da [4, 5] (by kernel_rfl) rfl (by omega) (WD.takeW 6 rfl (by kernel_rfl) rfl rfl rfl (fun w1 => R.indexS Tryz.runUnderlying261 Tryz.sizeOf243 rfl rfl ha_x (by omega)) (Ds [7] (by kernel_rfl) rfl (WD.take 8 rfl (by kernel_rfl) rfl rfl rfl hD (fun w1 hw1 => R.load Tryz.isAgg3 rfl ((hw1.cells hc_x (fun h => h)) 0 _ rfl)) ?_)))))))
    refine Da [9] (by kernel_rfl) rfl (by omega) (WD.takeW 10 rfl (by kernel_rfl) rfl rfl rfl (fun w1 => R.build (v := .agg #[.int .i64 (-x.2), .int .i64 (-x.1)]) [(0, _), (1, _)] rfl (fun _ => by kernel_rfl)) (WD.mem0 11 rfl (by kernel_rfl) rfl rfl (M.storeK Tryz.sizeOf243 rfl rfl rfl rfl (by simp [Value.oneCell']) (hD.blk hB_r (fun h => h)) (by simp)) ?_))
    rintro wf ⟨_, hBf, hkf⟩
    refine ⟨fun h => absurd (by simp) h, ?_⟩
    refine G.done (by kernel_rfl) ?_ _
    refine Gs 4 rfl (G.retC Tryz.results219 rfl (run_loadK Tryz.isAgg243 Tryz.sizeOf243 rfl hBf.cells) ?_)
    exact ⟨_, rfl, by rw [e] <;> rfl, (hE.ext hD).trans hkf (fun q hq h => by have h : q = r := h; omega)⟩
   ·
    refine Gs 6 rfl (G.ite rfl (fun h8 => ?_) (fun h8 => ?_))
    ·
     have hl := hn.k2 (by omega)
     obtain ⟨x, he_x⟩ : ∃ x, ks[0]? = some x := ⟨_, List.getElem?_eq_getElem (by omega)⟩
     have hm_x := List.mem_of_getElem? he_x
     obtain ⟨b_x, o_x, c_x, ha_x, _, hc_x, hR_x⟩ := hks.at he_x
     obtain rfl := hR_x
     have hlt_x : b_x < _ := World.block_lt_of_cell? _ _ (hc_x 0 _ rfl)
     obtain ⟨y, he_y⟩ : ∃ x, ks[1]? = some x := ⟨_, List.getElem?_eq_getElem (by omega)⟩
     have hm_y := List.mem_of_getElem? he_y
     obtain ⟨b_y, o_y, c_y, ha_y, _, hc_y, hR_y⟩ := hks.at he_y
     obtain rfl := hR_y
     have hlt_y : b_y < _ := World.block_lt_of_cell? _ _ (hc_y 0 _ rfl)
     have hgx := hn.good x hm_x
     have hgy := hn.good y hm_y
     unfold Good at hgx hgy
     have e : spanOf vs t.op t.n ks = (x.1 + y.1, x.2 + y.2) := by rw [spanOf, if_neg h0, if_neg h24, if_neg h6, if_pos h8, at2_eq he_x, at2_eq he_y]
     refine Gs 1 rfl (Dw (fun q => Ext w_r q) [19] (fun wd3 hD _ => ?_))
     refine Ds [0] (by kernel_rfl) rfl (WD.takeW 1 rfl (by kernel_rfl) rfl rfl rfl (fun w1 => R.indexS Tryz.runUnderlying261 Tryz.sizeOf243 rfl rfl ha_x (by omega)) (Ds [2] (by kernel_rfl) rfl (WD.take 3 rfl (by kernel_rfl) rfl rfl rfl hD (fun w1 hw1 => R.load Tryz.isAgg3 rfl ((hw1.cells hc_x (fun h => h)) 0 _ rfl)) (Ds [4] (by kernel_rfl) rfl (WD.takeW 5 rfl (by kernel_rfl) rfl rfl rfl (fun w1 => R.indexS Tryz.runUnderlying261 Tryz.sizeOf243 rfl rfl ha_y (by omega)) (Ds [6] (by kernel_rfl) rfl (WD.take 7 rfl (by kernel_rfl) rfl rfl rfl hD (fun w1 hw1 => R.load Tryz.isAgg3 rfl ((hw1.cells hc_y (fun h => h)) 0 _ rfl)) ?_)))))))
     refine Da [8, 9] (by kernel_rfl) rfl (by omega) (WD.takeW 10 rfl (by kernel_rfl) rfl rfl rfl (fun w1 => R.indexS Tryz.runUnderlying261 Tryz.sizeOf243 rfl rfl ha_x (by omega)) (Ds [11] (by kernel_rfl) rfl (WD.take 12 rfl (by kernel_rfl) rfl rfl rfl hD (fun w1 hw1 => R.load Tryz.isAgg3 rfl ((hw1.cells hc_x (fun h => h)) 1 _ rfl)) (Ds [13] (by kernel_rfl) rfl (WD.takeW 14 rfl (by kernel_rfl) rfl rfl rfl (fun w1 => R.indexS Tryz.runUnderlying261 Tryz.sizeOf243 rfl rfl ha_y (by omega)) (Ds [15] (by kernel_rfl) rfl (WD.take 16 rfl (by kernel_rfl) rfl rfl rfl hD (fun w1 hw1 => R.load Tryz.isAgg3 rfl ((hw1.cells hc_y (fun h => h)) 1 _ rfl)) ?_)))))))
     refine Da [17] (by kernel_rfl) rfl (by omega) (WD.takeW 18 rfl (by kernel_rfl) rfl rfl rfl (fun w1 => R.build (v := .agg #[.int .i64 (x.1 + y.1), .int .i64 (x.2 + y.2)]) [(0, _), (1, _)] rfl (fun _ => by kernel_rfl)) (WD.mem0 19 rfl (by kernel_rfl) rfl rfl (M.storeK Tryz.sizeOf243 rfl rfl rfl rfl (by simp [Value.oneCell']) (hD.blk hB_r (fun h => h)) (by simp)) ?_))
     rintro wf ⟨_, hBf, hkf⟩
     refine ⟨fun h => absurd (by simp) h, ?_⟩
     refine G.done (by kernel_rfl) ?_ _
     refine Gs 4 rfl (G.retC Tryz.results219 rfl (run_loadK Tryz.isAgg243 Tryz.sizeOf243 rfl hBf.cells) ?_)
     exact ⟨_, rfl, by rw [e] <;> rfl, (hE.ext hD).trans hkf (fun q hq h => by have h : q = r := h; omega)⟩
    ·
     refine Gs 6 rfl (G.ite rfl (fun h9 => ?_) (fun h9 => ?_))
     ·
      have hl := hn.k2 (by omega)
      obtain ⟨x, he_x⟩ : ∃ x, ks[0]? = some x := ⟨_, List.getElem?_eq_getElem (by omega)⟩
      have hm_x := List.mem_of_getElem? he_x
      obtain ⟨b_x, o_x, c_x, ha_x, _, hc_x, hR_x⟩ := hks.at he_x
      obtain rfl := hR_x
      have hlt_x : b_x < _ := World.block_lt_of_cell? _ _ (hc_x 0 _ rfl)
      obtain ⟨y, he_y⟩ : ∃ x, ks[1]? = some x := ⟨_, List.getElem?_eq_getElem (by omega)⟩
      have hm_y := List.mem_of_getElem? he_y
      obtain ⟨b_y, o_y, c_y, ha_y, _, hc_y, hR_y⟩ := hks.at he_y
      obtain rfl := hR_y
      have hlt_y : b_y < _ := World.block_lt_of_cell? _ _ (hc_y 0 _ rfl)
      have hgx := hn.good x hm_x
      have hgy := hn.good y hm_y
      unfold Good at hgx hgy
      have e : spanOf vs t.op t.n ks = (x.1 - y.2, x.2 - y.1) := by rw [spanOf, if_neg h0, if_neg h24, if_neg h6, if_neg h8, if_pos h9, at2_eq he_x, at2_eq he_y]
      refine Gs 1 rfl (Dw (fun q => Ext w_r q) [19] (fun wd4 hD _ => ?_))
      refine Ds [0] (by kernel_rfl) rfl (WD.takeW 1 rfl (by kernel_rfl) rfl rfl rfl (fun w1 => R.indexS Tryz.runUnderlying261 Tryz.sizeOf243 rfl rfl ha_x (by omega)) (Ds [2] (by kernel_rfl) rfl (WD.take 3 rfl (by kernel_rfl) rfl rfl rfl hD (fun w1 hw1 => R.load Tryz.isAgg3 rfl ((hw1.cells hc_x (fun h => h)) 0 _ rfl)) (Ds [4] (by kernel_rfl) rfl (WD.takeW 5 rfl (by kernel_rfl) rfl rfl rfl (fun w1 => R.indexS Tryz.runUnderlying261 Tryz.sizeOf243 rfl rfl ha_y (by omega)) (Ds [6] (by kernel_rfl) rfl (WD.take 7 rfl (by kernel_rfl) rfl rfl rfl hD (fun w1 hw1 => R.load Tryz.isAgg3 rfl ((hw1.cells hc_y (fun h => h)) 1 _ rfl)) ?_)))))))
      refine Da [8, 9] (by kernel_rfl) rfl (by omega) (WD.takeW 10 rfl (by kernel_rfl) rfl rfl rfl (fun w1 => R.indexS Tryz.runUnderlying261 Tryz.sizeOf243 rfl rfl ha_x (by omega)) (Ds [11] (by kernel_rfl) rfl (WD.take 12 rfl (by kernel_rfl) rfl rfl rfl hD (fun w1 hw1 => R.load Tryz.isAgg3 rfl ((hw1.cells hc_x (fun h => h)) 1 _ rfl)) (Ds [13] (by kernel_rfl) rfl (WD.takeW 14 rfl (by kernel_rfl) rfl rfl rfl (fun w1 => R.indexS Tryz.runUnderlying261 Tryz.sizeOf243 rfl rfl ha_y (by omega)) (Ds [15] (by kernel_rfl) rfl (WD.take 16 rfl (by kernel_rfl) rfl rfl rfl hD (fun w1 hw1 => R.load Tryz.isAgg3 rfl ((hw1.cells hc_y (fun h => h)) 0 _ rfl)) ?_)))))))
      refine Da [17] (by kernel_rfl) rfl (by omega) (WD.takeW 18 rfl (by kernel_rfl) rfl rfl rfl (fun w1 => R.build (v := .agg #[.int .i64 (x.1 - y.2), .int .i64 (x.2 - y.1)]) [(0, _), (1, _)] rfl (fun _ => by kernel_rfl)) (WD.mem0 19 rfl (by kernel_rfl) rfl rfl (M.storeK Tryz.sizeOf243 rfl rfl rfl rfl (by simp [Value.oneCell']) (hD.blk hB_r (fun h => h)) (by simp)) ?_))
      rintro wf ⟨_, hBf, hkf⟩
      refine ⟨fun h => absurd (by simp) h, ?_⟩
      refine G.done (by kernel_rfl) ?_ _
      refine Gs 4 rfl (G.retC Tryz.results219 rfl (run_loadK Tryz.isAgg243 Tryz.sizeOf243 rfl hBf.cells) ?_)
      exact ⟨_, rfl, by rw [e] <;> rfl, (hE.ext hD).trans hkf (fun q hq h => by have h : q = r := h; omega)⟩
     ·
      refine Gs 6 rfl (G.ite rfl (fun h10 => ?_) (fun h10 => ?_))
      ·
       have hl := hn.k2 (by omega)
       obtain ⟨x, he_x⟩ : ∃ x, ks[0]? = some x := ⟨_, List.getElem?_eq_getElem (by omega)⟩
       have hm_x := List.mem_of_getElem? he_x
       obtain ⟨b_x, o_x, c_x, ha_x, _, hc_x, hR_x⟩ := hks.at he_x
       obtain rfl := hR_x
       have hlt_x : b_x < _ := World.block_lt_of_cell? _ _ (hc_x 0 _ rfl)
       obtain ⟨y, he_y⟩ : ∃ x, ks[1]? = some x := ⟨_, List.getElem?_eq_getElem (by omega)⟩
       have hm_y := List.mem_of_getElem? he_y
       obtain ⟨b_y, o_y, c_y, ha_y, _, hc_y, hR_y⟩ := hks.at he_y
       obtain rfl := hR_y
       have hlt_y : b_y < _ := World.block_lt_of_cell? _ _ (hc_y 0 _ rfl)
       have e : spanOf vs t.op t.n ks = cornersI x y := by rw [spanOf, if_neg h0, if_neg h24, if_neg h6, if_neg h8, if_neg h9, if_pos h10, at2_eq he_x, at2_eq he_y]
       refine Gs 1 rfl (Dw (fun q => Ext w_r q) [7] (fun wd5 hD _ => ?_))
       refine Ds [0] (by kernel_rfl) rfl (WD.takeW 1 rfl (by kernel_rfl) rfl rfl rfl (fun w1 => R.indexS Tryz.runUnderlying261 Tryz.sizeOf243 rfl rfl ha_x (by omega)) (WD.take 2 rfl (by kernel_rfl) rfl rfl rfl hD (fun w1 hw1 => R.loadK Tryz.isAgg243 Tryz.sizeOf243 rfl (by rfl) (hw1.cells hc_x (fun h => h))) (Ds [3] (by kernel_rfl) rfl (WD.takeW 4 rfl (by kernel_rfl) rfl rfl rfl (fun w1 => R.indexS Tryz.runUnderlying261 Tryz.sizeOf243 rfl rfl ha_y (by omega)) (WD.take 5 rfl (by kernel_rfl) rfl rfl rfl hD (fun w1 hw1 => R.loadK Tryz.isAgg243 Tryz.sizeOf243 rfl (by rfl) (hw1.cells hc_y (fun h => h))) ?_)))))
       refine WD.call 6 rfl (by kernel_rfl) rfl rfl rfl (F.call (vs := [_, _, _]) Tryz.call226 rfl) (corners_ok x y _ (hn.good x hm_x) (hn.good y hm_y)) ?_
       rintro _ wz6 ⟨rfl, hz6⟩
       replace hD := hD.ext hz6
       refine ⟨fun _ => hD, ?_⟩
       refine WD.mem0 7 rfl (by kernel_rfl) rfl rfl (M.storeK Tryz.sizeOf243 rfl rfl rfl rfl (by simp [Value.oneCell']) (hD.blk hB_r (fun h => h)) (by simp)) ?_
       rintro wf ⟨_, hBf, hkf⟩
       refine ⟨fun h => absurd (by simp) h, ?_⟩
       refine G.done (by kernel_rfl) ?_ _
       refine Gs 4 rfl (G.retC Tryz.results219 rfl (run_loadK Tryz.isAgg243 Tryz.sizeOf243 rfl hBf.cells) ?_)
       exact ⟨_, rfl, by rw [e] <;> rfl, (hE.ext hD).trans hkf (fun q hq h => by have h : q = r := h; omega)⟩
      ·
       refine Gs 6 rfl (G.ite rfl (fun h11 => ?_) (fun h11 => ?_))
       ·
        have hl := hn.k2 (by omega)
        obtain ⟨x, he_x⟩ : ∃ x, ks[0]? = some x := ⟨_, List.getElem?_eq_getElem (by omega)⟩
        have hm_x := List.mem_of_getElem? he_x
        obtain ⟨b_x, o_x, c_x, ha_x, _, hc_x, hR_x⟩ := hks.at he_x
        obtain rfl := hR_x
        have hlt_x : b_x < _ := World.block_lt_of_cell? _ _ (hc_x 0 _ rfl)
        obtain ⟨y, he_y⟩ : ∃ x, ks[1]? = some x := ⟨_, List.getElem?_eq_getElem (by omega)⟩
        have hm_y := List.mem_of_getElem? he_y
        obtain ⟨b_y, o_y, c_y, ha_y, _, hc_y, hR_y⟩ := hks.at he_y
        obtain rfl := hR_y
        have hlt_y : b_y < _ := World.block_lt_of_cell? _ _ (hc_y 0 _ rfl)
        have hgx := hn.good x hm_x
        have hgy := hn.good y hm_y
        unfold Good at hgx hgy
        have e : spanOf vs t.op t.n ks = (if 0 ≤ x.1 ∧ 0 ≤ y.1 then 0 else -(max x.2 (-x.1)), max x.2 (-x.1)) := by rw [spanOf, if_neg h0, if_neg h24, if_neg h6, if_neg h8, if_neg h9, if_neg h10, if_pos h11, at2_eq he_x, at2_eq he_y]
        have hmx2 : 0 ≤ max x.2 (-x.1) ∧ max x.2 (-x.1) ≤ 1048576 := by omega
        refine Gs 1 rfl (Dw (fun q => Ext w_r q) [] (fun wd7 hD _ => ?_))
        refine Ds [0] (by kernel_rfl) rfl (WD.takeW 1 rfl (by kernel_rfl) rfl rfl rfl (fun w1 => R.indexS Tryz.runUnderlying261 Tryz.sizeOf243 rfl rfl ha_x (by omega)) (Ds [2] (by kernel_rfl) rfl (WD.take 3 rfl (by kernel_rfl) rfl rfl rfl hD (fun w1 hw1 => R.load Tryz.isAgg3 rfl ((hw1.cells hc_x (fun h => h)) 1 _ rfl)) (Ds [4] (by kernel_rfl) rfl (WD.takeW 5 rfl (by kernel_rfl) rfl rfl rfl (fun w1 => R.indexS Tryz.runUnderlying261 Tryz.sizeOf243 rfl rfl ha_x (by omega)) (Ds [6] (by kernel_rfl) rfl (WD.take 7 rfl (by kernel_rfl) rfl rfl rfl hD (fun w1 hw1 => R.load Tryz.isAgg3 rfl ((hw1.cells hc_x (fun h => h)) 0 _ rfl)) ?_)))))))
        refine Da [8, 9, 10] (by kernel_rfl) rfl (by omega) (G.done (by kernel_rfl) ?_ _)
        obtain ⟨hE, hvs, hks, hB_b, hB_r, hc_x, hc_y⟩ := Tr7 hD hE hvs hks hB_b hB_r hc_x hc_y
        refine Gs 5 rfl (G.ops1 rfl rfl (R.indexS Tryz.runUnderlying261 Tryz.sizeOf243 rfl rfl ha_x (by omega)) (Gs 1 rfl (G.ld rfl Tryz.isAgg3 (hc_x 0 _ rfl) (Gs 2 rfl (G.sp 117 rfl (fun p0 => ?_) (fun p0 => ?_))))))
        ·
         refine Gs 1 rfl (G.ops1 rfl rfl (R.indexS Tryz.runUnderlying261 Tryz.sizeOf243 rfl rfl ha_y (by omega)) (Gs 1 rfl (G.ld rfl Tryz.isAgg3 (hc_y 0 _ rfl) (Gs 4 rfl (G.ite rfl (fun p1 => ?_) (fun p1 => ?_))))))
         ·
          refine Gs 3 rfl (G.ops1 rfl rfl (R.build (v := .agg #[.int .i64 0, .int .i64 (max x.2 (-x.1))]) [(0, _), (1, _)] rfl (fun _ => by kernel_rfl)) (G.mem0 rfl (M.storeK Tryz.sizeOf243 rfl rfl rfl rfl (by simp [Value.oneCell']) hB_r (by simp)) ?_))
          rintro wf ⟨_, hBf, hkf⟩
          refine Gs 6 rfl (G.retC Tryz.results219 rfl (run_loadK Tryz.isAgg243 Tryz.sizeOf243 rfl hBf.cells) ?_)
          exact ⟨_, rfl, by rw [e, if_pos ⟨p0, p1⟩] <;> rfl, hE.trans hkf (fun q hq h => by have h : q = r := h; omega)⟩
         ·
          refine Ga 7 rfl (by omega) (G.ops1 rfl rfl (R.build (v := .agg #[.int .i64 (-(max x.2 (-x.1))), .int .i64 (max x.2 (-x.1))]) [(0, _), (1, _)] rfl (fun _ => by kernel_rfl)) (G.mem0 rfl (M.storeK Tryz.sizeOf243 rfl rfl rfl rfl (by simp [Value.oneCell']) hB_r (by simp)) ?_))
          rintro wf ⟨_, hBf, hkf⟩
          refine Gs 5 rfl (G.retC Tryz.results219 rfl (run_loadK Tryz.isAgg243 Tryz.sizeOf243 rfl hBf.cells) ?_)
          exact ⟨_, rfl, by rw [e, if_neg (fun h => p1 h.2)] <;> rfl, hE.trans hkf (fun q hq h => by have h : q = r := h; omega)⟩
        ·
         refine Ga 16 rfl (by omega) (G.ops1 rfl rfl (R.build (v := .agg #[.int .i64 (-(max x.2 (-x.1))), .int .i64 (max x.2 (-x.1))]) [(0, _), (1, _)] rfl (fun _ => by kernel_rfl)) (G.mem0 rfl (M.storeK Tryz.sizeOf243 rfl rfl rfl rfl (by simp [Value.oneCell']) hB_r (by simp)) ?_))
         rintro wf ⟨_, hBf, hkf⟩
         refine Gs 5 rfl (G.retC Tryz.results219 rfl (run_loadK Tryz.isAgg243 Tryz.sizeOf243 rfl hBf.cells) ?_)
         exact ⟨_, rfl, by rw [e, if_neg (fun h => p0 h.1)] <;> rfl, hE.trans hkf (fun q hq h => by have h : q = r := h; omega)⟩
       ·
        refine Gs 6 rfl (G.ite rfl (fun h12 => ?_) (fun h12 => ?_))
        ·
         have hl := hn.k2 (by omega)
         obtain ⟨y, he_y⟩ : ∃ x, ks[1]? = some x := ⟨_, List.getElem?_eq_getElem (by omega)⟩
         have hm_y := List.mem_of_getElem? he_y
         obtain ⟨b_y, o_y, c_y, ha_y, _, hc_y, hR_y⟩ := hks.at he_y
         obtain rfl := hR_y
         have hlt_y : b_y < _ := World.block_lt_of_cell? _ _ (hc_y 0 _ rfl)
         have hgy := hn.good y hm_y
         unfold Good at hgy
         have e : spanOf vs t.op t.n ks = (if y.1 < 0 then min (y.1 + 1) 0 else 0, if 0 < y.2 then max (y.2 - 1) 0 else 0) := by rw [spanOf, if_neg h0, if_neg h24, if_neg h6, if_neg h8, if_neg h9, if_neg h10, if_neg h11, if_pos h12, at2_eq he_y]
         refine Gs 2 rfl (G.ops1 rfl rfl (R.build (v := .agg #[.int .i64 0, .int .i64 0]) [] rfl (fun _ => by kernel_rfl)) (G.mem rfl rfl (M.alloc (cs := _) Tryz.zeroValue243 rfl) ?_))
         rintro _ wa8 ⟨o, rfl, hg_o, hs_o, hB_o, hk_o⟩
         refine G.mem0 rfl (M.storeK Tryz.sizeOf243 rfl rfl rfl rfl (by simp [Value.oneCell']) hB_o (by simp)) ?_
         rintro w_o ⟨_, hB_o, hkk_o⟩
         replace hk_o := hk_o.trans hkk_o (fun q hq h => by have h : q = o := h; omega)
         have hn_b_o : b ≠ o := by have := hB_b.lt; omega
         have hn_r_o : r ≠ o := by have := hB_r.lt; omega
         have hge_o : _ ≤ o := Nat.le_trans hE.size (Nat.le_of_eq hg_o.symm)
         obtain ⟨hE, hvs, hks, hB_b, hB_r, hc_y⟩ := Tr6 hk_o hE hvs hks hB_b hB_r hc_y
         refine Gs 6 rfl (G.ops1 rfl rfl (R.indexS Tryz.runUnderlying261 Tryz.sizeOf243 rfl rfl ha_y (by omega)) (Gs 1 rfl (G.ld rfl Tryz.isAgg3 (hc_y 0 _ rfl) (Gs 3 rfl (G.ite rfl (fun p0 => ?_) (fun p0 => ?_))))))
         ·
          refine Gs 2 rfl (G.ops1 rfl rfl (R.indexS Tryz.runUnderlying261 Tryz.sizeOf243 rfl rfl ha_y (by omega)) (Gs 1 rfl (G.ld rfl Tryz.isAgg3 (hc_y 0 _ rfl) (Ga 3 rfl (by omega) (G.mem0 rfl (M.store Tryz.sizeOf3 rfl rfl rfl rfl hB_o (by simp)) ?_)))))
          rintro ws9 ⟨_, hB_o, hs9⟩
          replace hE := hE.trans hs9 (fun q hq h => by have h : q = o := h; omega)
          replace hB_b := hs9.blk hB_b hn_b_o
          replace hB_r := hs9.blk hB_r hn_r_o
          replace hc_y := hs9.cells hc_y (show b_y ≠ o by omega)
          refine Gs 6 rfl (G.ops1 rfl rfl (R.indexS Tryz.runUnderlying261 Tryz.sizeOf243 rfl rfl ha_y (by omega)) (Gs 1 rfl (G.ld rfl Tryz.isAgg3 (hc_y 1 _ rfl) (Gs 3 rfl (G.ite rfl (fun p1 => ?_) (fun p1 => ?_))))))
          ·
           refine Gs 2 rfl (G.ops1 rfl rfl (R.indexS Tryz.runUnderlying261 Tryz.sizeOf243 rfl rfl ha_y (by omega)) (Gs 1 rfl (G.ld rfl Tryz.isAgg3 (hc_y 1 _ rfl) (Ga 3 rfl (by omega) (G.mem0 rfl (M.store Tryz.sizeOf3 rfl rfl rfl rfl hB_o (by simp)) ?_)))))
           rintro ws10 ⟨_, hB_o, hs10⟩
           replace hE := hE.trans hs10 (fun q hq h => by have h : q = o := h; omega)
           replace hB_b := hs10.blk hB_b hn_b_o
           replace hB_r := hs10.blk hB_r hn_r_o
           replace hc_y := hs10.cells hc_y (show b_y ≠ o by omega)
           refine Gs 4 rfl (G.ldK rfl Tryz.isAgg243 Tryz.sizeOf243 hB_o.cells rfl (G.mem0 rfl (M.storeK Tryz.sizeOf243 rfl rfl rfl rfl (by simp [Value.oneCell']) hB_r (by simp)) ?_))
           rintro wf ⟨_, hBf, hkf⟩
           refine Gs 5 rfl (G.retC Tryz.results219 rfl (run_loadK Tryz.isAgg243 Tryz.sizeOf243 rfl hBf.cells) ?_)
           exact ⟨_, rfl, by rw [e, if_pos p0, if_pos p1] <;> rfl, hE.trans hkf (fun q hq h => by have h : q = r := h; omega)⟩
          ·
           refine Gs 4 rfl (G.ldK rfl Tryz.isAgg243 Tryz.sizeOf243 hB_o.cells rfl (G.mem0 rfl (M.storeK Tryz.sizeOf243 rfl rfl rfl rfl (by simp [Value.oneCell']) hB_r (by simp)) ?_))
           rintro wf ⟨_, hBf, hkf⟩
           refine Gs 5 rfl (G.retC Tryz.results219 rfl (run_loadK Tryz.isAgg243 Tryz.sizeOf243 rfl hBf.cells) ?_)
           exact ⟨_, rfl, by rw [e, if_pos p0, if_neg p1] <;> rfl, hE.trans hkf (fun q hq h => by have h : q = r := h; omega)⟩
         ·
          refine Gs 6 rfl (G.ops1 rfl rfl (R.indexS Tryz.runUnderlying261 Tryz.sizeOf243 rfl rfl ha_y (by omega)) (Gs 1 rfl (G.ld rfl Tryz.isAgg3 (hc_y 1 _ rfl) (Gs 3 rfl (G.ite rfl (fun p1 => ?_) (fun p1 => ?_))))))
          ·
           refine Gs 2 rfl (G.ops1 rfl rfl (R.indexS Tryz.runUnderlying261 Tryz.sizeOf243 rfl rfl ha_y (by omega)) (Gs 1 rfl (G.ld rfl Tryz.isAgg3 (hc_y 1 _ rfl) (Ga 3 rfl (by omega) (G.mem0 rfl (M.store Tryz.sizeOf3 rfl rfl rfl rfl hB_o (by simp)) ?_)))))
           rintro ws11 ⟨_, hB_o, hs11⟩
           replace hE := hE.trans hs11 (fun q hq h => by have h : q = o := h; omega)
           replace hB_b := hs11.blk hB_b hn_b_o
           replace hB_r := hs11.blk hB_r hn_r_o
           replace hc_y := hs11.cells hc_y (show b_y ≠ o by omega)
           refine Gs 4 rfl (G.ldK rfl Tryz.isAgg243 Tryz.sizeOf243 hB_o.cells rfl (G.mem0 rfl (M.storeK Tryz.sizeOf243 rfl rfl rfl rfl (by simp [Value.oneCell']) hB_r (by simp)) ?_))
           rintro wf ⟨_, hBf, hkf⟩
           refine Gs 5 rfl (G.retC Tryz.results219 rfl (run_loadK Tryz.isAgg243 Tryz.sizeOf243 rfl hBf.cells) ?_)
           exact ⟨_, rfl, by rw [e, if_neg p0, if_pos p1] <;> rfl, hE.trans hkf (fun q hq h => by have h : q = r := h; omega)⟩
          ·
           refine Gs 4 rfl (G.ldK rfl Tryz.isAgg243 Tryz.sizeOf243 hB_o.cells rfl (G.mem0 rfl (M.storeK Tryz.sizeOf243 rfl rfl rfl rfl (by simp [Value.oneCell']) hB_r (by simp)) ?_))
           rintro wf ⟨_, hBf, hkf⟩
           refine Gs 5 rfl (G.retC Tryz.results219 rfl (run_loadK Tryz.isAgg243 Tryz.sizeOf243 rfl hBf.cells) ?_)
           exact ⟨_, rfl, by rw [e, if_neg p0, if_neg p1] <;> rfl, hE.trans hkf (fun q hq h => by have h : q = r := h; omega)⟩
        ·
         refine Gs 6 rfl (G.ite rfl (fun h21 => ?_) (fun h21 => ?_))
         ·
          have hl := hn.k2 (by omega)
          obtain ⟨x, he_x⟩ : ∃ x, ks[0]? = some x := ⟨_, List.getElem?_eq_getElem (by omega)⟩
          have hm_x := List.mem_of_getElem? he_x
          obtain ⟨b_x, o_x, c_x, ha_x, _, hc_x, hR_x⟩ := hks.at he_x
          obtain rfl := hR_x
          have hlt_x : b_x < _ := World.block_lt_of_cell? _ _ (hc_x 0 _ rfl)
          obtain ⟨y, he_y⟩ : ∃ x, ks[1]? = some x := ⟨_, List.getElem?_eq_getElem (by omega)⟩
          have hm_y := List.mem_of_getElem? he_y
          obtain ⟨b_y, o_y, c_y, ha_y, _, hc_y, hR_y⟩ := hks.at he_y
          obtain rfl := hR_y
          have hlt_y : b_y < _ := World.block_lt_of_cell? _ _ (hc_y 0 _ rfl)
          have e : spanOf vs t.op t.n ks = (min x.1 y.1, min x.2 y.2) := by rw [spanOf, if_neg h0, if_neg h24, if_neg h6, if_neg h8, if_neg h9, if_neg h10, if_neg h11, if_neg h12, if_pos h21, at2_eq he_x, at2_eq he_y]
          refine Gs 1 rfl (Dw (fun q => Ext w_r q) [19] (fun wd12 hD _ => ?_))
          refine Ds [0] (by kernel_rfl) rfl (WD.takeW 1 rfl (by kernel_rfl) rfl rfl rfl (fun w1 => R.indexS Tryz.runUnderlying261 Tryz.sizeOf243 rfl rfl ha_x (by omega)) (Ds [2] (by kernel_rfl) rfl (WD.take 3 rfl (by kernel_rfl) rfl rfl rfl hD (fun w1 hw1 => R.load Tryz.isAgg3 rfl ((hw1.cells hc_x (fun h => h)) 0 _ rfl)) (Ds [4] (by kernel_rfl) rfl (WD.takeW 5 rfl (by kernel_rfl) rfl rfl rfl (fun w1 => R.indexS Tryz.runUnderlying261 Tryz.sizeOf243 rfl rfl ha_y (by omega)) (Ds [6] (by kernel_rfl) rfl (WD.take 7 rfl (by kernel_rfl) rfl rfl rfl hD (fun w1 hw1 => R.load Tryz.isAgg3 rfl ((hw1.cells hc_y (fun h => h)) 0 _ rfl)) ?_)))))))
          refine Ds [8, 9] (by kernel_rfl) rfl (WD.takeW 10 rfl (by kernel_rfl) rfl rfl rfl (fun w1 => R.indexS Tryz.runUnderlying261 Tryz.sizeOf243 rfl rfl ha_x (by omega)) (Ds [11] (by kernel_rfl) rfl (WD.take 12 rfl (by kernel_rfl) rfl rfl rfl hD (fun w1 hw1 => R.load Tryz.isAgg3 rfl ((hw1.cells hc_x (fun h => h)) 1 _ rfl)) (Ds [13] (by kernel_rfl) rfl (WD.takeW 14 rfl (by kernel_rfl) rfl rfl rfl (fun w1 => R.indexS Tryz.runUnderlying261 Tryz.sizeOf243 rfl rfl ha_y (by omega)) (Ds [15] (by kernel_rfl) rfl (WD.take 16 rfl (by kernel_rfl) rfl rfl rfl hD (fun w1 hw1 => R.load Tryz.isAgg3 rfl ((hw1.cells hc_y (fun h => h)) 1 _ rfl)) ?_)))))))
          refine Ds [17] (by kernel_rfl) rfl (WD.takeW 18 rfl (by kernel_rfl) rfl rfl rfl (fun w1 => R.build (v := .agg #[.int .i64 (min x.1 y.1), .int .i64 (min x.2 y.2)]) [(0, _), (1, _)] rfl (fun _ => by kernel_rfl)) (WD.mem0 19 rfl (by kernel_rfl) rfl rfl (M.storeK Tryz.sizeOf243 rfl rfl rfl rfl (by simp [Value.oneCell']) (hD.blk hB_r (fun h => h)) (by simp)) ?_))
          rintro wf ⟨_, hBf, hkf⟩
          refine ⟨fun h => absurd (by simp) h, ?_⟩
          refine G.done (by kernel_rfl) ?_ _
          refine Gs 4 rfl (G.retC Tryz.results219 rfl (run_loadK Tryz.isAgg243 Tryz.sizeOf243 rfl hBf.cells) ?_)
          exact ⟨_, rfl, by rw [e] <;> rfl, (hE.ext hD).trans hkf (fun q hq h => by have h : q = r := h; omega)⟩
         ·
          refine Gs 6 rfl (G.ite rfl (fun h22 => ?_) (fun h22 => ?_))
          ·
           have hl := hn.k2 (by omega)
           obtain ⟨x, he_x⟩ : ∃ x, ks[0]? = some x := ⟨_, List.getElem?_eq_getElem (by omega)⟩
           have hm_x := List.mem_of_getElem? he_x
           obtain ⟨b_x, o_x, c_x, ha_x, _, hc_x, hR_x⟩ := hks.at he_x
           obtain rfl := hR_x
           have hlt_x : b_x < _ := World.block_lt_of_cell? _ _ (hc_x 0 _ rfl)
           obtain ⟨y, he_y⟩ : ∃ x, ks[1]? = some x := ⟨_, List.getElem?_eq_getElem (by omega)⟩
           have hm_y := List.mem_of_getElem? he_y
           obtain ⟨b_y, o_y, c_y, ha_y, _, hc_y, hR_y⟩ := hks.at he_y
           obtain rfl := hR_y
           have hlt_y : b_y < _ := World.block_lt_of_cell? _ _ (hc_y 0 _ rfl)
           have e : spanOf vs t.op t.n ks = (max x.1 y.1, max x.2 y.2) := by rw [spanOf, if_neg h0, if_neg h24, if_neg h6, if_neg h8, if_neg h9, if_neg h10, if_neg h11, if_neg h12, if_neg h21, if_pos h22, at2_eq he_x, at2_eq he_y]
           refine Gs 1 rfl (Dw (fun q => Ext w_r q) [19] (fun wd13 hD _ => ?_))
           refine Ds [0] (by kernel_rfl) rfl (WD.takeW 1 rfl (by kernel_rfl) rfl rfl rfl (fun w1 => R.indexS Tryz.runUnderlying261 Tryz.sizeOf243 rfl rfl ha_x (by omega)) (Ds [2] (by kernel_rfl) rfl (WD.take 3 rfl (by kernel_rfl) rfl rfl rfl hD (fun w1 hw1 => R.load Tryz.isAgg3 rfl ((hw1.cells hc_x (fun h => h)) 0 _ rfl)) (Ds [4] (by kernel_rfl) rfl (WD.takeW 5 rfl (by kernel_rfl) rfl rfl rfl (fun w1 => R.indexS Tryz.runUnderlying261 Tryz.sizeOf243 rfl rfl ha_y (by omega)) (Ds [6] (by kernel_rfl) rfl (WD.take 7 rfl (by kernel_rfl) rfl rfl rfl hD (fun w1 hw1 => R.load Tryz.isAgg3 rfl ((hw1.cells hc_y (fun h => h)) 0 _ rfl)) ?_)))))))
           refine Ds [8, 9] (by kernel_rfl) rfl (WD.takeW 10 rfl (by kernel_rfl) rfl rfl rfl (fun w1 => R.indexS Tryz.runUnderlying261 Tryz.sizeOf243 rfl rfl ha_x (by omega)) (Ds [11] (by kernel_rfl) rfl (WD.take 12 rfl (by kernel_rfl) rfl rfl rfl hD (fun w1 hw1 => R.load Tryz.isAgg3 rfl ((hw1.cells hc_x (fun h => h)) 1 _ rfl)) (Ds [13] (by kernel_rfl) rfl (WD.takeW 14 rfl (by kernel_rfl) rfl rfl rfl (fun w1 => R.indexS Tryz.runUnderlying261 Tryz.sizeOf243 rfl rfl ha_y (by omega)) (Ds [15] (by kernel_rfl) rfl (WD.take 16 rfl (by kernel_rfl) rfl rfl rfl hD (fun w1 hw1 => R.load Tryz.isAgg3 rfl ((hw1.cells hc_y (fun h => h)) 1 _ rfl)) ?_)))))))
           refine Ds [17] (by kernel_rfl) rfl (WD.takeW 18 rfl (by kernel_rfl) rfl rfl rfl (fun w1 => R.build (v := .agg #[.int .i64 (max x.1 y.1), .int .i64 (max x.2 y.2)]) [(0, _), (1, _)] rfl (fun _ => by kernel_rfl)) (WD.mem0 19 rfl (by kernel_rfl) rfl rfl (M.storeK Tryz.sizeOf243 rfl rfl rfl rfl (by simp [Value.oneCell']) (hD.blk hB_r (fun h => h)) (by simp)) ?_))
           rintro wf ⟨_, hBf, hkf⟩
           refine ⟨fun h => absurd (by simp) h, ?_⟩
           refine G.done (by kernel_rfl) ?_ _
           refine Gs 4 rfl (G.retC Tryz.results219 rfl (run_loadK Tryz.isAgg243 Tryz.sizeOf243 rfl hBf.cells) ?_)
           exact ⟨_, rfl, by rw [e] <;> rfl, (hE.ext hD).trans hkf (fun q hq h => by have h : q = r := h; omega)⟩
          ·
           have hbase : ¬ (t.op = 23 ∨ t.op = 25) → spanOf vs t.op t.n ks = (0, 1) := fun h => by rw [spanOf, if_neg h0, if_neg h24, if_neg h6, if_neg h8, if_neg h9, if_neg h10, if_neg h11, if_neg h12, if_neg h21, if_neg h22, if_neg h]
           refine Gs 7 rfl (G.cut (σ := Bool) (fun p => [(2, .slice ak ks.length nk), (6, .pointer (some ⟨r, 0, none⟩)), (200, .bool p)]) (fun p => fun w' => (p = true ↔ t.op = 23 ∨ t.op = 25) ∧ w' = w_r) ?_ ?_)
           ·
            refine G.ite rfl (fun h23 => ?_) (fun h23 => ?_)
            · refine Gs 1 rfl (G.meet (decide (t.op = 23)) (Sub.cons rfl (Sub.cons rfl (Sub.cons (by first | rfl | (show some (Value.bool true) = some (Value.bool _); simp [*])) Sub.nil))) (⟨by simp [h23], rfl⟩))
            · refine Gs 4 rfl (G.meet (decide (t.op = 25)) (Sub.of rfl) (⟨by simp [h23], rfl⟩))
           rintro p w2 ⟨hp, hw2⟩
           subst hw2
           refine Gs 1 rfl (G.bool rfl (fun p1 => ?_) (fun p1 => ?_))
           ·
            have hl := hn.k3 (hp.1 p1)
            obtain ⟨y, he_y⟩ : ∃ x, ks[1]? = some x := ⟨_, List.getElem?_eq_getElem (by omega)⟩
            have hm_y := List.mem_of_getElem? he_y
            obtain ⟨b_y, o_y, c_y, ha_y, _, hc_y, hR_y⟩ := hks.at he_y
            obtain rfl := hR_y
            have hlt_y : b_y < _ := World.block_lt_of_cell? _ _ (hc_y 0 _ rfl)
            have e : spanOf vs t.op t.n ks = hullL y (ks.drop 2) := by rw [spanOf, if_neg h0, if_neg h24, if_neg h6, if_neg h8, if_neg h9, if_neg h10, if_neg h11, if_neg h12, if_neg h21, if_neg h22, if_pos (hp.1 p1), at2_eq he_y]
            have hdr := hks.drop 2 (by omega)
            have hdl : (ks.drop 2).length = ks.length - 2 := List.length_drop
            refine Gs 3 rfl (G.ops1 rfl rfl (R.indexS Tryz.runUnderlying261 Tryz.sizeOf243 rfl rfl ha_y (by omega)) (G.ldK rfl Tryz.isAgg243 Tryz.sizeOf243 hc_y rfl (G.mem rfl rfl (M.alloc (cs := _) Tryz.zeroValue243 rfl) ?_)))
            rintro _ wa14 ⟨o, rfl, hg_o, hs_o, hB_o, hk_o⟩
            refine G.mem0 rfl (M.storeK Tryz.sizeOf243 rfl rfl rfl rfl (by simp [Value.oneCell']) hB_o (by simp)) ?_
            rintro w_o ⟨_, hB_o, hkk_o⟩
            replace hk_o := hk_o.trans hkk_o (fun q hq h => by have h : q = o := h; omega)
            have hn_b_o : b ≠ o := by have := hB_b.lt; omega
            have hn_r_o : r ≠ o := by have := hB_r.lt; omega
            have hge_o : _ ≤ o := Nat.le_trans hE.size (Nat.le_of_eq hg_o.symm)
            obtain ⟨hE, hvs, hks, hB_b, hB_r, hc_y⟩ := Tr6 hk_o hE hvs hks hB_b hB_r hc_y
            refine Gs 6 rfl (G.ops1 rfl rfl (R.sliceLo Tryz.runUnderlying261 Tryz.sizeOf243 rfl rfl (by omega)) (Gs 5 rfl (G.loop (σ := Nat) (fun k => [(6, .pointer (some ⟨r, 0, none⟩)), (9, .pointer (some ⟨o, 0, none⟩)), (207, .slice (if nk = 2 then ak else ak.map (·.add (2 * 2))) (ks.length - 2) (nk - 2)), (208, .int .i64 (ks.length - 2 : Nat)), (209, .int .i64 k)]) (fun k => fun w' => k ≤ ks.length - 2 ∧ Blk w' o [.int .i64 (hullL y ((ks.drop 2).take k)).1, .int .i64 (hullL y ((ks.drop 2).take k)).2] 243 ∧ Keep (fun q => q = o) w_o w') (fun k => ks.length - 2 - k) (0) (Sub.of rfl) (⟨Nat.zero_le _, hB_o, Keep.refl _ _⟩) ?_)))
            rintro k w1 ⟨hk, hB_o, hk1⟩
            refine Gs 6 rfl (G.ite rfl (fun hlt => ?_) (fun hlt => ?_))
            ·
             obtain ⟨z, he_z⟩ : ∃ x, (ks.drop 2)[k]? = some x := ⟨_, List.getElem?_eq_getElem (by omega)⟩
             have hm_z := List.mem_of_getElem? he_z
             obtain ⟨b_z, o_z, c_z, ha_z, _, hc_z, hR_z⟩ := hdr.at he_z
             obtain rfl := hR_z
             have hlt_z : b_z < _ := World.block_lt_of_cell? _ _ (hc_z 0 _ rfl)
             replace hc_z := hk1.cells (hk_o.cells hc_z (fun h => h)) (show b_z ≠ o by omega)
             refine Gs 6 rfl (G.ops1 rfl rfl (R.indexS Tryz.runUnderlying261 Tryz.sizeOf243 rfl rfl ha_z (by omega)) (G.ldK rfl Tryz.isAgg243 Tryz.sizeOf243 hc_z rfl (G.mem rfl rfl (M.alloc (cs := _) Tryz.zeroValue243 rfl) ?_)))
             rintro _ wa ⟨c, rfl, hg_c, hs_c, hB_c, hk_c⟩
             refine G.mem0 rfl (M.storeK Tryz.sizeOf243 rfl rfl rfl rfl (by simp [Value.oneCell']) hB_c (by simp)) ?_
             rintro w3 ⟨_, hB_c, hk3⟩
             have hk13 : Ext w1 w3 := hk_c.trans hk3 (fun q hq h => by have h : q = c := h; omega)
             replace hB_o := hk13.blk hB_o (fun h => h)
             refine Gs 3 rfl (G.ldK rfl Tryz.isAgg243 Tryz.sizeOf243 hB_o.cells rfl (G.ldK rfl Tryz.isAgg243 Tryz.sizeOf243 hB_c.cells rfl (G.call rfl Tryz.call228 (hull_ok (hullL y ((ks.drop 2).take k)) z w3) ?_)))
             rintro _ w4 ⟨rfl, hk4⟩
             refine G.mem0 rfl (M.storeK Tryz.sizeOf243 rfl rfl rfl rfl (by simp [Value.oneCell']) (hk4.blk hB_o (fun h => h)) (by simp)) ?_
             rintro w5 ⟨_, hB5, hk5⟩
             refine Ga 7 rfl (by omega) (G.back (k + 1) (Sub.of rfl) (⟨by omega, ?_, (hk1.ext (hk13.ext hk4)).trans hk5 (fun _ _ h => h)⟩) (by first | omega | (dsimp only; omega)))
             rw [hullL_take he_z]
             exact hB5
            ·
             have hkk : k = ks.length - 2 := by omega
             have hr1 := hk1.blk hB_r hn_r_o
             rw [hkk, ← hdl, List.take_length, ← e] at hB_o
             refine Gs 7 rfl (G.ldK rfl Tryz.isAgg243 Tryz.sizeOf243 hB_o.cells rfl (G.mem0 rfl (M.storeK Tryz.sizeOf243 rfl rfl rfl rfl (by simp [Value.oneCell']) hr1 (by simp)) ?_))
             rintro wf ⟨_, hBf, hkf⟩
             refine Gs 5 rfl (G.retC Tryz.results219 rfl (run_loadK Tryz.isAgg243 Tryz.sizeOf243 rfl hBf.cells) ?_)
             exact ⟨_, rfl, rfl, (hE.trans hk1 (fun q hq h => by have h : q = o := h; omega)).trans hkf (fun q hq h => by have h : q = r := h; omega)⟩
           ·
            have e := hbase (fun h => by rw [hp.2 h] at p1; cases p1)
            refine Gs 5 rfl (G.ops1 rfl rfl (R.build (v := .agg #[.int .i64 0, .int .i64 1]) [(0, _), (1, _)] rfl (fun _ => by kernel_rfl)) (G.mem0 rfl (M.storeK Tryz.sizeOf243 rfl rfl rfl rfl (by simp [Value.oneCell']) hB_r (by simp)) ?_))
            rintro wf ⟨_, hBf, hkf⟩
            refine Gs 3 rfl (G.retC Tryz.results219 rfl (run_loadK Tryz.isAgg243 Tryz.sizeOf243 rfl hBf.cells) ?_)
            exact ⟨_, rfl, by rw [e] <;> rfl, hE.trans hkf (fun q hq h => by have h : q = r := h; omega)⟩
end Go.Proofs.YtldhllpogdikdaaGreat
namespace Go.GL.Gr
def okE (n : Int) (e : Int × Int) : Bool := decide (0 ≤ e.1 ∧ e.1 < n) && decide (0 ≤ e.2 ∧ e.2 < n)
def check (n : Int) (es : List (Int × Int)) : Int := if n < 0 then 1 else if 4096 < n ∨ 1048576 < es.length then 4 else if es.all (okE n) then 0 else 3
theorem all_take_succ {α : Type} {p : α → Bool} {l : List α} {k : Nat} {x : α} (hx : l[k]? = some x) (h : (l.take k).all p = true) (hp : p x = true) : (l.take (k + 1)).all p = true := by
 obtain ⟨hk, rfl⟩ := List.getElem?_eq_some_iff.1 hx
 rw [List.take_succ_eq_append_getElem hk, List.all_append, h]
 simp [hp]
theorem all_false {α : Type} {p : α → Bool} {l : List α} {k : Nat} {x : α} (hx : l[k]? = some x) (hp : p x = false) : l.all p = false := by
 rw [List.all_eq_false]
 exact ⟨x, List.mem_of_getElem? hx, by simp [hp]⟩
section
variable {α : Type} [DecidableEq α]
def cstep (acc : List α) (x : α) : List α := if acc.getLast? = some x then acc else acc ++ [x]
def compactL (l : List α) : List α := l.foldl cstep []
theorem getLast_cstep (acc : List α) (x : α) : (cstep acc x).getLast? = some x := by
 unfold cstep
 split
 · assumption
 · simp
theorem compactL_snoc (l : List α) (x : α) : compactL (l ++ [x]) = cstep (compactL l) x := by simp [compactL]
theorem compactL_take {l : List α} {k : Nat} {x : α} (hx : l[k]? = some x) : compactL (l.take (k + 1)) = cstep (compactL (l.take k)) x := by
 obtain ⟨hk, rfl⟩ := List.getElem?_eq_some_iff.1 hx
 rw [List.take_succ_eq_append_getElem hk, compactL_snoc]
theorem compactL_last {l : List α} {k : Nat} {x : α} (hx : l[k]? = some x) : (compactL (l.take (k + 1))).getLast? = some x := by
 rw [compactL_take hx, getLast_cstep]
theorem compactL_len (l : List α) : (compactL l).length ≤ l.length := by
 have : ∀ (l acc : List α), (l.foldl cstep acc).length ≤ acc.length + l.length := by
  intro l
  induction l with
  | nil => intro acc; simp
  | cons x r ih =>
   intro acc
   have h1 := ih (cstep acc x)
   have h2 : (cstep acc x).length ≤ acc.length + 1 := by unfold cstep; split <;> simp
   simp only [List.foldl_cons, List.length_cons]
   omega
 simpa [compactL] using this l []
theorem compactL_mem (l : List α) (x : α) : x ∈ compactL l ↔ x ∈ l := by
 have : ∀ (l acc : List α), x ∈ l.foldl cstep acc ↔ x ∈ acc ∨ x ∈ l := by
  intro l
  induction l with
  | nil => intro acc; simp
  | cons y r ih =>
   intro acc
   rw [List.foldl_cons, ih]
   have h2 : x ∈ cstep acc y ↔ x ∈ acc ∨ x = y := by
    unfold cstep
    split
    ·
     rename_i h
     constructor
     · exact .inl
     ·
      rintro (h' | rfl)
      · exact h'
      · exact List.mem_of_getLast? h
    · simp
   rw [h2]
   simp [or_assoc]
 simpa [compactL] using this l []
theorem compactL_strict {le : α → α → Prop} (hanti : ∀ a b, le a b → le b a → a = b) {l : List α} (h : l.Pairwise le) : (compactL l).Pairwise (fun a b => le a b ∧ a ≠ b) := by
 have : ∀ (l acc : List α), acc.Pairwise (fun a b => le a b ∧ a ≠ b) → (∀ a ∈ acc, ∀ b ∈ l, le a b) → l.Pairwise le → (l.foldl cstep acc).Pairwise (fun a b => le a b ∧ a ≠ b) := by
  intro l
  induction l with
  | nil => intro acc h1 _ _; exact h1
  | cons x r ih =>
   intro acc h1 h2 h3
   rw [List.pairwise_cons] at h3
   rw [List.foldl_cons]
   refine ih _ ?_ ?_ h3.2
   ·
    unfold cstep
    split
    · exact h1
    ·
     rename_i hne
     rw [List.pairwise_append]
     refine ⟨h1, List.pairwise_singleton _ _, ?_⟩
     intro a ha b hb
     rw [List.mem_singleton] at hb
     subst hb
     refine ⟨h2 a ha _ (List.mem_cons_self ..), ?_⟩
     rintro rfl
     apply hne
     obtain ⟨z, hz⟩ : ∃ z, acc.getLast? = some z := by
      cases hacc : acc.getLast? with
      | none => rw [List.getLast?_eq_none_iff] at hacc; subst hacc; simp at ha
      | some z => exact ⟨z, rfl⟩
     rw [hz]
     have hzm := List.mem_of_getLast? hz
     have hza := h2 z hzm a (List.mem_cons_self ..)
     by_cases e : a = z
     · rw [e]
     ·
      obtain ⟨ini, rfl⟩ : ∃ ini, acc = ini ++ [z] := by
       rw [List.getLast?_eq_some_iff] at hz; obtain ⟨ys, h⟩ := hz; exact ⟨ys, h⟩
      rw [List.mem_append, List.mem_singleton] at ha
      rcases ha with ha | ha
      ·
       rw [List.pairwise_append] at h1
       have := (h1.2.2 a ha z (by simp)).1
       rw [hanti a z this hza]
      · exact absurd ha e
   ·
    intro a ha b hb
    have : a ∈ acc ∨ a = x := by
     unfold cstep at ha
     split at ha
     · exact .inl ha
     · simpa using ha
    rcases this with ha | rfl
    · exact h2 a ha b (List.mem_cons_of_mem _ hb)
    · exact h3.1 b hb
 exact this l [] List.Pairwise.nil (by simp) h
end
end Go.GL.Gr
namespace Go.Proofs.YtldhllpogdikdaaGreat
open Go.GL
theorem node_ok (n x : Int) (ev : Value) (w : World) : Calls Tryz.prog 182 #[.agg #[.int .i64 n, ev], .int .i64 x] w (Ret fun v w' => v = .bool (decide (0 ≤ x ∧ x < n)) ∧ Ext w w') := by
 refine G.in2 Tryz.func182 rfl Tryz.ntmps182 rfl (Gs 2 rfl (G.mem rfl rfl (M.box rfl rfl) ?_))
 rintro _ w1 ⟨b, rfl, hb, hsz, hB, hk⟩
 refine Gs 8 rfl (G.cases (p := 0 ≤ x) (fun h => ?_) (fun h => ?_))
 · refine G.yes rfl rfl (decide_eq_true h) (Gs 1 rfl (G.yes rfl rfl (decide_eq_true h) (Gs 1 rfl (G.yes rfl rfl (decide_eq_true h) (G.ld rfl Tryz.isAgg3 (hB.cells 0 _ rfl) (G.yes rfl rfl (decide_eq_true h) (Gs 1 rfl (G.ops1 rfl rfl (R.pickT rfl (decide_eq_true h) rfl) (Gs 4 rfl (G.ret1 Tryz.results182 rfl ⟨_, rfl, by simp [h], hk⟩))))))))))
 · refine G.no rfl rfl (decide_eq_false h) rfl (G.no rfl rfl (decide_eq_false h) rfl (G.no rfl rfl (decide_eq_false h) rfl (G.no rfl rfl (decide_eq_false h) rfl (G.ops1 rfl rfl (R.pickF rfl (decide_eq_false h) rfl) (Gs 4 rfl (G.ret1 Tryz.results182 rfl ⟨_, rfl, by simp [h], hk⟩))))))
theorem check_ok (n : Int) (es : List (Int × Int)) (ev : Value) (D : Nat → Prop) (w : World) (hes : SlR 2 RPair D w ev es) : Calls Tryz.prog 133 #[.agg #[.int .i64 n, ev]] w (Ret fun v w' => v = .int .i64 (Gr.check n es) ∧ Ext w w') := by
 obtain ⟨ao, cap, rfl, hlc, hcm, hel⟩ := hes
 refine G.in1 Tryz.func133 rfl Tryz.ntmps133 rfl (Gs 2 rfl (G.mem rfl rfl (M.box rfl rfl) ?_))
 rintro _ w1 ⟨b, rfl, hb, hsz, hB, hk⟩
 refine Gs 7 rfl (G.ld rfl Tryz.isAgg3 (hB.cells 0 _ rfl) (Gs 3 rfl (G.ite0 rfl (fun hn => ?_) (fun hn => ?_))))
 · refine Gs 7 rfl (G.ret1 Tryz.results133 rfl ⟨_, rfl, by simp [Gr.check, hn], hk⟩)
 ·
  refine Gs 6 rfl (G.ld rfl Tryz.isAgg3 (hB.cells 0 _ rfl) (Gs 2 rfl (G.cases (p := 4096 < n) (fun h1 => ?_) (fun h1 => ?_))))
  · refine G.no rfl rfl (decide_eq_true h1) rfl (G.no rfl rfl (decide_eq_true h1) rfl (G.no rfl rfl (decide_eq_true h1) rfl (G.no rfl rfl (decide_eq_true h1) rfl (G.ops1 rfl rfl (R.pickT rfl (decide_eq_true h1) rfl) (Gs 2 rfl (G.tt rfl (rfl) (Gs 7 rfl (G.ret1 Tryz.results133 rfl ⟨_, rfl, by simp [Gr.check, hn, h1], hk⟩))))))))
  ·
   refine G.yes rfl rfl (decide_eq_false h1) (Gs 1 rfl (G.yes rfl rfl (decide_eq_false h1) (G.ld rfl Tryz.isAgg89 (hB.cells 1 _ rfl) (G.yes rfl rfl (decide_eq_false h1) (Gs 1 rfl (G.yes rfl rfl (decide_eq_false h1) (Gs 1 rfl (G.ops1 rfl rfl (R.pickF rfl (decide_eq_false h1) rfl) (Gs 2 rfl (G.ite0 rfl (fun h2 => ?_) (fun h2 => ?_)))))))))))
   ·
    refine Gs 7 rfl ?_
    have h2' : 1048576 < es.length := by omega
    refine G.ret1 Tryz.results133 rfl ⟨_, rfl, by simp [Gr.check, hn, h2'], hk⟩
   ·
    refine Gs 6 rfl (G.ld rfl Tryz.isAgg89 (hB.cells 1 _ rfl) (Gs 5 rfl (G.loop (σ := Nat) (fun k => [(1, .pointer (some ⟨b, 0, none⟩)), (18, .slice ao es.length cap), (19, .int .i64 es.length), (20, .int .i64 k)]) (fun k => fun w' => k ≤ es.length ∧ (es.take k).all (Gr.okE n) = true ∧ Ext w1 w') (fun k => es.length - k) (0) (Sub.of rfl) (⟨Nat.zero_le _, rfl, Keep.refl _ _⟩) ?_)))
    rintro k w2 ⟨hkn, hall, hk2⟩
    have hB2 := hk2.blk hB (fun h => h)
    refine Gs 6 rfl (G.ite0 rfl (fun hlt => ?_) (fun hge => ?_))
    ·
     refine Gs 6 rfl ?_
     obtain ⟨e, he⟩ : ∃ e, es[k]? = some e := ⟨_, List.getElem?_eq_getElem (by omega)⟩
     obtain ⟨be, oe, ce, hao, _, hcl, hcs, rfl⟩ := hel k e he
     refine G.ops1 rfl rfl (R.indexS Tryz.runUnderlying89 Tryz.sizeOf97 rfl rfl hao (by omega)) (G.ldK rfl Tryz.isAgg97 Tryz.sizeOf97 ((hk.ext hk2).cells hcs (fun h => h)) rfl (G.mem rfl rfl (M.alloc (cs := _) Tryz.zeroValue97 rfl) ?_))
     rintro _ w3 ⟨b4, rfl, hb4, hsz3, hB3, hk3⟩
     refine G.mem0 rfl (M.storeK Tryz.sizeOf97 rfl rfl rfl rfl (by simp [Value.oneCell']) hB3 (by simp)) ?_
     rintro w4 ⟨hs4, hB4, hk4⟩
     have hE4 : Ext w1 w4 := (hk2.ext hk3).trans hk4 (fun q hq h => by have := Blk.lt hB2; have := hk2.size; omega)
     have hB5 := hE4.blk hB (fun h => h)
     refine Gs 4 rfl (G.ldK rfl Tryz.isAgg91 Tryz.sizeOf91 hB5.cells rfl (G.ops1 rfl rfl (R.indexA Tryz.runUnderlying97 Tryz.sizeOf3 rfl rfl (by omega)) (G.ld rfl Tryz.isAgg3 (hB4.cells 0 _ rfl) (G.call rfl Tryz.call182 (node_ok _ _ _ _) ?_))))
     rintro _ w5 ⟨rfl, hk5⟩
     have hE5 := hE4.ext hk5
     refine G.ops1 rfl rfl (R.notD rfl) (Gs 1 rfl (G.cases (p := ¬ (0 ≤ e.1 ∧ e.1 < n)) (fun h3 => ?_) (fun h3 => ?_)))
     ·
      refine G.no rfl rfl (decide_eq_true h3) rfl (G.no rfl rfl (decide_eq_true h3) rfl (G.no rfl rfl (decide_eq_true h3) rfl (G.no rfl rfl (decide_eq_true h3) rfl (G.no rfl rfl (decide_eq_true h3) rfl (G.ops1 rfl rfl (R.pickT rfl (decide_eq_true h3) rfl) (Gs 2 rfl (G.tt rfl (rfl) (Gs 11 rfl (G.ret1 Tryz.results133 rfl ⟨_, rfl, ?_, hk.ext hE5⟩)))))))))
      have : es.all (Gr.okE n) = false := Gr.all_false he (by simp [Gr.okE] at *; omega)
      simp [Gr.check, hn, h1, this]; omega
     ·
      refine G.yes rfl rfl (decide_eq_false h3) (G.ldK rfl Tryz.isAgg91 Tryz.sizeOf91 (hE5.blk hB (fun h => h)).cells rfl (G.yes rfl rfl (decide_eq_false h3) (G.ops1 rfl rfl (R.indexA Tryz.runUnderlying97 Tryz.sizeOf3 rfl rfl (by omega)) (G.yes rfl rfl (decide_eq_false h3) (G.ld rfl Tryz.isAgg3 ((hk5.blk hB4 (fun h => h)).cells 1 _ rfl) (G.yes rfl rfl (decide_eq_false h3) (G.call rfl Tryz.call182 (node_ok _ _ _ _) ?_)))))))
      rintro _ w6 ⟨rfl, hk6⟩
      refine G.yes rfl rfl (decide_eq_false h3) (G.ops1 rfl rfl (R.notD rfl) (G.ops1 rfl rfl (R.pickF rfl (decide_eq_false h3) rfl) (Gs 2 rfl (G.ite0 rfl (fun h4 => ?_) (fun h4 => ?_)))))
      ·
       refine Gs 11 rfl (G.ret1 Tryz.results133 rfl ⟨_, rfl, ?_, hk.ext (hE5.ext hk6)⟩)
       have : es.all (Gr.okE n) = false := Gr.all_false he (by simp [Gr.okE] at *; omega)
       simp [Gr.check, hn, h1, this]; omega
      ·
       refine Ga 7 rfl (by omega) (G.back (k + 1) (Sub.of rfl) (⟨by omega, ?_, hE5.ext hk6⟩) ((by omega)))
       exact Gr.all_take_succ he hall (by simp [Gr.okE] at *; omega)
    ·
     refine Gs 11 rfl (G.ret1 Tryz.results133 rfl ⟨_, rfl, ?_, hk.ext hk2⟩)
     have : k = es.length := by omega
     subst this
     rw [List.take_length] at hall
     simp [Gr.check, hn, h1, hall]; omega
theorem compare_ok (a b : Int × Int) (w : World) (ha : -4611686018427387904 ≤ a.1 ∧ a.1 ≤ 4611686018427387903 ∧ -4611686018427387904 ≤ a.2 ∧ a.2 ≤ 4611686018427387903) (hb : -4611686018427387904 ≤ b.1 ∧ b.1 ≤ 4611686018427387903 ∧ -4611686018427387904 ≤ b.2 ∧ b.2 ≤ 4611686018427387903) :
  Calls Tryz.prog 184 #[.agg #[.int .i64 a.1, .int .i64 a.2], .agg #[.int .i64 b.1, .int .i64 b.2]] w (Ret fun v w' => v = .int .i64 (if a.1 ≠ b.1 then a.1 - b.1 else a.2 - b.2) ∧ Ext w w') := by
 refine G.in2 Tryz.func184 rfl Tryz.ntmps184 rfl (Gs 2 rfl (G.mem rfl rfl (M.box rfl rfl) ?_))
 rintro _ w1 ⟨p, rfl, hp, hsz, hP, hk⟩
 refine G.mem rfl rfl (M.box rfl rfl) ?_
 rintro _ w2 ⟨q, rfl, hq, hsz2, hQ, hk2⟩
 have hP2 := hk2.blk hP (fun h => h)
 refine Gs 6 rfl (G.ops1 rfl rfl (R.indexA Tryz.runUnderlying97 Tryz.sizeOf3 rfl rfl (by omega)) (G.ld rfl Tryz.isAgg3 (hP2.cells 0 _ rfl) (G.ops1 rfl rfl (R.indexA Tryz.runUnderlying97 Tryz.sizeOf3 rfl rfl (by omega)) (G.ld rfl Tryz.isAgg3 (hQ.cells 0 _ rfl) (Gs 3 rfl (G.ite0 rfl (fun h => ?_) (fun h => ?_)))))))
 · refine Gs 2 rfl (G.ops1 rfl rfl (R.indexA Tryz.runUnderlying97 Tryz.sizeOf3 rfl rfl (by omega)) (G.ld rfl Tryz.isAgg3 (hP2.cells 0 _ rfl) (G.ops1 rfl rfl (R.indexA Tryz.runUnderlying97 Tryz.sizeOf3 rfl rfl (by omega)) (G.ld rfl Tryz.isAgg3 (hQ.cells 0 _ rfl) (Ga 6 rfl (by omega) (G.ret1 Tryz.results184 rfl ⟨_, rfl, by rw [if_pos h], hk.ext hk2⟩))))))
 · refine Gs 4 rfl (G.ops1 rfl rfl (R.indexA Tryz.runUnderlying97 Tryz.sizeOf3 rfl rfl (by omega)) (G.ld rfl Tryz.isAgg3 (hP2.cells 1 _ rfl) (G.ops1 rfl rfl (R.indexA Tryz.runUnderlying97 Tryz.sizeOf3 rfl rfl (by omega)) (G.ld rfl Tryz.isAgg3 (hQ.cells 1 _ rfl) (Ga 5 rfl (by omega) (G.ret1 Tryz.results184 rfl ⟨_, rfl, by rw [if_neg h], hk.ext hk2⟩))))))
def encP (e : Int × Int) : List Value := [.int .i64 e.1, .int .i64 e.2]
theorem encP_len (e : Int × Int) : (encP e).length = 2 := rfl
theorem encP_one (e : Int × Int) : ∀ u ∈ encP e, u.oneCell' = true := by simp [encP, Value.oneCell']
mutual
/-- The range of a term whose nodes all lie within the limit. -/
def rng (vs : List Vr) : Tm → Option Rg
 | .mk op n ks => (rngL vs ks).bind fun l => if okR (spanOf vs op n l) then some (spanOf vs op n l) else none
def rngL (vs : List Vr) : List Tm → Option (List Rg)
 | [] => some []
 | k :: r => (rng vs k).bind fun x => (rngL vs r).map fun l => x :: l
end
section
variable {vs : List Vr}
theorem rng_eq (t : Tm) : rng vs t = (rngL vs t.kids).bind fun l => if okR (spanOf vs t.op t.n l) then some (spanOf vs t.op t.n l) else none := by cases t; rw [rng]; rfl
theorem rngL_append (a b : List Tm) : rngL vs (a ++ b) = (rngL vs a).bind fun l => (rngL vs b).map fun m => l ++ m := by
 induction a with
 | nil => simp [rngL]
 | cons x r ih =>
  simp only [List.cons_append, rngL, ih]
  cases rng vs x <;> cases rngL vs r <;> cases rngL vs b <;> simp
theorem rngL_take {l : List Tm} {i : Nat} {x : Tm} {m : List Rg} {r : Rg} (h : l[i]? = some x) (h1 : rngL vs (l.take i) = some m) (h2 : rng vs x = some r) : rngL vs (l.take (i + 1)) = some (m ++ [r]) := by
 rw [take_get h, rngL_append, h1]; simp [rngL, h2]
theorem rngL_none {l : List Tm} {i : Nat} {x : Tm} (h : l[i]? = some x) (h2 : rng vs x = none) : rngL vs l = none := by
 rw [split_get h, rngL_append]
 cases rngL vs (l.take i) <;> simp [rngL, h2]
theorem rngL_len : ∀ (l : List Tm) (m : List Rg), rngL vs l = some m → m.length = l.length
 | [], m, h => by simp [rngL] at h; subst h; rfl
 | x :: r, m, h => by
  simp only [rngL, Option.bind_eq_some_iff, Option.map_eq_some_iff] at h
  obtain ⟨y, _, z, h2, rfl⟩ := h
  simp [rngL_len r z h2]
theorem rngL_mem : ∀ (l : List Tm) (m : List Rg), rngL vs l = some m → ∀ r ∈ m, ∃ t ∈ l, rng vs t = some r
 | [], m, h, r, hr => by simp [rngL] at h; subst h; simp at hr
 | x :: l, m, h, r, hr => by
  simp only [rngL, Option.bind_eq_some_iff, Option.map_eq_some_iff] at h
  obtain ⟨y, h1, z, h2, rfl⟩ := h
  rcases List.mem_cons.1 hr with rfl | hr
  · exact ⟨x, List.mem_cons_self .., h1⟩
  ·
   obtain ⟨t, h3, h4⟩ := rngL_mem l z h2 r hr
   exact ⟨t, List.mem_cons_of_mem _ h3, h4⟩
theorem hullL_le (x : Rg) (h : x.1 ≤ x.2) : ∀ l : List Rg, (hullL x l).1 ≤ x.1 ∧ x.2 ≤ (hullL x l).2 := by
 intro l
 induction l generalizing x with
 | nil => simp [hullL]
 | cons y r ih =>
  have := ih (min x.1 y.1, max x.2 y.2) (by dsimp only; omega)
  simp only [hullL, List.foldl_cons] at this ⊢
  constructor <;> omega
theorem at2_mem {l : List Rg} {i : Nat} (h : i < l.length) : at2 l i ∈ l := by
 unfold at2
 rw [List.getElem?_eq_getElem h]
 exact List.getElem_mem h
theorem vat_good {n : Int} (hv : ∀ v ∈ vs, Good (v.low, v.high)) (hn : 0 ≤ n ∧ n < vs.length) : Good (vat vs n) := by
 unfold vat
 rw [List.getElem?_eq_getElem (show n.toNat < vs.length by omega)]
 exact hv _ (List.getElem_mem _)
theorem spanOf_le {op n : Int} {l : List Rg} (h : NodeOk vs op n l) : (spanOf vs op n l).1 ≤ (spanOf vs op n l).2 := by
 have hg : ∀ i, i < l.length → Good (at2 l i) := fun i hi => h.good _ (at2_mem hi)
 unfold Good at hg
 unfold spanOf
 split
 · exact Int.le_refl _
 split
 · rename_i h1 h2; exact (vat_good h.vars (h.var h2)).2.1
 split
 · rename_i h1 h2 h3; have := h.k1 (.inl h3); have := hg 0 (by omega); dsimp only; omega
 split
 · have := h.k2 (by omega); have := hg 0 (by omega); have := hg 1 (by omega); dsimp only; omega
 split
 · have := h.k2 (by omega); have := hg 0 (by omega); have := hg 1 (by omega); dsimp only; omega
 split
 ·
  have := hullL_le ((at2 l 0).1 * (at2 l 1).1, (at2 l 0).1 * (at2 l 1).1) (Int.le_refl _) [((at2 l 0).1 * (at2 l 1).2, (at2 l 0).1 * (at2 l 1).2), ((at2 l 0).2 * (at2 l 1).1, (at2 l 0).2 * (at2 l 1).1), ((at2 l 0).2 * (at2 l 1).2, (at2 l 0).2 * (at2 l 1).2)]
  unfold cornersI
  exact Int.le_trans this.1 this.2
 split
 · have := h.k2 (by omega); have := hg 0 (by omega); dsimp only; split <;> omega
 split
 · have := h.k2 (by omega); have := hg 1 (by omega); dsimp only; split <;> split <;> omega
 split
 · have := h.k2 (by omega); have := hg 0 (by omega); have := hg 1 (by omega); dsimp only; omega
 split
 · have := h.k2 (by omega); have := hg 0 (by omega); have := hg 1 (by omega); dsimp only; omega
 split
 ·
  rename_i hk
  have := h.k3 hk; have h2 := hg 1 (by omega)
  have := hullL_le (at2 l 1) h2.2.1 (l.drop 2)
  omega
 · decide
theorem rng_good {inp : Bool} (hv : ∀ v ∈ vs, Good (v.low, v.high)) (t : Tm) : formedT vs inp t = true → ∀ r, rng vs t = some r → Good r := by
 induction t using Tm.ind with
 | h t ih =>
  intro hf r hr
  rw [formedT_eq, Bool.and_eq_true, Bool.and_eq_true] at hf
  rw [rng_eq, Option.bind_eq_some_iff] at hr
  obtain ⟨l, h1, h2⟩ := hr
  have hn : NodeOk vs t.op t.n l := nodeOk_of (rngL_len _ _ h1) hf.1.1 hf.1.2 (fun x hx => by
   obtain ⟨k, hk, hkx⟩ := rngL_mem _ _ h1 x hx
   exact ih k hk (formedL_mem hf.2 hk) x hkx) hv
  have := spanOf_le hn
  split at h2
  ·
   rename_i hok
   cases h2
   have := of_decide_eq_true hok
   exact ⟨this.1, by omega, this.2⟩
  · cases h2
end
theorem ranged_ok (vs : List Vr) (inp : Bool) (vv : Value) (Dv : Nat → Prop) (hvb : ∀ v ∈ vs, Good (v.low, v.high)) (t : Tm) : ∀ (cs : List Value) (D : Nat → Prop) (w : World), SlR 5 RVr Dv w vv vs → RTm D w t cs → formedT vs inp t = true → t.nodes ≤ 1000000 →
  Calls Tryz.prog 197 #[vv, .agg cs.toArray] w (Ret fun r w' => (∃ a b : Int, r = .tuple #[.agg #[.int .i64 a, .int .i64 b], .bool (rng vs t).isSome] ∧ ∀ x, rng vs t = some x → (a, b) = x) ∧ Ext w w') := by
 induction t using Tm.ind with
 | h t ih =>
 intro cs D w hvs ht hf hsz
 have hft := hf
 rw [formedT_eq, Bool.and_eq_true, Bool.and_eq_true] at hf
 have hlen := tlen_le t.kids
 have hse := t.nodes_eq
 obtain ⟨v, rfl, hk⟩ := ht.get
 obtain ⟨ao, cap, rfl⟩ := hk.form
 obtain ⟨av, nv, rfl⟩ := hvs.form
 have hE := Keep.refl (fun _ => False) w
 refine G.in2 Tryz.func197 rfl Tryz.ntmps197 rfl (Gs 2 rfl (G.mem rfl rfl (M.box rfl rfl) ?_))
 rintro _ w_b ⟨b, rfl, hg_b, hs_b, hB_b, hk_b⟩
 have hge_b : _ ≤ b := Nat.le_trans hE.size (Nat.le_of_eq hg_b.symm)
 obtain ⟨hE, hvs, hk⟩ := Tr3 hk_b hE hvs hk
 refine G.mem rfl rfl (M.alloc (cs := _) Tryz.zeroValue243 rfl) ?_
 rintro _ w_r ⟨r, rfl, hg_r, hs_r, hB_r, hk_r⟩
 have hn_b_r : b ≠ r := by have := hB_b.lt; omega
 have hge_r : _ ≤ r := Nat.le_trans hE.size (Nat.le_of_eq hg_r.symm)
 obtain ⟨hE, hvs, hk, hB_b⟩ := Tr4 hk_r hE hvs hk hB_b
 refine Gs 12 rfl (G.ld rfl Tryz.isAgg82 (hB_b.cells 2 _ rfl) (Gs 5 rfl (G.loop (σ := Nat × List Rg × Value) (fun ⟨i, l, vk⟩ => [(0, .slice av vs.length nv), (3, .pointer (some ⟨b, 0, none⟩)), (4, .pointer (some ⟨r, 0, none⟩)), (6, vk), (13, .slice ao t.kids.length cap), (14, .int .i64 t.kids.length), (15, .int .i64 i)]) (fun ⟨i, l, vk⟩ => fun w' => i ≤ t.kids.length ∧ rngL vs (t.kids.take i) = some l ∧ w'.ownsRow 0 243 2 vk l.length (l.flatMap encP) ∧ (∀ q, vk.ownBlock = some q → w_r.heap.size ≤ q) ∧ Ext w_r w') (fun ⟨i, l, vk⟩ => t.kids.length - i) ((0, [], .slice none 0 0)) (Sub.of rfl) (⟨Nat.zero_le _, rfl, own_nil _ _ _, fun q hq => by simp [Value.ownBlock] at hq, Keep.refl _ _⟩) ?_)))
 rintro ⟨i, l, vk⟩ w1 ⟨hi, hl, hown, hfr, hL1⟩
 show G _ _ _ _ _ [(0, .slice av vs.length nv), (3, .pointer (some ⟨b, 0, none⟩)), (4, .pointer (some ⟨r, 0, none⟩)), (6, vk), (13, .slice ao t.kids.length cap), (14, .int .i64 t.kids.length), (15, .int .i64 i)] _
 obtain ⟨hE, hvs, hk, hB_b, hB_r⟩ := Tr5 hL1 hE hvs hk hB_b hB_r
 refine Gs 6 rfl (G.ite rfl (fun hlt => ?_) (fun hlt => ?_))
 ·
  obtain ⟨k, he_k⟩ : ∃ x, t.kids[i]? = some x := ⟨_, List.getElem?_eq_getElem (by omega)⟩
  have hm_k := List.mem_of_getElem? he_k
  obtain ⟨b_k, o_k, c_k, ha_k, _, hc_k, hR_k⟩ := hk.at he_k
  have h1_k := RTm.one hR_k
  obtain ⟨v1_k, rfl, hk_k⟩ := hR_k.get
  obtain ⟨a1_k, n1_k, rfl⟩ := hk_k.form
  have hlt_k : b_k < _ := World.block_lt_of_cell? _ _ (hc_k 0 _ rfl)
  have hsp := tnodes_split he_k
  have hll := rngL_len _ _ hl
  rw [List.length_take] at hll
  refine Gs 6 rfl (G.ops1 rfl rfl (R.indexS Tryz.runUnderlying82 Tryz.sizeOf84 rfl rfl ha_k (by omega)) (G.ldK rfl Tryz.isAgg84 Tryz.sizeOf84 hc_k rfl (G.mem rfl rfl (M.alloc (cs := _) Tryz.zeroValue84 rfl) ?_)))
  rintro _ wa1 ⟨c, rfl, hg_c, hs_c, hB_c, hk_c⟩
  refine G.mem0 rfl (M.storeK Tryz.sizeOf84 rfl rfl rfl rfl h1_k hB_c (by simp)) ?_
  rintro w_c ⟨_, hB_c, hkk_c⟩
  replace hk_c := hk_c.trans hkk_c (fun q hq h => by have h : q = c := h; omega)
  have hn_b_c : b ≠ c := by have := hB_b.lt; omega
  have hn_r_c : r ≠ c := by have := hB_r.lt; omega
  have hge_c : _ ≤ c := Nat.le_trans hE.size (Nat.le_of_eq hg_c.symm)
  obtain ⟨hE, hvs, hk, hB_b, hB_r, hL1, hown⟩ := Tr7 hk_c hE hvs hk hB_b hB_r hL1 hown
  obtain ⟨hc_k, hk_k⟩ := Tr2 hk_c hc_k hk_k
  refine Gs 5 rfl (G.ldK rfl Tryz.isAgg84 Tryz.sizeOf84 hB_c.cells rfl (G.call rfl Tryz.call197 (ih k hm_k _ D _ hvs (RTm.put hk_k) (formedL_mem hf.2 hm_k) (by omega)) ?_))
  rintro _ wz2 ⟨⟨ka, kb, rfl, hval⟩, hz2⟩
  obtain ⟨hE, hvs, hk, hB_b, hB_r, hL1, hown⟩ := Tr7 hz2 hE hvs hk hB_b hB_r hL1 hown
  obtain ⟨hc_k, hk_k, hB_c⟩ := Tr3 hz2 hc_k hk_k hB_c
  refine Gs 3 rfl (G.mem rfl rfl (M.alloc (cs := _) Tryz.zeroValue243 rfl) ?_)
  rintro _ wa3 ⟨d, rfl, hg_d, hs_d, hB_d, hk_d⟩
  refine G.mem0 rfl (M.storeK Tryz.sizeOf243 rfl rfl rfl rfl (by simp [Value.oneCell']) hB_d (by simp)) ?_
  rintro w_d ⟨_, hB_d, hkk_d⟩
  replace hk_d := hk_d.trans hkk_d (fun q hq h => by have h : q = d := h; omega)
  have hn_b_d : b ≠ d := by have := hB_b.lt; omega
  have hn_r_d : r ≠ d := by have := hB_r.lt; omega
  have hn_c_d : c ≠ d := by have := hB_c.lt; omega
  have hge_d : _ ≤ d := Nat.le_trans hE.size (Nat.le_of_eq hg_d.symm)
  obtain ⟨hE, hvs, hk, hB_b, hB_r, hL1, hown⟩ := Tr7 hk_d hE hvs hk hB_b hB_r hL1 hown
  obtain ⟨hc_k, hk_k, hB_c⟩ := Tr3 hk_d hc_k hk_k hB_c
  refine Gs 7 rfl (G.ops1 rfl rfl (R.notU rfl (by first | exact not_decide_eq | rfl)) (Gs 2 rfl (G.bool rfl (fun hb => ?_) (fun hb => ?_))))
  ·
   have hb' : rng vs k = none := by cases h : rng vs k <;> simp [h] at hb ⊢
   have hnone : rng vs t = none := by rw [rng_eq, rngL_none he_k hb']; rfl
   refine Gs 2 rfl (G.ops1 rfl rfl (R.build (v := .agg #[.int .i64 0, .int .i64 0]) [] rfl (fun _ => by kernel_rfl)) (G.mem0 rfl (M.storeK Tryz.sizeOf243 rfl rfl rfl rfl (by simp [Value.oneCell']) hB_r (by simp)) ?_))
   rintro wf ⟨_, hBf, hkf⟩
   refine Gs 10 rfl (G.retCT Tryz.results197 rfl (run_loadK Tryz.isAgg243 Tryz.sizeOf243 rfl hBf.cells) rfl ?_)
   exact ⟨_, rfl, ⟨0, 0, by rw [hnone]; rfl, fun x hx => by rw [hnone] at hx; cases hx⟩, hE.trans hkf (fun q hq h => by have h : q = r := h; omega)⟩
  ·
   obtain ⟨x, hx⟩ : ∃ x, rng vs k = some x := by cases h : rng vs k with
    | none => simp [h] at hb
    | some x => exact ⟨x, rfl⟩
   have hxv := hval x hx
   subst hxv
   refine Gs 4 rfl (G.ldK rfl Tryz.isAgg243 Tryz.sizeOf243 hB_d.cells rfl (G.mem rfl rfl (M.buildSlice (cs := encP (ka, kb)) [(0, _)] Tryz.runUnderlying261 Tryz.sizeOf243 Tryz.zeroValue243 (by decide) rfl (by kernel_rfl)) ?_))
   rintro _ w5 ⟨b5, rfl, hg_b5, hs_b5, hB_b5, hk_b5⟩
   obtain ⟨hE, hvs, hk, hB_b, hB_r, hL1, hown⟩ := Tr7 hk_b5 hE hvs hk hB_b hB_r hL1 hown
   obtain ⟨hc_k, hk_k, hB_c, hB_d⟩ := Tr4 hk_b5 hc_k hk_k hB_c hB_d
   refine G.mem rfl rfl (M.append Tryz.underlying261 Tryz.el243 rfl (by decide) rfl rfl hown rfl (Cells.add hB_b5.cells) (encP_one _) (by omega) (by omega)) ?_
   rintro vk' w6 ⟨hown6, hfr6, hk6, _⟩
   have hszL := hL1.size
   have hE6 : Ext w_r w6 := hL1.trans hk6 (fun q hq h => by have := hfr q h; omega)
   refine Ga 8 rfl (by omega) (G.back ((i + 1, l ++ [(ka, kb)], vk')) (Sub.of rfl) (⟨by omega, rngL_take he_k hl hx, ?_, ?_, hE6⟩) (by first | omega | (dsimp only; omega)))
   ·
    rw [List.length_append, List.flatMap_append]
    exact hown6
   ·
    intro q hq
    rcases hfr6 with h | ⟨q', h, h'⟩
    · exact hfr q (by rw [← h]; exact hq)
    · rw [h] at hq; cases hq; omega
 ·
  have hii : i = t.kids.length := by omega
  subst hii
  rw [List.take_length] at hl
  have hll := rngL_len _ _ hl
  have hsl : SlR 2 RPair (fun _ => True) w1 vk l := SlR.ofRowK (by omega) encP encP_len (fun x _ => rfl) hown (fun _ _ => trivial)
  have hn : NodeOk vs t.op t.n l := nodeOk_of hll hf.1.1 hf.1.2 (fun x hx => by
   obtain ⟨k, hk, hkx⟩ := rngL_mem _ _ hl x hx
   exact rng_good hvb k (formedL_mem hf.2 hk) x hkx) hvb
  have hrg : rng vs t = if okR (spanOf vs t.op t.n l) then some (spanOf vs t.op t.n l) else none := by rw [rng_eq, hl]; rfl
  refine Gs 8 rfl (G.ldK rfl Tryz.isAgg84 Tryz.sizeOf84 hB_b.cells rfl (Gs 1 rfl (G.call rfl Tryz.call219 (rule_ok vs t l _ vk _ Dv D (fun _ => True) _ hvs (RTm.put hk) hsl hn) ?_)))
  rintro _ wz4 ⟨rfl, hz4⟩
  obtain ⟨hE, hvs, hk, hB_b, hB_r, hL1, hown⟩ := Tr7 hz4 hE hvs hk hB_b hB_r hL1 hown
  refine G.mem rfl rfl (M.alloc (cs := _) Tryz.zeroValue243 rfl) ?_
  rintro _ wa5 ⟨o, rfl, hg_o, hs_o, hB_o, hk_o⟩
  refine G.mem0 rfl (M.storeK Tryz.sizeOf243 rfl rfl rfl rfl (by simp [Value.oneCell']) hB_o (by simp)) ?_
  rintro w_o ⟨_, hB_o, hkk_o⟩
  replace hk_o := hk_o.trans hkk_o (fun q hq h => by have h : q = o := h; omega)
  have hn_b_o : b ≠ o := by have := hB_b.lt; omega
  have hn_r_o : r ≠ o := by have := hB_r.lt; omega
  have hge_o : _ ≤ o := Nat.le_trans hE.size (Nat.le_of_eq hg_o.symm)
  obtain ⟨hE, hvs, hk, hB_b, hB_r, hL1, hown⟩ := Tr7 hk_o hE hvs hk hB_b hB_r hL1 hown
  obtain ⟨p, hp⟩ : ∃ p, p = spanOf vs t.op t.n l := ⟨_, rfl⟩
  rw [← hp] at hrg hB_o ⊢
  have hso : (rng vs t).isSome = okR p := by rw [hrg]; cases okR p <;> rfl
  have hval : ∀ x, rng vs t = some x → (p.1, p.2) = x := by
   intro x hx
   rw [hrg] at hx
   split at hx
   · exact Option.some.inj hx
   · cases hx
  refine Gs 3 rfl (Dw (fun q => Keep (fun k => k = r) w_o q) [] (fun wd6 hD0 _ => ?_))
  have hD : Keep (fun k => k = r) _ _ := hD0.mono (fun _ _ h => h.elim)
  refine WD.take 0 rfl (by kernel_rfl) rfl rfl rfl hD (fun w1 hw1 => R.loadK Tryz.isAgg243 Tryz.sizeOf243 rfl (by rfl) (hw1.blk hB_o (fun h => hn_r_o h.symm)).cells) (Ds [1] (by kernel_rfl) rfl (WD.take 2 rfl (by kernel_rfl) rfl rfl rfl hD (fun w1 hw1 => R.load Tryz.isAgg3 rfl ((hw1.blk hB_o (fun h => hn_r_o h.symm)).cells 0 _ rfl)) (Ds [3, 4] (by kernel_rfl) rfl (WD.sp 41 rfl (fun g1 => ?_) (fun g1 => ?_)))))
  ·
   have ho : okR p = decide (p.2 ≤ 1048576) := by unfold okR; congr 1; simp; omega
   refine Ds [5] (by kernel_rfl) rfl (WD.takeG 6 rfl (by kernel_rfl) rfl rfl hD (.inl ⟨fun a ha => wanted_yes ha rfl rfl rfl rfl, fun w1 hw1 => R.load Tryz.isAgg3 rfl ((hw1.blk hB_o (fun h => hn_r_o h.symm)).cells 1 _ rfl)⟩) (Ds [7, 8] (by kernel_rfl) rfl (WD.mem0 9 rfl (by kernel_rfl) rfl rfl (M.storeK Tryz.sizeOf243 rfl rfl rfl rfl (by simp [Value.oneCell']) (hD0.blk hB_r (fun h => h)) (by simp)) ?_)))
   rintro wf ⟨_, hBf, hkf⟩
   refine ⟨fun _ => hD.trans hkf (fun _ _ h => h), ?_⟩
   refine Ds [10] (by kernel_rfl) rfl (G.done (by kernel_rfl) ?_ _)
   refine Gs 2 rfl (G.retCT Tryz.results197 rfl (run_loadK Tryz.isAgg243 Tryz.sizeOf243 rfl hBf.cells) rfl ?_)
   exact ⟨_, rfl, ⟨p.1, p.2, by rw [hso, ho]; rfl, hval⟩, (hE.ext hD0).trans hkf (fun q hq h => by have h : q = r := h; omega)⟩
  ·
   have ho : okR p = false := by unfold okR; exact decide_eq_false (by omega)
   refine Ds [5, 6, 7, 8] (by kernel_rfl) rfl (WD.mem0 9 rfl (by kernel_rfl) rfl rfl (M.storeK Tryz.sizeOf243 rfl rfl rfl rfl (by simp [Value.oneCell']) (hD0.blk hB_r (fun h => h)) (by simp)) ?_)
   rintro wf ⟨_, hBf, hkf⟩
   refine ⟨fun _ => hD.trans hkf (fun _ _ h => h), ?_⟩
   refine Ds [10] (by kernel_rfl) rfl (G.done (by kernel_rfl) ?_ _)
   refine Gs 2 rfl (G.retCT Tryz.results197 rfl (run_loadK Tryz.isAgg243 Tryz.sizeOf243 rfl hBf.cells) rfl ?_)
   exact ⟨_, rfl, ⟨p.1, p.2, by rw [hso, ho]; rfl, hval⟩, (hE.ext hD0).trans hkf (fun q hq h => by have h : q = r := h; omega)⟩
open Go.GL
def encI (x : Int) : List Value := [.int .i64 x]
theorem mapI (l : List Int) : l.map (Value.int .i64) = l.flatMap encI := map_flat l
def termCodeN (vs : List Vr) (inp : Bool) (t : Tm) : Int := if formedT vs inp t then (if (rng vs t).isSome then 0 else 3) else 1
theorem termCode_ok (vs : List Vr) (inp : Bool) (vv : Value) (cs : List Value) (Dv D : Nat → Prop) (w : World) (t : Tm) (hvb : ∀ v ∈ vs, Good (v.low, v.high)) (hvs : SlR 5 RVr Dv w vv vs) (ht : RTm D w t cs) (hsz : t.nodes ≤ 1000000) : Calls Tryz.prog 156 #[vv, .agg cs.toArray, .bool inp] w (Ret fun r w' => r = .int .i64 (termCodeN vs inp t) ∧ Ext w w') := by
 obtain ⟨v, rfl, hk⟩ := ht.get
 have hE := Keep.refl (fun _ => False) w
 refine G.in3 Tryz.func156 rfl Tryz.ntmps156 rfl (Gs 2 rfl (G.mem rfl rfl (M.box rfl rfl) ?_))
 rintro _ w_b ⟨b, rfl, hg_b, hs_b, hB_b, hk_b⟩
 have hge_b : _ ≤ b := Nat.le_trans hE.size (Nat.le_of_eq hg_b.symm)
 obtain ⟨hE, hvs, hk⟩ := Tr3 hk_b hE hvs hk
 refine Gs 7 rfl (G.ldK rfl Tryz.isAgg84 Tryz.sizeOf84 hB_b.cells rfl (Gs 1 rfl (G.call rfl Tryz.call196 (flatFormed_ok vs inp vv Dv t _ D _ hvs (RTm.put hk)) ?_)))
 rintro _ wz1 ⟨rfl, hz1⟩
 obtain ⟨hE, hvs, hk, hB_b⟩ := Tr4 hz1 hE hvs hk hB_b
 refine G.ops1 rfl rfl (R.notU rfl (by first | exact not_decide_eq | rfl)) (Gs 2 rfl (G.bool rfl (fun hf => ?_) (fun hf => ?_)))
 ·
  have hf' : formedT vs inp t = false := by simpa using hf
  refine Gs 7 rfl (G.ret1 Tryz.results156 rfl ⟨_, rfl, by rw [termCodeN, hf']; rfl, hE⟩)
 ·
  have hf' : formedT vs inp t = true := by simpa using hf
  refine Gs 6 rfl (G.ldK rfl Tryz.isAgg84 Tryz.sizeOf84 hB_b.cells rfl (G.call rfl Tryz.call197 (ranged_ok vs inp vv Dv hvb t _ D _ hvs (RTm.put hk) hf' hsz) ?_))
  rintro _ wz2 ⟨⟨a, c, rfl, _⟩, hz2⟩
  obtain ⟨hE, hvs, hk, hB_b⟩ := Tr4 hz2 hE hvs hk hB_b
  refine Gs 3 rfl (G.mem rfl rfl (M.alloc (cs := _) Tryz.zeroValue243 rfl) ?_)
  rintro _ wa3 ⟨o, rfl, hg_o, hs_o, hB_o, hk_o⟩
  refine G.mem0 rfl (M.storeK Tryz.sizeOf243 rfl rfl rfl rfl (by simp [Value.oneCell']) hB_o (by simp)) ?_
  rintro w_o ⟨_, hB_o, hkk_o⟩
  replace hk_o := hk_o.trans hkk_o (fun q hq h => by have h : q = o := h; omega)
  have hn_b_o : b ≠ o := by have := hB_b.lt; omega
  have hge_o : _ ≤ o := Nat.le_trans hE.size (Nat.le_of_eq hg_o.symm)
  obtain ⟨hE, hvs, hk, hB_b⟩ := Tr4 hk_o hE hvs hk hB_b
  refine Gs 6 rfl (G.ops1 rfl rfl (R.notU rfl (by first | exact not_decide_eq | rfl)) (Gs 2 rfl (G.bool rfl (fun ho => ?_) (fun ho => ?_))))
  ·
   have ho' : (rng vs t).isSome = false := by simpa using ho
   refine Gs 7 rfl (G.ret1 Tryz.results156 rfl ⟨_, rfl, by rw [termCodeN, hf', ho']; rfl, hE⟩)
  ·
   have ho' : (rng vs t).isSome = true := by simpa using ho
   refine Gs 8 rfl (G.ret1 Tryz.results156 rfl ⟨_, rfl, by rw [termCodeN, hf', ho']; rfl, hE⟩)
def spaceF (k : Int) : List Vr → Int → Option Int
 | [], n => some n
 | v :: r, n => if v.kind = k then (if 4096 < n * (v.high - v.low + 1) then none else spaceF k r (n * (v.high - v.low + 1))) else spaceF k r n
def spaceN (k : Int) (vs : List Vr) : Option Int := spaceF k vs 1
theorem spaceF_append (k : Int) : ∀ (a b : List Vr) (n : Int), spaceF k (a ++ b) n = (spaceF k a n).bind (spaceF k b)
 | [], b, n => rfl
 | v :: r, b, n => by
  simp only [List.cons_append, spaceF]
  split
  ·
   split
   · rfl
   · exact spaceF_append k r b _
  · exact spaceF_append k r b _
theorem spaceF_pos (k : Int) : ∀ (a : List Vr) (n m : Int), (∀ v ∈ a, Good (v.low, v.high)) → 1 ≤ n → n ≤ 4096 → spaceF k a n = some m → 1 ≤ m ∧ m ≤ 4096
 | [], n, m, _, h1, h2, h => by simp [spaceF] at h; omega
 | v :: r, n, m, hg, h1, h2, h => by
  have hv := hg v (List.mem_cons_self ..)
  have hr := fun x hx => hg x (List.mem_cons_of_mem _ hx)
  unfold Good at hv
  simp only [spaceF] at h
  split at h
  ·
   split at h
   · cases h
   ·
    rename_i h3
    refine spaceF_pos k r _ m hr ?_ (by omega) h
    have : (1 : Int) * 1 ≤ n * (v.high - v.low + 1) := Int.mul_le_mul h1 (by dsimp only at hv; omega) (by omega) (by omega)
    omega
  · exact spaceF_pos k r n m hr h1 h2 h
theorem prod_le {n s : Int} (h1 : 1 ≤ n) (h2 : n ≤ 4096) (h3 : 1 ≤ s) (h4 : s ≤ 2097153) : 1 ≤ n * s ∧ n * s ≤ 4096 * 2097153 := by
 have a : (1 : Int) * 1 ≤ n * s := Int.mul_le_mul h1 h3 (by omega) (by omega)
 have b : n * s ≤ 4096 * 2097153 := Int.mul_le_mul h2 h4 (by omega) (by omega)
 omega
theorem domSize_ok (v : Vr) (w : World) (hg : Good (v.low, v.high)) : Calls Tryz.prog 217 #[.agg #[.string v.name, .int .i64 v.kind, .int .i64 v.low, .int .i64 v.high, .int .i64 v.init]] w (Ret fun r w' => r = .int .i64 (v.high - v.low + 1) ∧ Ext w w') := by
 unfold Good at hg
 dsimp only at hg
 have hE := Keep.refl (fun _ => False) w
 refine G.in1 Tryz.func217 rfl Tryz.ntmps217 rfl (Gs 2 rfl (G.mem rfl rfl (M.box rfl rfl) ?_))
 rintro _ w_b ⟨b, rfl, hg_b, hs_b, hB_b, hk_b⟩
 have hge_b : _ ≤ b := Nat.le_trans hE.size (Nat.le_of_eq hg_b.symm)
 replace hE := Tr1 hk_b hE
 refine Gs 6 rfl (G.ld rfl Tryz.isAgg3 (hB_b.cells 3 _ rfl) (Gs 1 rfl (G.ld rfl Tryz.isAgg3 (hB_b.cells 2 _ rfl) (Ga 6 rfl (by omega) (G.ret1 Tryz.results217 rfl ⟨_, rfl, rfl, hE⟩)))))
def encV (v : Vr) : List Value := [.string v.name, .int .i64 v.kind, .int .i64 v.low, .int .i64 v.high, .int .i64 v.init]
theorem encV_len (v : Vr) : (encV v).length = 5 := rfl
theorem encV_one (v : Vr) : ∀ u ∈ encV v, u.oneCell' = true := by simp [encV, Value.oneCell']
def ofKind (k : Int) (vs : List Vr) : List Vr := vs.filter fun v => decide (v.kind = k)
theorem ofKind_take {k : Int} {vs : List Vr} {i : Nat} {x : Vr} (h : vs[i]? = some x) : ofKind k (vs.take (i + 1)) = ofKind k (vs.take i) ++ (if x.kind = k then [x] else []) := by
 unfold ofKind
 rw [take_get h, List.filter_append]
 congr 1
 by_cases e : x.kind = k <;> simp [e]
theorem ofKind_len (k : Int) (vs : List Vr) : (ofKind k vs).length ≤ vs.length := List.length_filter_le _ _
theorem spaceF_ofKind (k : Int) : ∀ (vs : List Vr) (n : Int), spaceF k (ofKind k vs) n = spaceF k vs n
 | [], n => rfl
 | v :: r, n => by
  unfold ofKind
  by_cases e : v.kind = k
  ·
   rw [List.filter_cons_of_pos (by simpa using e)]
   simp only [spaceF, e, if_true]
   split
   · rfl
   · exact spaceF_ofKind k r _
  ·
   rw [List.filter_cons_of_neg (by simpa using e)]
   simp only [spaceF, e, if_false]
   exact spaceF_ofKind k r n
theorem chosen_ok (vs : List Vr) (k : Int) (vv : Value) (D : Nat → Prop) (w : World) (hk : 0 ≤ k ∧ k ≤ 3) (hg : ∀ v ∈ vs, Good (v.low, v.high)) (hvs : SlR 5 RVr D w vv vs) (hlen : vs.length ≤ 1000000) : Calls Tryz.prog 194 #[vv, .int .i64 k] w (Ret fun r w' => (∃ vl, r = .tuple #[vl, .int .i64 ((spaceN k vs).getD 0), .int .i64 (if (spaceN k vs).isSome then 0 else 4)] ∧ ((spaceN k vs).isSome = true → SlR 5 RVr (fun b => w.heap.size ≤ b) w' vl (ofKind k vs)) ∧ ((spaceN k vs).isSome = false → vl = .slice none 0 0)) ∧ Ext w w') := by
 obtain ⟨av, nv, rfl⟩ := hvs.form
 have hE := Keep.refl (fun _ => False) w
 refine G.in2 Tryz.func194 rfl Tryz.ntmps194 rfl (Gs 13 rfl (G.cut (σ := Unit) (fun u => [(0, .slice av vs.length nv), (1, .int .i64 k)]) (fun u => fun w' => w' = w) ?_ ?_))
 ·
  refine Gs 8 rfl (G.ite rfl (fun h0 => ?_) (fun h0 => ?_))
  · refine Gs 5 rfl (G.meet (()) (Sub.of rfl) (rfl))
  ·
   refine Gs 6 rfl (G.ite rfl (fun h1 => ?_) (fun h1 => ?_))
   · refine Gs 5 rfl (G.meet (()) (Sub.of rfl) (rfl))
   ·
    refine Gs 6 rfl (G.ite rfl (fun h2 => ?_) (fun h2 => ?_))
    · refine Gs 5 rfl (G.meet (()) (Sub.of rfl) (rfl))
    ·
     refine Gs 5 rfl (G.ite rfl (fun h3 => ?_) (fun h3 => ?_))
     · refine Gs 2 rfl (G.meet (()) (Sub.of rfl) (rfl))
     · exact absurd hk (by omega)
 rintro u w1 hw1
 subst hw1
 refine Gs 14 rfl (G.cut (σ := Value) (fun vl => [(0, .slice av vs.length nv), (1, .int .i64 k), (7, vl)]) (fun vl => fun w' => w'.ownsRow 0 125 5 vl (ofKind k vs).length ((ofKind k vs).flatMap encV) ∧ (∀ q, vl.ownBlock = some q → w1.heap.size ≤ q) ∧ Ext w1 w') ?_ ?_)
 ·
  refine Gs 1 rfl (G.loop (σ := Nat × Value) (fun ⟨i, vl⟩ => [(0, .slice av vs.length nv), (1, .int .i64 k), (7, vl), (19, .slice av vs.length nv), (20, .int .i64 vs.length), (21, .int .i64 i)]) (fun ⟨i, vl⟩ => fun w' => i ≤ vs.length ∧ w'.ownsRow 0 125 5 vl (ofKind k (vs.take i)).length ((ofKind k (vs.take i)).flatMap encV) ∧ (∀ q, vl.ownBlock = some q → w1.heap.size ≤ q) ∧ Ext w1 w') (fun ⟨i, vl⟩ => vs.length - i) ((0, .slice none 0 0)) (Sub.of rfl) (⟨Nat.zero_le _, own_nil _ _ _, fun q hq => by simp [Value.ownBlock] at hq, Keep.refl _ _⟩) ?_)
  rintro ⟨i, vl⟩ w2 ⟨hi, hown, hfr, hL1⟩
  show G _ _ _ _ _ [(0, .slice av vs.length nv), (1, .int .i64 k), (7, vl), (19, .slice av vs.length nv), (20, .int .i64 vs.length), (21, .int .i64 i)] _
  obtain ⟨hE, hvs⟩ := Tr2 hL1 hE hvs
  refine Gs 6 rfl (G.ite rfl (fun hlt => ?_) (fun hlt => ?_))
  ·
   obtain ⟨x, he_x⟩ : ∃ x, vs[i]? = some x := ⟨_, List.getElem?_eq_getElem (by omega)⟩
   have hm_x := List.mem_of_getElem? he_x
   obtain ⟨b_x, o_x, c_x, ha_x, _, hc_x, hR_x⟩ := hvs.at he_x
   have h1_x := RVr.one hR_x
   obtain rfl := hR_x
   have hlt_x : b_x < _ := World.block_lt_of_cell? _ _ (hc_x 0 _ rfl)
   have hgx := hg x hm_x
   unfold Good at hgx
   dsimp only at hgx
   have hot := ofKind_take (k := k) he_x
   have hol := ofKind_len k (vs.take i)
   rw [List.length_take] at hol
   refine Gs 6 rfl (G.ops1 rfl rfl (R.indexS Tryz.runUnderlying22 Tryz.sizeOf125 rfl rfl ha_x (by omega)) (G.ldK rfl Tryz.isAgg125 Tryz.sizeOf125 hc_x rfl (G.mem rfl rfl (M.alloc (cs := _) Tryz.zeroValue125 rfl) ?_)))
   rintro _ wa1 ⟨c, rfl, hg_c, hs_c, hB_c, hk_c⟩
   refine G.mem0 rfl (M.storeK Tryz.sizeOf125 rfl rfl rfl rfl h1_x hB_c (by simp)) ?_
   rintro w_c ⟨_, hB_c, hkk_c⟩
   replace hk_c := hk_c.trans hkk_c (fun q hq h => by have h : q = c := h; omega)
   have hge_c : _ ≤ c := Nat.le_trans hE.size (Nat.le_of_eq hg_c.symm)
   obtain ⟨hE, hvs, hL1, hown, hc_x⟩ := Tr5 hk_c hE hvs hL1 hown hc_x
   refine Gs 6 rfl (G.ld rfl Tryz.isAgg121 (hB_c.cells 1 _ rfl) (Gs 4 rfl (G.ite rfl (fun hkx => ?_) (fun hkx => ?_))))
   ·
    rw [if_neg hkx, List.append_nil] at hot
    refine Ga 8 rfl (by omega) (G.back ((i + 1, vl)) (Sub.of rfl) (⟨by omega, by rw [hot]; exact hown, hfr, hL1⟩) (by first | omega | (dsimp only; omega)))
   ·
    have hkx' : x.kind = k := Decidable.not_not.1 hkx
    rw [if_pos hkx'] at hot
    refine Gs 6 rfl (G.ld rfl Tryz.isAgg3 (hB_c.cells 2 _ rfl) (Gs 1 rfl (G.ld rfl Tryz.isAgg3 (hB_c.cells 3 _ rfl) (Gs 2 rfl (G.sp 34 rfl (fun b0 => ?_) (fun b0 => ?_))))))
    · exact absurd b0 (by omega)
    ·
     refine Gs 1 rfl (G.ld rfl Tryz.isAgg3 (hB_c.cells 2 _ rfl) (Gs 3 rfl (G.sp 39 rfl (fun b1 => ?_) (fun b1 => ?_))))
     · exact absurd b1 (by omega)
     ·
      refine Gs 1 rfl (G.ld rfl Tryz.isAgg3 (hB_c.cells 3 _ rfl) (Gs 4 rfl (G.ite rfl (fun b2 => ?_) (fun b2 => ?_))))
      · exact absurd b2 (by omega)
      ·
       refine Gs 4 rfl (G.ldK rfl Tryz.isAgg125 Tryz.sizeOf125 hB_c.cells rfl (G.mem rfl rfl (M.buildSlice (cs := encV x) [(0, _)] Tryz.runUnderlying22 Tryz.sizeOf125 Tryz.zeroValue125 (by decide) rfl (by kernel_rfl)) ?_))
       rintro _ w5 ⟨b5, rfl, hg_b5, hs_b5, hB_b5, hk_b5⟩
       obtain ⟨hE, hvs, hL1, hown, hc_x, hB_c⟩ := Tr6 hk_b5 hE hvs hL1 hown hc_x hB_c
       refine G.mem rfl rfl (M.append Tryz.underlying22 Tryz.el125 rfl (by decide) rfl rfl hown rfl (Cells.add hB_b5.cells) (encV_one _) (by omega) (by omega)) ?_
       rintro vl' w6 ⟨hown6, hfr6, hk6, _⟩
       have hszL := hL1.size
       refine Ga 8 rfl (by omega) (G.back ((i + 1, vl')) (Sub.of rfl) (⟨by omega, ?_, ?_, hL1.trans hk6 (fun q hq h => by have := hfr q h; omega)⟩) (by first | omega | (dsimp only; omega)))
       ·
        rw [hot, List.length_append, List.flatMap_append]
        exact hown6
       ·
        intro q hq
        rcases hfr6 with h | ⟨q', h, h'⟩
        · exact hfr q (by rw [← h]; exact hq)
        · rw [h] at hq; cases hq; omega
  ·
   have : i = vs.length := by omega
   subst this
   rw [List.take_length] at hown
   refine Gs 4 rfl (G.meet (vl) (Sub.of rfl) (⟨hown, hfr, hL1⟩))
 rintro vl w2 ⟨hown, hfr, hX⟩
 obtain ⟨hE, hvs⟩ := Tr2 hX hE hvs
 have hsl : SlR 5 RVr (fun b => w1.heap.size ≤ b) w2 vl (ofKind k vs) := SlR.ofRowK (by omega) encV encV_len (fun x _ => rfl) hown hfr
 obtain ⟨al, nl, rfl⟩ := hsl.form
 have hol := ofKind_len k vs
 have hgo : ∀ v ∈ ofKind k vs, Good (v.low, v.high) := fun v hv => hg v (List.mem_filter.1 hv).1
 have hsp : spaceF k (ofKind k vs) 1 = spaceN k vs := spaceF_ofKind k vs 1
 have hall : ∀ v ∈ ofKind k vs, v.kind = k := fun v hv => by simpa using (List.mem_filter.1 hv).2
 refine Gs 15 rfl (G.loop (σ := Nat × Int) (fun ⟨i, n⟩ => [(7, .slice al (ofKind k vs).length nl), (10, .int .i64 n), (49, .slice al (ofKind k vs).length nl), (50, .int .i64 (ofKind k vs).length), (51, .int .i64 i)]) (fun ⟨i, n⟩ => fun w' => i ≤ (ofKind k vs).length ∧ spaceF k ((ofKind k vs).take i) 1 = some n ∧ Ext w2 w') (fun ⟨i, n⟩ => (ofKind k vs).length - i) ((0, 1)) (Sub.of rfl) (⟨Nat.zero_le _, rfl, Keep.refl _ _⟩) ?_)
 rintro ⟨i, n⟩ w3 ⟨hi, hs, hL2⟩
 show G _ _ _ _ _ [(7, .slice al (ofKind k vs).length nl), (10, .int .i64 n), (49, .slice al (ofKind k vs).length nl), (50, .int .i64 (ofKind k vs).length), (51, .int .i64 i)] _
 obtain ⟨hE, hvs, hsl⟩ := Tr3 hL2 hE hvs hsl
 have hn := spaceF_pos k ((ofKind k vs).take i) 1 n (fun v hv => hgo v (List.mem_of_mem_take hv)) (by omega) (by omega) hs
 refine Gs 6 rfl (G.ite rfl (fun hlt => ?_) (fun hlt => ?_))
 ·
  obtain ⟨x, he_x⟩ : ∃ x, (ofKind k vs)[i]? = some x := ⟨_, List.getElem?_eq_getElem (by omega)⟩
  have hm_x := List.mem_of_getElem? he_x
  obtain ⟨b_x, o_x, c_x, ha_x, _, hc_x, hR_x⟩ := hsl.at he_x
  have h1_x := RVr.one hR_x
  obtain rfl := hR_x
  have hlt_x : b_x < _ := World.block_lt_of_cell? _ _ (hc_x 0 _ rfl)
  have hgx := hgo x hm_x
  have hgx' := hgx
  unfold Good at hgx'
  dsimp only at hgx'
  have hp := prod_le (n := n) (s := x.high - x.low + 1) hn.1 hn.2 (by omega) (by omega)
  have hst : spaceF k ((ofKind k vs).take (i + 1)) 1 = if 4096 < n * (x.high - x.low + 1) then none else some (n * (x.high - x.low + 1)) := by
   rw [take_get he_x, spaceF_append, hs]; simp [spaceF, hall x hm_x]
  refine Gs 6 rfl (G.ops1 rfl rfl (R.indexS Tryz.runUnderlying22 Tryz.sizeOf125 rfl rfl ha_x (by omega)) (G.ldK rfl Tryz.isAgg125 Tryz.sizeOf125 hc_x rfl (G.mem rfl rfl (M.alloc (cs := _) Tryz.zeroValue125 rfl) ?_)))
  rintro _ wa2 ⟨c, rfl, hg_c, hs_c, hB_c, hk_c⟩
  refine G.mem0 rfl (M.storeK Tryz.sizeOf125 rfl rfl rfl rfl h1_x hB_c (by simp)) ?_
  rintro w_c ⟨_, hB_c, hkk_c⟩
  replace hk_c := hk_c.trans hkk_c (fun q hq h => by have h : q = c := h; omega)
  have hge_c : _ ≤ c := Nat.le_trans hE.size (Nat.le_of_eq hg_c.symm)
  obtain ⟨hE, hvs, hsl, hL2, hc_x⟩ := Tr5 hk_c hE hvs hsl hL2 hc_x
  refine Gs 5 rfl (G.ldK rfl Tryz.isAgg125 Tryz.sizeOf125 hB_c.cells rfl (G.call rfl Tryz.call217 (domSize_ok x _ hgx) ?_))
  rintro _ wz3 ⟨rfl, hz3⟩
  obtain ⟨hE, hvs, hsl, hL2, hc_x, hB_c⟩ := Tr6 hz3 hE hvs hsl hL2 hc_x hB_c
  refine Ga 10 rfl (by omega) (G.ite rfl (fun hb => ?_) (fun hb => ?_))
  ·
   rw [if_pos hb] at hst
   have hnone : spaceN k vs = none := by
    rw [← hsp, ← List.take_append_drop (i + 1) (ofKind k vs), spaceF_append, hst]; rfl
   refine Gs 13 rfl (G.ret3 Tryz.results194 rfl rfl rfl ⟨_, rfl, ⟨.slice none 0 0, by rw [hnone]; rfl, (fun (h : (spaceN k vs).isSome = true) => by rw [hnone] at h; cases h), fun _ => rfl⟩, hE⟩)
  · refine Ga 7 rfl (by omega) (G.back ((i + 1, n * (x.high - x.low + 1))) (Sub.of rfl) (⟨by omega, by rw [hst, if_neg hb], hL2⟩) (by first | omega | (dsimp only; omega)))
 ·
  have : i = (ofKind k vs).length := by omega
  subst this
  rw [List.take_length, hsp] at hs
  refine Gs 15 rfl (G.ret3 Tryz.results194 rfl rfl rfl ⟨_, rfl, ⟨_, by rw [hs]; rfl, fun _ => hsl, (fun (h : (spaceN k vs).isSome = false) => by rw [hs] at h; cases h)⟩, hE⟩)
theorem domSpace_ok (vs : List Vr) (k : Int) (vv : Value) (D : Nat → Prop) (w : World) (hk : 0 ≤ k ∧ k ≤ 3) (hg : ∀ v ∈ vs, Good (v.low, v.high)) (hvs : SlR 5 RVr D w vv vs) (hlen : vs.length ≤ 1000000) : Calls Tryz.prog 153 #[vv, .int .i64 k] w (Ret fun r w' => r = .tuple #[.int .i64 ((spaceN k vs).getD 0), .int .i64 (if (spaceN k vs).isSome then 0 else 4)] ∧ Ext w w') := by
 have hE := Keep.refl (fun _ => False) w
 refine G.in2 Tryz.func153 rfl Tryz.ntmps153 rfl (Gs 10 rfl (G.call rfl Tryz.call194 (chosen_ok vs k vv D w hk hg hvs hlen) ?_))
 rintro _ wz1 ⟨⟨vl, rfl, _, _⟩, hz1⟩
 replace hE := Tr1 hz1 hE
 refine Gs 18 rfl (G.ret2 Tryz.results153 rfl rfl ⟨_, rfl, rfl, hE⟩)
def firstBad (f : Nat → Int) : Nat → Nat → Int
 | _, 0 => 0
 | i, n + 1 => if f i ≠ 0 then f i else firstBad f (i + 1) n
theorem firstBad_skip (f : Nat → Int) : ∀ (k i m : Nat), (∀ j, i ≤ j → j < i + k → f j = 0) → firstBad f i (k + m) = firstBad f (i + k) m
 | 0, i, m, _ => by simp
 | k + 1, i, m, h => by
  rw [show k + 1 + m = (k + m) + 1 by omega, firstBad, if_neg (by simp [h i (Nat.le_refl _) (by omega)]), firstBad_skip f k (i + 1) m (fun j h1 h2 => h j (by omega) (by omega))]
  congr 1; omega
theorem firstBad_at {f : Nat → Int} {i n : Nat} (h : ∀ j, j < i → f j = 0) (hi : i < n) (hb : f i ≠ 0) : firstBad f 0 n = f i := by
 obtain ⟨m, rfl⟩ : ∃ m, n = i + (m + 1) := ⟨n - i - 1, by omega⟩
 rw [firstBad_skip f i 0 (m + 1) (fun j _ h2 => h j (by omega)), Nat.zero_add, firstBad, if_pos hb]
theorem firstBad_zero {f : Nat → Int} {n : Nat} (h : ∀ j, j < n → f j = 0) : firstBad f 0 n = 0 := by
 have := firstBad_skip f n 0 0 (fun j _ h2 => h j (by omega))
 simpa [firstBad] using this
theorem firstBad_inv {f : Nat → Int} : ∀ (n i : Nat), firstBad f i n = 0 → ∀ j, i ≤ j → j < i + n → f j = 0
 | 0, i, _, j, h1, h2 => by omega
 | n + 1, i, h, j, h1, h2 => by
  rw [firstBad] at h
  split at h
  · rename_i h3; exact absurd h h3
  ·
   rename_i h3
   by_cases e : j = i
   · subst e; simpa using h3
   · exact firstBad_inv n (i + 1) h j (by omega) (by omega)
def sameName (a b : ByteArray) : Bool := decide (a.toList = b.toList)
def varCode (prev : List Vr) (v : Vr) : Int :=
 if isNm v.name = false then 7
 else if prev.any (fun u => sameName u.name v.name) = true then 8
 else if ¬ (0 ≤ v.kind ∧ v.kind ≤ 3) then 1
 else if bndB v.low v.high = false then 3
 else if v.kind = 0 ∧ (v.init < v.low ∨ v.high < v.init) ∨ v.kind ≠ 0 ∧ v.init ≠ 0 then 3
 else 0
def varAt (vs : List Vr) (i : Nat) : Int := match vs[i]? with
 | some v => varCode (vs.take i) v
 | none => 0
theorem varAt_eq {vs : List Vr} {i : Nat} {v : Vr} (h : vs[i]? = some v) : varAt vs i = varCode (vs.take i) v := by simp [varAt, h]
def spaceBad (vs : List Vr) : Bool := (spaceN 1 vs).isNone || (spaceN 2 vs).isNone || (match spaceN 3 vs with
 | some n => decide (256 < n)
 | none => true)
def varsCodeN (vs : List Vr) : Int := if firstBad (varAt vs) 0 vs.length ≠ 0 then firstBad (varAt vs) 0 vs.length else if spaceBad vs then 4 else 0
theorem varCode_good {prev : List Vr} {v : Vr} (h : varCode prev v = 0) : Good (v.low, v.high) ∧ 0 ≤ v.kind ∧ v.kind ≤ 3 := by
 unfold varCode at h
 split at h
 · cases h
 split at h
 · cases h
 split at h
 · cases h
 split at h
 · cases h
 ·
  rename_i h1 h2 h3 h4
  have h5 : bndB v.low v.high = true := by simpa using h4
  unfold bndB at h5
  have := of_decide_eq_true h5
  have h3 := Decidable.not_not.1 h3
  exact ⟨⟨this.2.1, this.1, this.2.2⟩, h3.1, h3.2⟩
theorem varsAll_good {vs : List Vr} (h : ∀ j, j < vs.length → varAt vs j = 0) : ∀ v ∈ vs, Good (v.low, v.high) ∧ 0 ≤ v.kind ∧ v.kind ≤ 3 := by
 intro v hv
 obtain ⟨i, hi⟩ := List.mem_iff_getElem?.1 hv
 have := h i (List.getElem?_eq_some_iff.1 hi).1
 rw [varAt_eq hi] at this
 exact varCode_good this
theorem any_take_all {α : Type} {p : α → Bool} {l : List α} {k : Nat} {x : α} (hx : l[k]? = some x) (h : (l.take k).any p = false) (hp : p x = false) : (l.take (k + 1)).any p = false := by rw [take_get hx, List.any_append, h]; simp [hp]
theorem any_at {α : Type} {p : α → Bool} {l : List α} {x : α} (hx : x ∈ l) (hp : p x = true) : l.any p = true := List.any_eq_true.2 ⟨x, hx, hp⟩
theorem indexV_ok (vs : List Vr) (vv : Value) (D : Nat → Prop) (w : World) (hvs : SlR 5 RVr D w vv vs) (p : Vr → Bool) (g : FuncId) (cp : Value) (hf : ∀ args w, (callFunc g args).run Tryz.prog w = .ok (.enter g args) w)
  (hc : ∀ x ∈ vs, ∀ w', Ext w w' → Calls Tryz.prog g #[.agg (encV x).toArray, cp] w' (Ret fun r w'' => r = .bool (p x) ∧ Ext w' w'')) :
  Calls Tryz.prog 193 #[vv, .func (.func g) #[] #[cp]] w (Ret fun r w' => (∃ i : Int, r = .int .i64 i ∧ (0 ≤ i ↔ vs.any p = true)) ∧ Ext w w') := by
 have hmx := hvs.max
 obtain ⟨av, nv, rfl⟩ := hvs.form
 refine G.in2 Tryz.func193 rfl Tryz.ntmps193 rfl (Gs 14 rfl (G.loop (σ := Nat) (fun i => [(0, .slice av vs.length nv), (1, .func (.func g) #[] #[cp]), (7, .int .i64 vs.length), (8, .int .i64 i)]) (fun i => fun w' => i ≤ vs.length ∧ (vs.take i).any p = false ∧ Ext w w') (fun i => vs.length - i) (0) (Sub.of rfl) (⟨Nat.zero_le _, rfl, Keep.refl _ _⟩) ?_))
 rintro i w1 ⟨hi, hno, hL1⟩
 replace hvs := Tr1 hL1 hvs
 refine Gs 6 rfl (G.ite rfl (fun hlt => ?_) (fun hlt => ?_))
 ·
  obtain ⟨x, he_x⟩ : ∃ x, vs[i]? = some x := ⟨_, List.getElem?_eq_getElem (by omega)⟩
  have hm_x := List.mem_of_getElem? he_x
  obtain ⟨b_x, o_x, c_x, ha_x, _, hc_x, hR_x⟩ := hvs.at he_x
  have h1_x := RVr.one hR_x
  obtain rfl := hR_x
  have hlt_x : b_x < _ := World.block_lt_of_cell? _ _ (hc_x 0 _ rfl)
  refine Gs 15 rfl (G.ops1 rfl rfl (R.indexS Tryz.runUnderlying22 Tryz.sizeOf125 rfl rfl ha_x (by omega)) (G.ldK rfl Tryz.isAgg125 Tryz.sizeOf125 hc_x rfl (G.callV rfl hf (hc x hm_x _ hL1) ?_)))
  rintro _ wz1 ⟨rfl, hz1⟩
  obtain ⟨hvs, hL1, hc_x⟩ := Tr3 hz1 hvs hL1 hc_x
  refine Gs 2 rfl (G.bool rfl (fun hp => ?_) (fun hp => ?_))
  · refine Gs 12 rfl (G.ret1 Tryz.results193 rfl ⟨_, rfl, ⟨_, rfl, by rw [any_at hm_x hp]; simp⟩, hL1⟩)
  · refine Ga 7 rfl (by omega) (G.back (i + 1) (Sub.of rfl) (⟨by omega, any_take_all he_x hno hp, hL1⟩) (by first | omega | (dsimp only; omega)))
 ·
  have : i = vs.length := by omega
  subst this
  rw [List.take_length] at hno
  refine Gs 11 rfl (G.ret1 Tryz.results193 rfl ⟨_, rfl, ⟨_, rfl, by rw [hno]; simp⟩, hL1⟩)
theorem containsV_ok (vs : List Vr) (vv : Value) (D : Nat → Prop) (w : World) (hvs : SlR 5 RVr D w vv vs) (p : Vr → Bool) (g : FuncId) (cp : Value) (hf : ∀ args w, (callFunc g args).run Tryz.prog w = .ok (.enter g args) w)
  (hc : ∀ x ∈ vs, ∀ w', Ext w w' → Calls Tryz.prog g #[.agg (encV x).toArray, cp] w' (Ret fun r w'' => r = .bool (p x) ∧ Ext w' w'')) :
  Calls Tryz.prog 151 #[vv, .func (.func g) #[] #[cp]] w (Ret fun r w' => r = .bool (vs.any p) ∧ Ext w w') := by
 have hE := Keep.refl (fun _ => False) w
 refine G.in2 Tryz.func151 rfl Tryz.ntmps151 rfl (Gs 9 rfl (G.call rfl Tryz.call193 (indexV_ok vs vv D w hvs p g cp hf hc) ?_))
 rintro _ wz1 ⟨⟨i, rfl, hi⟩, hz1⟩
 replace hE := Tr1 hz1 hE
 refine Gs 5 rfl (G.ret1 Tryz.results151 rfl ⟨_, rfl, by cases h : vs.any p <;> simp [h] at hi ⊢ <;> omega, hE⟩)
theorem sameV_ok (v x : Vr) (c : Nat) (w : World) (hB : Blk w c (encV x) 125) : Calls Tryz.prog 149 #[.agg (encV v).toArray, .pointer (some ⟨c, 0, none⟩)] w (Ret fun r w' => r = .bool (sameName v.name x.name) ∧ Ext w w') := by
 have hE := Keep.refl (fun _ => False) w
 refine G.in2 Tryz.func149 rfl Tryz.ntmps149 rfl (Gs 2 rfl (G.mem rfl rfl (M.box rfl rfl) ?_))
 rintro _ w_b ⟨b, rfl, hg_b, hs_b, hB_b, hk_b⟩
 have hge_b : _ ≤ b := Nat.le_trans hE.size (Nat.le_of_eq hg_b.symm)
 obtain ⟨hE, hB⟩ := Tr2 hk_b hE hB
 refine Gs 6 rfl (G.ld rfl Tryz.isAgg9 (hB_b.cells 0 _ rfl) (Gs 1 rfl (G.ld rfl Tryz.isAgg9 (hB.cells 0 _ rfl) (Gs 5 rfl (G.ret1 Tryz.results149 rfl ⟨_, rfl, rfl, hE⟩)))))
theorem varsCode_ok (vs : List Vr) (vv : Value) (D : Nat → Prop) (w : World) (hvs : SlR 5 RVr D w vv vs) (hlen : vs.length ≤ 1000000) : Calls Tryz.prog 102 #[vv] w (Ret fun r w' => r = .int .i64 (varsCodeN vs) ∧ Ext w w') := by
 obtain ⟨av, nv, rfl⟩ := hvs.form
 have hlc := hvs.len_cap.2
 refine G.in1 Tryz.func102 rfl Tryz.ntmps102 rfl (Gs 13 rfl (G.cut (σ := Unit) (fun u => [(0, .slice av vs.length nv)]) (fun u => fun w' => (∀ j, j < vs.length → varAt vs j = 0) ∧ Ext w w') ?_ ?_))
 ·
  refine Gs 1 rfl (G.loop (σ := Nat) (fun i => [(0, .slice av vs.length nv), (10, .slice av vs.length nv), (11, .int .i64 vs.length), (12, .int .i64 i)]) (fun i => fun w' => i ≤ vs.length ∧ (∀ j, j < i → varAt vs j = 0) ∧ Ext w w') (fun i => vs.length - i) (0) (Sub.of rfl) (⟨Nat.zero_le _, fun j h => absurd h (Nat.not_lt_zero _), Keep.refl _ _⟩) ?_)
  rintro i w1 ⟨hi, hall, hL1⟩
  replace hvs := Tr1 hL1 hvs
  refine Gs 6 rfl (G.ite rfl (fun hlt => ?_) (fun hlt => ?_))
  ·
   obtain ⟨x, he_x⟩ : ∃ x, vs[i]? = some x := ⟨_, List.getElem?_eq_getElem (by omega)⟩
   have hm_x := List.mem_of_getElem? he_x
   obtain ⟨b_x, o_x, c_x, ha_x, _, hc_x, hR_x⟩ := hvs.at he_x
   have h1_x := RVr.one hR_x
   obtain rfl := hR_x
   have hlt_x : b_x < _ := World.block_lt_of_cell? _ _ (hc_x 0 _ rfl)
   have hat := varAt_eq he_x
   have hbad : ∀ c : Int, varCode (vs.take i) x = c → c ≠ 0 → varsCodeN vs = c := by
    intro c h1 h2
    have h3 : varAt vs i ≠ 0 := by rw [hat, h1]; exact h2
    rw [varsCodeN, firstBad_at hall (by omega) h3, if_pos h3, hat, h1]
   have hnext : varCode (vs.take i) x = 0 → ∀ j, j < i + 1 → varAt vs j = 0 := by
    intro h j hj
    by_cases e : j = i
    · subst e; rw [hat, h]
    · exact hall j (by omega)
   refine Gs 7 rfl (G.ops1 rfl rfl (R.indexS Tryz.runUnderlying22 Tryz.sizeOf125 rfl rfl ha_x (by omega)) (G.ldK rfl Tryz.isAgg125 Tryz.sizeOf125 hc_x rfl (G.mem rfl rfl (M.alloc (cs := _) Tryz.zeroValue125 rfl) ?_)))
   rintro _ wa1 ⟨c, rfl, hg_c, hs_c, hB_c, hk_c⟩
   refine Gs 1 rfl (G.mem0 rfl (M.storeK Tryz.sizeOf125 rfl rfl rfl rfl h1_x hB_c (by simp)) ?_)
   rintro w_c ⟨_, hB_c, hkk_c⟩
   replace hk_c := hk_c.trans hkk_c (fun q hq h => by have h : q = c := h; omega)
   obtain ⟨hvs, hL1, hc_x⟩ := Tr3 hk_c hvs hL1 hc_x
   refine Gs 12 rfl (G.ld rfl Tryz.isAgg9 (hB_c.cells 0 _ rfl) (G.call rfl Tryz.call150 (flatIsName_ok x.name _) ?_))
   rintro _ wz2 ⟨rfl, hz2⟩
   obtain ⟨hvs, hL1, hc_x, hB_c⟩ := Tr4 hz2 hvs hL1 hc_x hB_c
   refine G.ops1 rfl rfl (R.notU rfl (by first | exact not_decide_eq | rfl)) (Gs 3 rfl (G.bool rfl (fun n0 => ?_) (fun n0 => ?_)))
   ·
    have n0' : isNm x.name = false := by simpa using n0
    refine Gs 13 rfl (G.ret1 Tryz.results102 rfl ⟨_, rfl, by rw [hbad 7 (by rw [varCode, if_pos n0']) (by decide)], hL1⟩)
   ·
    have n0' : ¬ isNm x.name = false := by simpa using n0
    refine Gs 4 rfl (G.ops1 rfl rfl (R.cutHi Tryz.runUnderlying22 Tryz.sizeOf125 rfl rfl (by omega)) (Gs 1 rfl ?_))
    have htk := hvs.take i (by omega)
    have hBx : Blk _ c (encV x) 125 := hB_c
    refine G.call rfl Tryz.call151 (containsV_ok (vs.take i) _ D _ htk (fun u => sameName u.name x.name) 149 (.pointer (some ⟨c, 0, none⟩)) Tryz.call149 (fun y _ w' hw' => sameV_ok y x c w' (hw'.blk hBx (fun h => h)))) ?_
    rintro _ wz3 ⟨rfl, hz3⟩
    obtain ⟨hvs, hL1, hc_x, hB_c⟩ := Tr4 hz3 hvs hL1 hc_x hB_c
    refine Gs 3 rfl (G.bool rfl (fun d0 => ?_) (fun d0 => ?_))
    · refine Gs 13 rfl (G.ret1 Tryz.results102 rfl ⟨_, rfl, by rw [hbad 8 (by rw [varCode, if_neg n0', if_pos d0]) (by decide)], hL1⟩)
    ·
     have n1 : ¬ (vs.take i).any (fun u => sameName u.name x.name) = true := by rw [d0]; decide
     refine Gs 3 rfl (G.ld rfl Tryz.isAgg121 (hB_c.cells 1 _ rfl) (Gs 2 rfl (G.sp 33 rfl (fun k0 => ?_) (fun k0 => ?_))))
     ·
      have n2 : ¬ (0 ≤ x.kind ∧ x.kind ≤ 3) := by omega
      refine Gs 21 rfl (G.ret1 Tryz.results102 rfl ⟨_, rfl, by rw [hbad 1 (by rw [varCode, if_neg n0', if_neg n1, if_pos n2]) (by decide)], hL1⟩)
     ·
      refine Gs 1 rfl (G.ld rfl Tryz.isAgg121 (hB_c.cells 1 _ rfl) (Gs 5 rfl (G.ite rfl (fun k1 => ?_) (fun k1 => ?_))))
      ·
       have n2 : ¬ (0 ≤ x.kind ∧ x.kind ≤ 3) := by omega
       refine Gs 13 rfl (G.ret1 Tryz.results102 rfl ⟨_, rfl, by rw [hbad 1 (by rw [varCode, if_neg n0', if_neg n1, if_pos n2]) (by decide)], hL1⟩)
      ·
       have n2 : ¬ ¬ (0 ≤ x.kind ∧ x.kind ≤ 3) := by omega
       refine Gs 4 rfl (G.ld rfl Tryz.isAgg3 (hB_c.cells 2 _ rfl) (Gs 1 rfl (G.ld rfl Tryz.isAgg3 (hB_c.cells 3 _ rfl) (G.call rfl Tryz.call152 (flatBounded_ok x.low x.high _) ?_))))
       rintro _ wz4 ⟨rfl, hz4⟩
       obtain ⟨hvs, hL1, hc_x, hB_c⟩ := Tr4 hz4 hvs hL1 hc_x hB_c
       refine G.ops1 rfl rfl (R.notU rfl (by first | exact not_decide_eq | rfl)) (Gs 3 rfl (G.bool rfl (fun n3 => ?_) (fun n3 => ?_)))
       ·
        have n3' : bndB x.low x.high = false := by simpa using n3
        refine Gs 16 rfl (G.ret1 Tryz.results102 rfl ⟨_, rfl, by rw [hbad 3 (by rw [varCode, if_neg n0', if_neg n1, if_neg n2, if_pos n3']) (by decide)], hL1⟩)
       ·
        have n3' : ¬ bndB x.low x.high = false := by simpa using n3
        have b4 : x.kind = 0 ∧ (x.init < x.low ∨ x.high < x.init) ∨ x.kind ≠ 0 ∧ x.init ≠ 0 → varsCodeN vs = 3 := fun h => hbad 3 (by rw [varCode, if_neg n0', if_neg n1, if_neg n2, if_neg n3', if_pos h]) (by decide)
        have g4 : ¬ (x.kind = 0 ∧ (x.init < x.low ∨ x.high < x.init) ∨ x.kind ≠ 0 ∧ x.init ≠ 0) → varCode (vs.take i) x = 0 := fun h => by rw [varCode, if_neg n0', if_neg n1, if_neg n2, if_neg n3', if_neg h]
        refine Gs 3 rfl (G.ld rfl Tryz.isAgg121 (hB_c.cells 1 _ rfl) (Gs 2 rfl (G.sp 48 rfl (fun kk => ?_) (fun kk => ?_))))
        ·
         refine Gs 1 rfl (G.ld rfl Tryz.isAgg3 (hB_c.cells 4 _ rfl) (Gs 5 rfl (G.ite rfl (fun i2 => ?_) (fun i2 => ?_))))
         · refine Gs 16 rfl (G.ret1 Tryz.results102 rfl ⟨_, rfl, by rw [b4 (by omega)], hL1⟩)
         ·
          refine Gs 2 rfl (G.ld rfl Tryz.isAgg121 (hB_c.cells 1 _ rfl) (Gs 2 rfl (G.sp 56 rfl (fun k0' => ?_) (fun k0' => ?_))))
          · exact absurd k0' kk
          · refine Ga 25 rfl (by omega) (G.back (i + 1) (Sub.of rfl) (⟨by omega, hnext (g4 (by omega)), hL1⟩) (by first | omega | (dsimp only; omega)))
        ·
         refine Gs 10 rfl (G.ld rfl Tryz.isAgg121 (hB_c.cells 1 _ rfl) (Gs 2 rfl (G.sp 56 rfl (fun k0' => ?_) (fun k0' => ?_))))
         ·
          refine Gs 1 rfl (G.ld rfl Tryz.isAgg3 (hB_c.cells 4 _ rfl) (Gs 1 rfl (G.ld rfl Tryz.isAgg3 (hB_c.cells 2 _ rfl) (Gs 2 rfl (G.sp 62 rfl (fun i0 => ?_) (fun i0 => ?_))))))
          · refine Gs 24 rfl (G.ret1 Tryz.results102 rfl ⟨_, rfl, by rw [b4 (by omega)], hL1⟩)
          ·
           refine Gs 1 rfl (G.ld rfl Tryz.isAgg3 (hB_c.cells 4 _ rfl) (Gs 1 rfl (G.ld rfl Tryz.isAgg3 (hB_c.cells 3 _ rfl) (Gs 6 rfl (G.ite rfl (fun i1 => ?_) (fun i1 => ?_))))))
           · refine Gs 13 rfl (G.ret1 Tryz.results102 rfl ⟨_, rfl, by rw [b4 (by omega)], hL1⟩)
           · refine Ga 8 rfl (by omega) (G.back (i + 1) (Sub.of rfl) (⟨by omega, hnext (g4 (by omega)), hL1⟩) (by first | omega | (dsimp only; omega)))
         · exact absurd k0' kk
  ·
   have hii : i = vs.length := by omega
   subst hii
   refine Gs 4 rfl (G.meet (()) (Sub.of rfl) (⟨hall, hL1⟩))
 rintro u w2 ⟨hall, hX⟩
 replace hvs := Tr1 hX hvs
 have hg := varsAll_good hall
 have hz := firstBad_zero hall
 have hgo : ∀ v ∈ vs, Good (v.low, v.high) := fun v hv => (hg v hv).1
 have hv : varsCodeN vs = if spaceBad vs then 4 else 0 := by rw [varsCodeN, if_neg (by simp [hz])]
 refine Gs 4 rfl (G.mem rfl rfl (M.buildSlice (cs := [.int .i64 1, .int .i64 2, .int .i64 3]) [(0, _), (1, _), (2, _)] Tryz.runUnderlying210 Tryz.sizeOf121 Tryz.zeroValue121 (by decide) rfl (by kernel_rfl)) ?_)
 rintro _ w3 ⟨b3, rfl, hg_b3, hs_b3, hB_b3, hk_b3⟩
 obtain ⟨hvs, hX⟩ := Tr2 hk_b3 hvs hX
 have hBe : Blk w3 b3 (((List.range 3).map (fun (j : Nat) => (j : Int) + 1)).map (.int .i64)) 121 := hB_b3
 refine Gs 5 rfl (G.loop (σ := Nat) (fun k => [(0, .slice av vs.length nv), (71, .slice (some ⟨b3, 0, none⟩) 3 3), (72, .int .i64 3), (73, .int .i64 k)]) (fun k => fun w' => k ≤ 3 ∧ (∀ j, j < k → ∃ n, spaceN ((j : Int) + 1) vs = some n ∧ (j = 2 → n ≤ 256)) ∧ Ext w3 w') (fun k => 3 - k) (0) (Sub.of rfl) (⟨Nat.zero_le _, fun j h => absurd h (Nat.not_lt_zero _), Keep.refl _ _⟩) ?_)
 rintro k w4 ⟨hk, hall2, hL2⟩
 obtain ⟨hvs, hX, hB_b3, hBe⟩ := Tr4 hL2 hvs hX hB_b3 hBe
 refine Gs 6 rfl (G.ite rfl (fun hlt => ?_) (fun hlt => ?_))
 ·
  have hkx : ((List.range 3).map (fun (j : Nat) => (j : Int) + 1))[k]? = some ((k : Int) + 1) := by
   rw [List.getElem?_map, List.getElem?_range (by omega)]; rfl
  have hbadk : (spaceN ((k : Int) + 1) vs = none ∨ ∃ n, spaceN ((k : Int) + 1) vs = some n ∧ k = 2 ∧ 256 < n) → varsCodeN vs = 4 := by
   intro h
   rw [hv]
   have : spaceBad vs = true := by
    unfold spaceBad
    rcases (show k = 0 ∨ k = 1 ∨ k = 2 by omega) with rfl | rfl | rfl
    ·
     rcases h with h | ⟨n, h, h2, _⟩
     · simp at h; simp [h]
     · omega
    ·
     rcases h with h | ⟨n, h, h2, _⟩
     · simp at h; simp [h]
     · omega
    ·
     rcases h with h | ⟨n, h, _, h3⟩
     · simp at h; simp [h]
     · simp at h; simp [h, h3]
   rw [this]; rfl
  refine Ga 7 rfl (by omega) (G.ld rfl Tryz.isAgg121 (hBe.cells.el1 k rfl (by rw [List.getElem?_map, hkx]; rfl)) ?_)
  refine Gs 7 rfl (G.call rfl Tryz.call153 (domSpace_ok vs ((k : Int) + 1) _ D _ (by omega) hgo hvs hlen) ?_)
  rintro _ wz5 ⟨rfl, hz5⟩
  obtain ⟨hvs, hX, hB_b3, hBe, hL2⟩ := Tr5 hz5 hvs hX hB_b3 hBe hL2
  refine Gs 12 rfl ?_
  have hstep : (∃ n, spaceN ((k : Int) + 1) vs = some n ∧ (k = 2 → n ≤ 256)) → ∀ j, j < k + 1 → ∃ n, spaceN ((j : Int) + 1) vs = some n ∧ (j = 2 → n ≤ 256) := by
   intro h j hj
   by_cases e : j = k
   · subst e; exact h
   · exact hall2 j (by omega)
  rcases hs : spaceN ((k : Int) + 1) vs with _ | n
  ·
   refine G.sp 85 rfl (fun c0 => ?_) (fun c0 => ?_)
   · refine Gs 21 rfl (G.ret1 Tryz.results102 rfl ⟨_, rfl, by rw [hbadk (.inl hs)], hX⟩)
   · exact absurd (by decide) c0
  ·
   refine G.sp 85 rfl (fun c0 => ?_) (fun c0 => ?_)
   · exact absurd c0 (by simp)
   ·
    refine Gs 3 rfl (G.sp 88 rfl (fun k3 => ?_) (fun k3 => ?_))
    ·
     refine Gs 6 rfl (G.ite rfl (fun n3 => ?_) (fun n3 => ?_))
     ·
      have n3' : (256 : Int) < n := n3
      refine Gs 11 rfl (G.ret1 Tryz.results102 rfl ⟨_, rfl, by rw [hbadk (.inr ⟨n, hs, by omega, n3'⟩)], hX⟩)
     ·
      have n3' : ¬ (256 : Int) < n := n3
      refine Ga 7 rfl (by omega) (G.back (k + 1) (Sub.of rfl) (⟨by omega, hstep ⟨n, hs, fun _ => by omega⟩, hL2⟩) (by first | omega | (dsimp only; omega)))
    · refine Ga 14 rfl (by omega) (G.back (k + 1) (Sub.of rfl) (⟨by omega, hstep ⟨n, hs, fun h => absurd (by omega) k3⟩, hL2⟩) (by first | omega | (dsimp only; omega)))
 ·
  have hk3 : k = 3 := by omega
  subst hk3
  obtain ⟨n1, h1, _⟩ := hall2 0 (by omega)
  obtain ⟨n2, h2, _⟩ := hall2 1 (by omega)
  obtain ⟨n3, h3, h4⟩ := hall2 2 (by omega)
  have hsb : spaceBad vs = false := by
   simp at h1 h2 h3
   unfold spaceBad
   simp [h1, h2, h3]
   exact h4 rfl
  rw [hsb] at hv
  refine Gs 11 rfl (G.ret1 Tryz.results102 rfl ⟨_, rfl, by rw [hv]; rfl, hX⟩)
def plainB (t : Tm) : Bool := decide (t.op = 0) && decide (t.n = 0) && decide (t.kids.length = 0)
theorem flatZero_ok (t : Tm) (cs : List Value) (D : Nat → Prop) (w : World) (ht : RTm D w t cs) : Calls Tryz.prog 201 #[.agg cs.toArray] w (Ret fun r w' => r = .bool (plainB t) ∧ Ext w w') := by
 obtain ⟨v, rfl, hk⟩ := ht.get
 obtain ⟨ao, cap, rfl⟩ := hk.form
 have hE := Keep.refl (fun _ => False) w
 refine G.in1 Tryz.func201 rfl Tryz.ntmps201 rfl (Gs 2 rfl (G.mem rfl rfl (M.box rfl rfl) ?_))
 rintro _ w_b ⟨b, rfl, hg_b, hs_b, hB_b, hk_b⟩
 have hge_b : _ ≤ b := Nat.le_trans hE.size (Nat.le_of_eq hg_b.symm)
 replace hE := Tr1 hk_b hE
 refine Gs 6 rfl (G.ld rfl Tryz.isAgg81 (hB_b.cells 0 _ rfl) (Gs 2 rfl (G.sp 6 rfl (fun hh1 => ?_) (fun hh1 => ?_))))
 ·
  refine Gs 1 rfl (G.ld rfl Tryz.isAgg3 (hB_b.cells 1 _ rfl) (Gs 3 rfl (G.sp 11 rfl (fun hh2 => ?_) (fun hh2 => ?_))))
  · refine Gs 1 rfl (G.ld rfl Tryz.isAgg82 (hB_b.cells 2 _ rfl) (Gs 7 rfl (G.ret1 Tryz.results201 rfl ⟨_, rfl, by simp [plainB, *], hE⟩)))
  · refine Gs 9 rfl (G.ret1 Tryz.results201 rfl ⟨_, rfl, by simp [plainB, *], hE⟩)
 · refine Gs 14 rfl (G.ret1 Tryz.results201 rfl ⟨_, rfl, by simp [plainB, *], hE⟩)
@[irreducible] def uvB (a : Int) : Bool := decide (a = 0 ∨ a = 5)
@[irreducible] def unB (a : Int) : Bool := decide (a = 4 ∨ a = 5)
@[irreducible] def utB (a : Int) : Bool := decide (a = 0 ∨ a = 1 ∨ a = 3 ∨ a = 4)
theorem usesVar_ok (a : Int) (w : World) : Calls Tryz.prog 198 #[.int .i64 a] w (Ret fun r w' => r = .bool (uvB a) ∧ Ext w w') := by
 refine G.in1 Tryz.func198 rfl Tryz.ntmps198 rfl (Gs 10 rfl (G.sp 5 rfl (fun hh1 => ?_) (fun hh1 => ?_)))
 · refine Gs 7 rfl (G.ret1 Tryz.results198 rfl ⟨_, rfl, by unfold uvB; simp [*], Keep.refl _ _⟩)
 · refine Gs 7 rfl (G.ret1 Tryz.results198 rfl ⟨_, rfl, by unfold uvB; simp [*], Keep.refl _ _⟩)
theorem usesN_ok (a : Int) (w : World) : Calls Tryz.prog 199 #[.int .i64 a] w (Ret fun r w' => r = .bool (unB a) ∧ Ext w w') := by
 refine G.in1 Tryz.func199 rfl Tryz.ntmps199 rfl (Gs 10 rfl (G.sp 5 rfl (fun hh1 => ?_) (fun hh1 => ?_)))
 · refine Gs 7 rfl (G.ret1 Tryz.results199 rfl ⟨_, rfl, by unfold unB; simp [*], Keep.refl _ _⟩)
 · refine Gs 7 rfl (G.ret1 Tryz.results199 rfl ⟨_, rfl, by unfold unB; simp [*], Keep.refl _ _⟩)
theorem usesTerm_ok (a : Int) (w : World) : Calls Tryz.prog 200 #[.int .i64 a] w (Ret fun r w' => r = .bool (utB a) ∧ Ext w w') := by
 refine G.in1 Tryz.func200 rfl Tryz.ntmps200 rfl (Gs 10 rfl (G.sp 5 rfl (fun hh1 => ?_) (fun hh1 => ?_)))
 · refine Gs 15 rfl (G.ret1 Tryz.results200 rfl ⟨_, rfl, by unfold utB; simp [*], Keep.refl _ _⟩)
 ·
  refine Gs 4 rfl (G.sp 9 rfl (fun hh2 => ?_) (fun hh2 => ?_))
  · refine Gs 11 rfl (G.ret1 Tryz.results200 rfl ⟨_, rfl, by unfold utB; simp [*], Keep.refl _ _⟩)
  ·
   refine Gs 4 rfl (G.sp 13 rfl (fun hh3 => ?_) (fun hh3 => ?_))
   · refine Gs 7 rfl (G.ret1 Tryz.results200 rfl ⟨_, rfl, by unfold utB; simp [*], Keep.refl _ _⟩)
   · refine Gs 7 rfl (G.ret1 Tryz.results200 rfl ⟨_, rfl, by unfold utB; simp [*], Keep.refl _ _⟩)
def risingB : List Int → Bool
 | x :: y :: r => decide (x < y) && risingB (y :: r)
 | _ => true
theorem risingB_iff : ∀ l : List Int, risingB l = true ↔ ∀ i x y, l[i]? = some x → l[i + 1]? = some y → x < y
 | [] => by simp [risingB]
 | [a] => by simp [risingB]
 | a :: b :: r => by
  simp only [risingB, Bool.and_eq_true, decide_eq_true_eq, risingB_iff (b :: r)]
  constructor
  ·
   rintro ⟨h1, h2⟩ i x y hx hy
   cases i with
   | zero => simp at hx hy; subst hx; subst hy; exact h1
   | succ i => exact h2 i x y (by simpa using hx) (by simpa using hy)
  ·
   intro h
   exact ⟨h 0 a b rfl rfl, fun i x y hx hy => h (i + 1) x y (by simpa using hx) (by simpa using hy)⟩
theorem flatRising_ok (l : List Int) (v : Value) (D : Nat → Prop) (w : World) (hl : SlR 1 RInt D w v l) : Calls Tryz.prog 202 #[v] w (Ret fun r w' => r = .bool (risingB l) ∧ Ext w w') := by
 have hmx := hl.max
 obtain ⟨al, nl, rfl⟩ := hl.form
 refine G.in1 Tryz.func202 rfl Tryz.ntmps202 rfl (Gs 14 rfl (G.loop (σ := Nat) (fun i => [(0, .slice al l.length nl), (5, .int .i64 l.length), (6, .int .i64 i)]) (fun i => fun w' => i ≤ l.length ∧ (∀ j x y, j + 1 < i → l[j]? = some x → l[j + 1]? = some y → x < y) ∧ Ext w w') (fun i => l.length - i) (0) (Sub.of rfl) (⟨Nat.zero_le _, fun j x y h => absurd h (Nat.not_lt_zero _), Keep.refl _ _⟩) ?_))
 rintro i w1 ⟨hi, hall, hL1⟩
 replace hl := Tr1 hL1 hl
 refine Gs 6 rfl (G.ite rfl (fun hlt => ?_) (fun hlt => ?_))
 ·
  refine Gs 11 rfl (Qt (by kernel_rfl) (Gs 3 rfl (G.sp 11 rfl (fun h0 => ?_) (fun h0 => ?_))))
  ·
   obtain ⟨k, rfl⟩ : ∃ k, i = k + 1 := ⟨i - 1, by omega⟩
   obtain ⟨x, hx⟩ : ∃ x, l[k]? = some x := ⟨_, List.getElem?_eq_getElem (by omega)⟩
   obtain ⟨y, hy⟩ : ∃ y, l[k + 1]? = some y := ⟨_, List.getElem?_eq_getElem (by omega)⟩
   obtain ⟨b_ey, o_ey, c_ey, ha_ey, _, hc_ey, hR_ey⟩ := hl.at (hy)
   obtain rfl := hR_ey
   have hlt_ey : b_ey < _ := World.block_lt_of_cell? _ _ (hc_ey 0 _ rfl)
   obtain ⟨b_x, o_x, c_x, ha_x, _, hc_x, hR_x⟩ := hl.at hx
   obtain rfl := hR_x
   have hto : (((k + 1 : Nat) : Int) - 1).toNat = k := by omega
   refine Gs 2 rfl (G.opQ rfl rfl (fun w1 hw1 => R.indexS Tryz.runUnderlying50 Tryz.sizeOf3 rfl rfl ha_ey (by omega)) (G.ldQ rfl Tryz.isAgg3 (fun w1 hw1 => ((hw1.cells hc_ey (fun h => h)) 0 _ rfl)) (Ga 3 rfl (by omega) (G.opQ rfl rfl (fun w1 hw1 => R.indexS Tryz.runUnderlying50 Tryz.sizeOf3 rfl rfl ha_x (by omega)) (G.ldQ rfl Tryz.isAgg3 (fun w1 hw1 => (by rw [hto]; exact (hw1.cells hc_x (fun h => h)) 0 _ rfl)) (Gs 2 rfl (G.nilQ (fun wz1 hz1 => ?_))))))))
   obtain ⟨hl, hL1, hc_ey⟩ := Tr3 hz1 hl hL1 hc_ey
   refine Gs 1 rfl (G.ite rfl (fun hb => ?_) (fun hb => ?_))
   ·
    refine Gs 11 rfl ?_
    have hno : risingB l = false := by rw [Bool.eq_false_iff]; intro h; have := (risingB_iff l).1 h k x y hx hy; omega
    refine G.ret1 Tryz.results202 rfl ⟨_, rfl, by rw [hno], hL1⟩
   ·
    refine Ga 7 rfl (by omega) (G.back (k + 1 + 1) (Sub.of rfl) (⟨by omega, ?_, hL1⟩) (by first | omega | (dsimp only; omega)))
    intro j x' y' hj hx' hy'
    by_cases e : j = k
    ·
     subst e
     rw [hx] at hx'; cases hx'
     rw [hy] at hy'; cases hy'
     omega
    · exact hall j x' y' (by omega) hx' hy'
  ·
   have hi0 : i = 0 := by omega
   subst hi0
   refine Gs 11 rfl (G.nilQ (fun wz2 hz2 => ?_))
   obtain ⟨hl, hL1⟩ := Tr2 hz2 hl hL1
   refine Ga 9 rfl (by omega) (G.back (1) (Sub.of rfl) (⟨by omega, fun j x y h => by omega, hL1⟩) (by first | omega | (dsimp only; omega)))
 ·
  refine Gs 11 rfl ?_
  have hyes : risingB l = true := (risingB_iff l).2 (fun j x y hx hy => hall j x y (by have := (List.getElem?_eq_some_iff.1 hy).1; omega) hx hy)
  refine G.ret1 Tryz.results202 rfl ⟨_, rfl, by rw [hyes], hL1⟩
def groupsB (l : List Int) : Bool := decide (1 ≤ l.length) && decide (l.length ≤ 32) && decide ((0 : Int) ≤ l[0]?.getD 0) && risingB l
def freeB (s : St) : Bool := decide ((s.thn.length : Int) = 0) && decide ((s.els.length : Int) = 0)
def localB (vs : List Vr) (n : Int) : Bool := decide (0 ≤ n) && decide (n < (vs.length : Int)) && isLocal vs n
def shapedB (vs : List Vr) (nh : Nat) (s : St) (last : Bool) : Bool :=
 if s.act = 0 then freeB s && localB vs s.var && decide (s.n = 0) && decide ((s.bounds.length : Int) = 0)
 else if s.act = 1 then freeB s && decide (s.var = 0) && decide (s.n = 0) && decide ((s.bounds.length : Int) = 0)
 else if s.act = 2 then freeB s && decide (s.var = 0) && decide (s.n = 0) && decide ((s.bounds.length : Int) = 0) && plainB s.term
 else if s.act = 3 then decide (s.var = 0) && decide (s.n = 0) && decide ((s.bounds.length : Int) = 0)
 else if s.act = 4 then decide (s.var = 0) && decide ((s.els.length : Int) = 0) && decide ((s.bounds.length : Int) = 0)
 else if s.act = 5 then freeB s && localB vs s.var && decide (0 ≤ s.n) && decide (s.n < (nh : Int)) && decide ((s.bounds.length : Int) = 0) && plainB s.term
 else if s.act = 6 then freeB s && last && decide (s.var = 0) && decide (s.n = 0) && plainB s.term && groupsB s.bounds
 else false
theorem shapedB_iff (vs : List Vr) (nh : Nat) (s : St) (last : Bool) : shapedB vs nh s last = (!(decide (s.act < 0) || decide (6 < s.act)) && !(!uvB s.act && decide (s.var ≠ 0)) && !(!unB s.act && decide (s.n ≠ 0)) && !(!utB s.act && !plainB s.term)
  && !(decide (s.act ≠ 3) && decide (s.act ≠ 4) && decide (0 < (s.thn.length : Int))) && !(decide (s.act ≠ 3) && decide (0 < (s.els.length : Int))) && !(decide (s.act ≠ 6) && decide (0 < (s.bounds.length : Int)))
  && !(uvB s.act && !localB vs s.var) && !(decide (s.act = 5) && (decide (s.n < 0) || decide ((nh : Int) ≤ s.n)))
  && (decide (s.act ≠ 6) || (last && groupsB s.bounds))) := by
 have c0 : ∀ n : Nat, decide ((n : Int) = 0) = !decide (0 < (n : Int)) := by intro n; rw [not_decide_eq]; congr 1; simp
 have c1 : decide (s.var = 0) = !decide (s.var ≠ 0) := by rw [not_decide_eq]; congr 1; simp
 have c2 : decide (s.n = 0) = !decide (s.n ≠ 0) := by rw [not_decide_eq]; congr 1; simp
 have c3 : decide (0 ≤ s.n) = !decide (s.n < 0) := by rw [not_decide_eq]; congr 1; simp
 have c4 : decide (s.n < (nh : Int)) = !decide ((nh : Int) ≤ s.n) := by rw [not_decide_eq]; congr 1; simp
 unfold shapedB freeB uvB unB utB
 simp only [c0, c1, c2, c3, c4]
 generalize decide (0 < (s.thn.length : Int)) = p1
 generalize decide (0 < (s.els.length : Int)) = p2
 generalize decide (0 < (s.bounds.length : Int)) = p3
 generalize decide (s.var ≠ 0) = p4
 generalize decide (s.n ≠ 0) = p5
 generalize decide (s.n < 0) = p6
 generalize decide ((nh : Int) ≤ s.n) = p7
 generalize plainB s.term = p8
 generalize localB vs s.var = p9
 generalize groupsB s.bounds = p10
 rcases (show s.act < 0 ∨ s.act = 0 ∨ s.act = 1 ∨ s.act = 2 ∨ s.act = 3 ∨ s.act = 4 ∨ s.act = 5 ∨ s.act = 6 ∨ 6 < s.act by omega) with h | h | h | h | h | h | h | h | h
 · rw [if_neg (by omega), if_neg (by omega), if_neg (by omega), if_neg (by omega), if_neg (by omega), if_neg (by omega), if_neg (by omega), decide_eq_true h]; rfl
 · rw [h]; revert p1 p2 p3 p4 p5 p6 p7 p8 p9 p10 last; decide
 · rw [h]; revert p1 p2 p3 p4 p5 p6 p7 p8 p9 p10 last; decide
 · rw [h]; revert p1 p2 p3 p4 p5 p6 p7 p8 p9 p10 last; decide
 · rw [h]; revert p1 p2 p3 p4 p5 p6 p7 p8 p9 p10 last; decide
 · rw [h]; revert p1 p2 p3 p4 p5 p6 p7 p8 p9 p10 last; decide
 · rw [h]; revert p1 p2 p3 p4 p5 p6 p7 p8 p9 p10 last; decide
 · rw [h]; revert p1 p2 p3 p4 p5 p6 p7 p8 p9 p10 last; decide
 · rw [if_neg (by omega), if_neg (by omega), if_neg (by omega), if_neg (by omega), if_neg (by omega), if_neg (by omega), if_neg (by omega), decide_eq_true h]; simp
theorem flatShaped_ok (f : Fl) (s : St) (last : Bool) (v1 v2 v3 : Value) (cs : List Value) (D D' : Nat → Prop) (w : World) (hf : RFl D w f v1 v2 v3) (hs : RSt D' w s cs) : Calls Tryz.prog 157 #[.agg #[v1, v2, v3], .agg cs.toArray, .bool last] w (Ret fun r w' => r = .bool (shapedB f.vars f.hatches.length s last) ∧ Ext w w') := by
 obtain ⟨hvs, hhs, hbd⟩ := hf
 obtain ⟨a1, n1, rfl⟩ := hvs.form
 obtain ⟨a2, n2, rfl⟩ := hhs.form
 obtain ⟨u1, u2, u3, u4, rfl, hk, ht, he, hb⟩ := hs.get
 obtain ⟨a4, n4, rfl⟩ := hk.form
 obtain ⟨a5, n5, rfl⟩ := ht.form
 obtain ⟨a6, n6, rfl⟩ := he.form
 obtain ⟨a7, n7, rfl⟩ := hb.form
 rw [shapedB_iff]
 have hE := Keep.refl (fun _ => False) w
 refine G.in3 Tryz.func157 rfl Tryz.ntmps157 rfl (Gs 2 rfl (G.mem rfl rfl (M.box rfl rfl) ?_))
 rintro _ w_b ⟨b, rfl, hg_b, hs_b, hB_b, hk_b⟩
 have hge_b : _ ≤ b := Nat.le_trans hE.size (Nat.le_of_eq hg_b.symm)
 obtain ⟨hE, hvs, hk, hb⟩ := Tr4 hk_b hE hvs hk hb
 refine G.mem rfl rfl (M.box rfl rfl) ?_
 rintro _ w_c ⟨c, rfl, hg_c, hs_c, hB_c, hk_c⟩
 have hn_b_c : b ≠ c := by have := hB_b.lt; omega
 have hge_c : _ ≤ c := Nat.le_trans hE.size (Nat.le_of_eq hg_c.symm)
 obtain ⟨hE, hvs, hk, hb, hB_b⟩ := Tr5 hk_c hE hvs hk hb hB_b
 refine Gs 6 rfl (G.ld rfl Tryz.isAgg80 (hB_c.cells 0 _ rfl) (Gs 7 rfl ?_))
 have hC2 := Keep.refl (fun _ => False) w_c
 refine G.cut (σ := Bool) (fun q => [(2, .bool last), (3, .pointer (some ⟨b, 0, none⟩)), (4, .pointer (some ⟨c, 0, none⟩)), (7, .int .i64 s.act), (10, .bool q)]) (fun q => fun w' => q = (decide (s.act < 0) || decide (6 < s.act)) ∧ Ext w_c w') ?_ ?_
 ·
  refine Gs 4 rfl (G.sp 13 rfl (fun hh1 => ?_) (fun hh1 => ?_))
  ·
   refine Gs 5 rfl ?_
   refine G.meet (_) (Sub.cons rfl (Sub.cons rfl (Sub.cons rfl (Sub.cons rfl (Sub.cons (by first | rfl | (show some (Value.bool true) = some (Value.bool _); simp [*])) Sub.nil))))) (⟨by first | (simp only [hh1, decide_true, Bool.true_or]; done) | (exfalso; omega), hC2⟩)
  ·
   refine Gs 5 rfl ?_
   refine G.meet (_) (Sub.of rfl) (⟨by first | (simp only [hh1, decide_false, Bool.false_or]; done) | (exfalso; omega), hC2⟩)
 rintro q x2 ⟨hq2, hX2⟩
 subst hq2
 obtain ⟨hE, hvs, hk, hb, hB_b, hB_c⟩ := Tr6 hX2 hE hvs hk hb hB_b hB_c
 refine Gs 1 rfl (G.bool rfl (fun hh102 => ?_) (fun hh102 => ?_))
 · refine Gs 11 rfl (G.ret1 Tryz.results157 rfl ⟨_, rfl, by simp only [hh102, Bool.not_true, Bool.false_and], hE⟩)
 ·
  refine Gs 1 rfl ?_
  have hC3 := Keep.refl (fun _ => False) x2
  refine G.cut (σ := Bool) (fun q => [(2, .bool last), (3, .pointer (some ⟨b, 0, none⟩)), (4, .pointer (some ⟨c, 0, none⟩)), (7, .int .i64 s.act), (10, .bool q)]) (fun q => fun w' => q = (!uvB s.act && decide (s.var ≠ 0)) ∧ Ext x2 w') ?_ ?_
  ·
   refine Gs 2 rfl (G.call rfl Tryz.call198 (usesVar_ok s.act _) ?_)
   rintro _ wz2 ⟨rfl, hz2⟩
   obtain ⟨hE, hvs, hk, hb, hB_b, hB_c, hC3⟩ := Tr7 hz2 hE hvs hk hb hB_b hB_c hC3
   refine G.ops1 rfl rfl (R.notU rfl (by first | exact not_decide_eq | rfl)) (Gs 1 rfl (G.sb 20 rfl (fun hh3 => ?_) (fun hh3 => ?_)))
   ·
    refine Gs 1 rfl (G.ld rfl Tryz.isAgg3 (hB_c.cells 2 _ rfl) (Gs 4 rfl ?_))
    refine G.meet (_) (Sub.of rfl) (⟨by first | (simp only [hh3, Bool.true_and, ne_eq, decide_not]; done) | (exfalso; omega), hC3⟩)
   ·
    refine Gs 6 rfl ?_
    refine G.meet (_) (Sub.cons rfl (Sub.cons rfl (Sub.cons rfl (Sub.cons rfl (Sub.cons (by first | rfl | (show some (Value.bool false) = some (Value.bool _); simp [*])) Sub.nil))))) (⟨by first | (simp only [hh3, Bool.false_and, ne_eq, decide_not]; done) | (exfalso; omega), hC3⟩)
  rintro q x3 ⟨hq3, hX3⟩
  subst hq3
  obtain ⟨hE, hvs, hk, hb, hB_b, hB_c⟩ := Tr6 hX3 hE hvs hk hb hB_b hB_c
  refine Gs 1 rfl (G.bool rfl (fun hh103 => ?_) (fun hh103 => ?_))
  · refine Gs 11 rfl (G.ret1 Tryz.results157 rfl ⟨_, rfl, by simp only [hh102, hh103, Bool.not_true, Bool.and_false, Bool.false_and], hE⟩)
  ·
   refine Gs 1 rfl ?_
   have hC4 := Keep.refl (fun _ => False) x3
   refine G.cut (σ := Bool) (fun q => [(2, .bool last), (3, .pointer (some ⟨b, 0, none⟩)), (4, .pointer (some ⟨c, 0, none⟩)), (7, .int .i64 s.act), (10, .bool q)]) (fun q => fun w' => q = (!unB s.act && decide (s.n ≠ 0)) ∧ Ext x3 w') ?_ ?_
   ·
    refine Gs 2 rfl (G.call rfl Tryz.call199 (usesN_ok s.act _) ?_)
    rintro _ wz4 ⟨rfl, hz4⟩
    obtain ⟨hE, hvs, hk, hb, hB_b, hB_c, hC4⟩ := Tr7 hz4 hE hvs hk hb hB_b hB_c hC4
    refine G.ops1 rfl rfl (R.notU rfl (by first | exact not_decide_eq | rfl)) (Gs 1 rfl (G.sb 28 rfl (fun hh5 => ?_) (fun hh5 => ?_)))
    ·
     refine Gs 1 rfl (G.ld rfl Tryz.isAgg3 (hB_c.cells 3 _ rfl) (Gs 4 rfl ?_))
     refine G.meet (_) (Sub.of rfl) (⟨by first | (simp only [hh5, Bool.true_and, ne_eq, decide_not]; done) | (exfalso; omega), hC4⟩)
    ·
     refine Gs 6 rfl ?_
     refine G.meet (_) (Sub.cons rfl (Sub.cons rfl (Sub.cons rfl (Sub.cons rfl (Sub.cons (by first | rfl | (show some (Value.bool false) = some (Value.bool _); simp [*])) Sub.nil))))) (⟨by first | (simp only [hh5, Bool.false_and, ne_eq, decide_not]; done) | (exfalso; omega), hC4⟩)
   rintro q x4 ⟨hq4, hX4⟩
   subst hq4
   obtain ⟨hE, hvs, hk, hb, hB_b, hB_c⟩ := Tr6 hX4 hE hvs hk hb hB_b hB_c
   refine Gs 1 rfl (G.bool rfl (fun hh104 => ?_) (fun hh104 => ?_))
   · refine Gs 11 rfl (G.ret1 Tryz.results157 rfl ⟨_, rfl, by simp only [hh102, hh103, hh104, Bool.not_true, Bool.and_false, Bool.false_and], hE⟩)
   ·
    refine Gs 1 rfl ?_
    have hC5 := Keep.refl (fun _ => False) x4
    refine G.cut (σ := Bool) (fun q => [(2, .bool last), (3, .pointer (some ⟨b, 0, none⟩)), (4, .pointer (some ⟨c, 0, none⟩)), (7, .int .i64 s.act), (10, .bool q)]) (fun q => fun w' => q = (!utB s.act && !plainB s.term) ∧ Ext x4 w') ?_ ?_
    ·
     refine Gs 2 rfl (G.call rfl Tryz.call200 (usesTerm_ok s.act _) ?_)
     rintro _ wz6 ⟨rfl, hz6⟩
     obtain ⟨hE, hvs, hk, hb, hB_b, hB_c, hC5⟩ := Tr7 hz6 hE hvs hk hb hB_b hB_c hC5
     refine G.ops1 rfl rfl (R.notU rfl (by first | exact not_decide_eq | rfl)) (Gs 1 rfl (G.sb 36 rfl (fun hh7 => ?_) (fun hh7 => ?_)))
     ·
      refine Gs 1 rfl (G.ldK rfl Tryz.isAgg84 Tryz.sizeOf84 (hB_c.cells.sub 4 3) rfl (G.call rfl Tryz.call201 (flatZero_ok s.term _ D' _ (RTm.put hk)) ?_))
      rintro _ wz8 ⟨rfl, hz8⟩
      obtain ⟨hE, hvs, hk, hb, hB_b, hB_c, hC5⟩ := Tr7 hz8 hE hvs hk hb hB_b hB_c hC5
      refine G.ops1 rfl rfl (R.notU rfl (by first | exact not_decide_eq | rfl)) (Gs 3 rfl ?_)
      refine G.meet (_) (Sub.of rfl) (⟨by first | (simp only [hh7, Bool.true_and]; done) | (exfalso; omega), hC5⟩)
     ·
      refine Gs 7 rfl ?_
      refine G.meet (_) (Sub.cons rfl (Sub.cons rfl (Sub.cons rfl (Sub.cons rfl (Sub.cons (by first | rfl | (show some (Value.bool false) = some (Value.bool _); simp [*])) Sub.nil))))) (⟨by first | (simp only [hh7, Bool.false_and]; done) | (exfalso; omega), hC5⟩)
    rintro q x5 ⟨hq5, hX5⟩
    subst hq5
    obtain ⟨hE, hvs, hk, hb, hB_b, hB_c⟩ := Tr6 hX5 hE hvs hk hb hB_b hB_c
    refine Gs 1 rfl (G.bool rfl (fun hh105 => ?_) (fun hh105 => ?_))
    · refine Gs 11 rfl (G.ret1 Tryz.results157 rfl ⟨_, rfl, by simp only [hh102, hh103, hh104, hh105, Bool.not_true, Bool.and_false, Bool.false_and], hE⟩)
    ·
     refine Gs 1 rfl ?_
     have hC6 := Keep.refl (fun _ => False) x5
     refine G.cut (σ := Bool) (fun q => [(2, .bool last), (3, .pointer (some ⟨b, 0, none⟩)), (4, .pointer (some ⟨c, 0, none⟩)), (7, .int .i64 s.act), (10, .bool q)]) (fun q => fun w' => q = (decide (s.act ≠ 3) && decide (s.act ≠ 4) && decide (0 < (s.thn.length : Int))) ∧ Ext x5 w') ?_ ?_
     ·
      refine Gs 4 rfl (G.sp 44 rfl (fun hh9 => ?_) (fun hh9 => ?_))
      ·
       refine Gs 4 rfl (G.sp 48 rfl (fun hh10 => ?_) (fun hh10 => ?_))
       ·
        refine Gs 1 rfl (G.ld rfl Tryz.isAgg24 (hB_c.cells 7 _ rfl) (Gs 5 rfl ?_))
        refine G.meet (_) (Sub.of rfl) (⟨by first | (simp only [hh9, hh10, decide_true, Bool.and_true, Bool.true_and, not_false_eq_true, ne_eq]; done) | (exfalso; omega), hC6⟩)
       ·
        refine Gs 7 rfl ?_
        refine G.meet (_) (Sub.cons rfl (Sub.cons rfl (Sub.cons rfl (Sub.cons rfl (Sub.cons (by first | rfl | (show some (Value.bool false) = some (Value.bool _); simp [*])) Sub.nil))))) (⟨by first | (simp only [hh9, hh10, decide_true, decide_false, Bool.and_false, Bool.false_and, not_false_eq_true, ne_eq]; done) | (exfalso; omega), hC6⟩)
      ·
       refine Gs 11 rfl ?_
       refine G.meet (_) (Sub.cons rfl (Sub.cons rfl (Sub.cons rfl (Sub.cons rfl (Sub.cons (by first | rfl | (show some (Value.bool false) = some (Value.bool _); simp [*])) Sub.nil))))) (⟨by first | (simp only [hh9, decide_false, Bool.false_and, ne_eq, decide_not]; done) | (exfalso; omega), hC6⟩)
     rintro q x6 ⟨hq6, hX6⟩
     subst hq6
     obtain ⟨hE, hvs, hk, hb, hB_b, hB_c⟩ := Tr6 hX6 hE hvs hk hb hB_b hB_c
     refine Gs 1 rfl (G.bool rfl (fun hh106 => ?_) (fun hh106 => ?_))
     · refine Gs 11 rfl (G.ret1 Tryz.results157 rfl ⟨_, rfl, by simp only [hh102, hh103, hh104, hh105, hh106, Bool.not_true, Bool.and_false, Bool.false_and], hE⟩)
     ·
      refine Gs 1 rfl ?_
      have hC7 := Keep.refl (fun _ => False) x6
      refine G.cut (σ := Bool) (fun q => [(2, .bool last), (3, .pointer (some ⟨b, 0, none⟩)), (4, .pointer (some ⟨c, 0, none⟩)), (7, .int .i64 s.act), (10, .bool q)]) (fun q => fun w' => q = (decide (s.act ≠ 3) && decide (0 < (s.els.length : Int))) ∧ Ext x6 w') ?_ ?_
      ·
       refine Gs 4 rfl (G.sp 56 rfl (fun hh11 => ?_) (fun hh11 => ?_))
       ·
        refine Gs 1 rfl (G.ld rfl Tryz.isAgg24 (hB_c.cells 8 _ rfl) (Gs 5 rfl ?_))
        refine G.meet (_) (Sub.of rfl) (⟨by first | (simp only [hh11, decide_true, Bool.true_and, not_false_eq_true, ne_eq]; done) | (exfalso; omega), hC7⟩)
       ·
        refine Gs 7 rfl ?_
        refine G.meet (_) (Sub.cons rfl (Sub.cons rfl (Sub.cons rfl (Sub.cons rfl (Sub.cons (by first | rfl | (show some (Value.bool false) = some (Value.bool _); simp [*])) Sub.nil))))) (⟨by first | (simp only [hh11, decide_false, Bool.false_and]; done) | (exfalso; omega), hC7⟩)
      rintro q x7 ⟨hq7, hX7⟩
      subst hq7
      obtain ⟨hE, hvs, hk, hb, hB_b, hB_c⟩ := Tr6 hX7 hE hvs hk hb hB_b hB_c
      refine Gs 1 rfl (G.bool rfl (fun hh107 => ?_) (fun hh107 => ?_))
      · refine Gs 11 rfl (G.ret1 Tryz.results157 rfl ⟨_, rfl, by simp only [hh102, hh103, hh104, hh105, hh106, hh107, Bool.not_true, Bool.and_false, Bool.false_and], hE⟩)
      ·
       refine Gs 1 rfl ?_
       have hC8 := Keep.refl (fun _ => False) x7
       refine G.cut (σ := Bool) (fun q => [(2, .bool last), (3, .pointer (some ⟨b, 0, none⟩)), (4, .pointer (some ⟨c, 0, none⟩)), (7, .int .i64 s.act), (10, .bool q)]) (fun q => fun w' => q = (decide (s.act ≠ 6) && decide (0 < (s.bounds.length : Int))) ∧ Ext x7 w') ?_ ?_
       ·
        refine Gs 4 rfl (G.sp 64 rfl (fun hh12 => ?_) (fun hh12 => ?_))
        ·
         refine Gs 1 rfl (G.ld rfl Tryz.isAgg50 (hB_c.cells 9 _ rfl) (Gs 5 rfl ?_))
         refine G.meet (_) (Sub.of rfl) (⟨by first | (simp only [hh12, decide_true, Bool.true_and, not_false_eq_true, ne_eq]; done) | (exfalso; omega), hC8⟩)
        ·
         refine Gs 7 rfl ?_
         refine G.meet (_) (Sub.cons rfl (Sub.cons rfl (Sub.cons rfl (Sub.cons rfl (Sub.cons (by first | rfl | (show some (Value.bool false) = some (Value.bool _); simp [*])) Sub.nil))))) (⟨by first | (simp only [hh12, decide_false, Bool.false_and]; done) | (exfalso; omega), hC8⟩)
       rintro q x8 ⟨hq8, hX8⟩
       subst hq8
       obtain ⟨hE, hvs, hk, hb, hB_b, hB_c⟩ := Tr6 hX8 hE hvs hk hb hB_b hB_c
       refine Gs 1 rfl (G.bool rfl (fun hh108 => ?_) (fun hh108 => ?_))
       · refine Gs 11 rfl (G.ret1 Tryz.results157 rfl ⟨_, rfl, by simp only [hh102, hh103, hh104, hh105, hh106, hh107, hh108, Bool.not_true, Bool.and_false, Bool.false_and], hE⟩)
       ·
        refine Gs 1 rfl ?_
        have hC9 := Keep.refl (fun _ => False) x8
        refine G.cut (σ := Bool) (fun q => [(2, .bool last), (3, .pointer (some ⟨b, 0, none⟩)), (4, .pointer (some ⟨c, 0, none⟩)), (7, .int .i64 s.act), (10, .bool q)]) (fun q => fun w' => q = (uvB s.act && !localB f.vars s.var) ∧ Ext x8 w') ?_ ?_
        ·
         by_cases hv : 0 ≤ s.var ∧ s.var < f.vars.length
         ·
          obtain ⟨x, he_x⟩ : ∃ x, f.vars[s.var.toNat]? = some x := ⟨_, List.getElem?_eq_getElem (by omega)⟩
          have hm_x := List.mem_of_getElem? he_x
          obtain ⟨b_x, o_x, c_x, ha_x, _, hc_x, hR_x⟩ := hvs.at he_x
          have h1_x := RVr.one hR_x
          obtain rfl := hR_x
          have hlt_x : b_x < _ := World.block_lt_of_cell? _ _ (hc_x 0 _ rfl)
          have hil : localB f.vars s.var = decide (x.kind = 0) := by unfold localB isLocal; rw [he_x, decide_eq_true hv.1, decide_eq_true hv.2]; rfl
          refine Gs 2 rfl (G.call rfl Tryz.call198 (usesVar_ok s.act _) ?_)
          rintro _ wz13 ⟨rfl, hz13⟩
          obtain ⟨hE, hvs, hk, hb, hB_b, hB_c, hC9⟩ := Tr7 hz13 hE hvs hk hb hB_b hB_c hC9
          replace hc_x := Tr1 hz13 hc_x
          refine Gs 1 rfl (G.sb 72 rfl (fun hh14 => ?_) (fun hh14 => ?_))
          ·
           refine Gs 1 rfl (G.ld rfl Tryz.isAgg3 (hB_c.cells 2 _ rfl) (Gs 2 rfl (G.sp 76 rfl (fun hh15 => ?_) (fun hh15 => ?_))))
           ·
            refine Gs 20 rfl ?_
            refine G.meet (_) (Sub.cons rfl (Sub.cons rfl (Sub.cons rfl (Sub.cons rfl (Sub.cons (by first | rfl | (show some (Value.bool true) = some (Value.bool _); simp [*])) Sub.nil))))) (⟨by first | (simp only [hil, hh14, Bool.true_and]; done) | (simp only [hh14, Bool.true_and]; done) | (exfalso; omega), hC9⟩)
           ·
            refine Gs 1 rfl (G.ld rfl Tryz.isAgg3 (hB_c.cells 2 _ rfl) (Gs 1 rfl (G.ld rfl Tryz.isAgg22 (hB_b.cells 0 _ rfl) (Gs 4 rfl (G.sp 84 rfl (fun hh16 => ?_) (fun hh16 => ?_))))))
            ·
             refine Gs 12 rfl ?_
             refine G.meet (_) (Sub.cons rfl (Sub.cons rfl (Sub.cons rfl (Sub.cons rfl (Sub.cons (by first | rfl | (show some (Value.bool true) = some (Value.bool _); simp [*])) Sub.nil))))) (⟨by first | (simp only [hil, hh14, Bool.true_and]; done) | (simp only [hh14, Bool.true_and]; done) | (exfalso; omega), hC9⟩)
            ·
             refine Gs 1 rfl (G.ld rfl Tryz.isAgg22 (hB_b.cells 0 _ rfl) (Gs 1 rfl (G.ld rfl Tryz.isAgg3 (hB_c.cells 2 _ rfl) (G.ops1 rfl rfl (R.indexS Tryz.runUnderlying22 Tryz.sizeOf125 rfl rfl ha_x (by omega)) (Gs 1 rfl (G.ld rfl Tryz.isAgg121 (hc_x 1 _ rfl) (Gs 5 rfl ?_)))))))
             refine G.meet (_) (Sub.of rfl) (⟨by first | (simp only [hil, hh14, Bool.true_and, ne_eq, decide_not]; done) | (simp only [hh102, hh103, hh104, hh105, hh106, hh107, hh108, hh14, hh15, hh16, decide_true, decide_false, Bool.and_true, Bool.true_and, Bool.and_false, Bool.false_and, Bool.or_true, Bool.true_or, Bool.or_false, Bool.false_or, Bool.not_true, Bool.not_false, not_true, not_false_eq_true, ne_eq, decide_not]; done) | (exfalso; omega), hC9⟩)
          ·
           refine Gs 24 rfl ?_
           refine G.meet (_) (Sub.cons rfl (Sub.cons rfl (Sub.cons rfl (Sub.cons rfl (Sub.cons (by first | rfl | (show some (Value.bool false) = some (Value.bool _); simp [*])) Sub.nil))))) (⟨by first | (simp only [hil, hh14, Bool.false_and]; done) | (simp only [hh102, hh103, hh104, hh105, hh106, hh107, hh108, hh14, decide_true, decide_false, Bool.and_true, Bool.true_and, Bool.and_false, Bool.false_and, Bool.or_true, Bool.true_or, Bool.or_false, Bool.false_or, Bool.not_true, Bool.not_false, not_true, not_false_eq_true, ne_eq, decide_not]; done) | (exfalso; omega), hC9⟩)
         ·
          have hil : localB f.vars s.var = false := by unfold localB; by_cases h0 : 0 ≤ s.var <;> simp [h0] <;> omega
          refine Gs 2 rfl (G.call rfl Tryz.call198 (usesVar_ok s.act _) ?_)
          rintro _ wz17 ⟨rfl, hz17⟩
          obtain ⟨hE, hvs, hk, hb, hB_b, hB_c, hC9⟩ := Tr7 hz17 hE hvs hk hb hB_b hB_c hC9
          refine Gs 1 rfl (G.sb 72 rfl (fun hh18 => ?_) (fun hh18 => ?_))
          ·
           refine Gs 1 rfl (G.ld rfl Tryz.isAgg3 (hB_c.cells 2 _ rfl) (Gs 2 rfl (G.sp 76 rfl (fun hh19 => ?_) (fun hh19 => ?_))))
           ·
            refine Gs 20 rfl ?_
            refine G.meet (_) (Sub.cons rfl (Sub.cons rfl (Sub.cons rfl (Sub.cons rfl (Sub.cons (by first | rfl | (show some (Value.bool true) = some (Value.bool _); simp [*])) Sub.nil))))) (⟨by first | (simp only [hil, hh18, Bool.and_true, Bool.not_false]; done) | (simp only [hh102, hh103, hh104, hh105, hh106, hh107, hh108, hh18, hh19, decide_true, decide_false, Bool.and_true, Bool.true_and, Bool.and_false, Bool.false_and, Bool.or_true, Bool.true_or, Bool.or_false, Bool.false_or, Bool.not_true, Bool.not_false, not_true, not_false_eq_true, ne_eq, decide_not]; done) | (exfalso; omega), hC9⟩)
           ·
            refine Gs 1 rfl (G.ld rfl Tryz.isAgg3 (hB_c.cells 2 _ rfl) (Gs 1 rfl (G.ld rfl Tryz.isAgg22 (hB_b.cells 0 _ rfl) (Gs 4 rfl (G.sp 84 rfl (fun hh20 => ?_) (fun hh20 => ?_))))))
            ·
             refine Gs 12 rfl ?_
             refine G.meet (_) (Sub.cons rfl (Sub.cons rfl (Sub.cons rfl (Sub.cons rfl (Sub.cons (by first | rfl | (show some (Value.bool true) = some (Value.bool _); simp [*])) Sub.nil))))) (⟨by first | (simp only [hil, hh18, Bool.and_true, Bool.not_false]; done) | (simp only [hh102, hh103, hh104, hh105, hh106, hh107, hh108, hh18, hh19, hh20, decide_true, decide_false, Bool.and_true, Bool.true_and, Bool.and_false, Bool.false_and, Bool.or_true, Bool.true_or, Bool.or_false, Bool.false_or, Bool.not_true, Bool.not_false, not_true, not_false_eq_true, ne_eq, decide_not]; done) | (exfalso; omega), hC9⟩)
            ·
             refine Gs 1 rfl (G.ld rfl Tryz.isAgg22 (hB_b.cells 0 _ rfl) (Gs 1 rfl (G.ld rfl Tryz.isAgg3 (hB_c.cells 2 _ rfl) ?_)))
             exfalso
             omega
          ·
           refine Gs 24 rfl ?_
           refine G.meet (_) (Sub.cons rfl (Sub.cons rfl (Sub.cons rfl (Sub.cons rfl (Sub.cons (by first | rfl | (show some (Value.bool false) = some (Value.bool _); simp [*])) Sub.nil))))) (⟨by first | (simp only [hil, hh18, Bool.and_true, Bool.not_false]; done) | (simp only [hh102, hh103, hh104, hh105, hh106, hh107, hh108, hh18, decide_true, decide_false, Bool.and_true, Bool.true_and, Bool.and_false, Bool.false_and, Bool.or_true, Bool.true_or, Bool.or_false, Bool.false_or, Bool.not_true, Bool.not_false, not_true, not_false_eq_true, ne_eq, decide_not]; done) | (exfalso; omega), hC9⟩)
        rintro q x9 ⟨hq9, hX9⟩
        subst hq9
        obtain ⟨hE, hvs, hk, hb, hB_b, hB_c⟩ := Tr6 hX9 hE hvs hk hb hB_b hB_c
        refine Gs 1 rfl (G.bool rfl (fun hh109 => ?_) (fun hh109 => ?_))
        · refine Gs 11 rfl (G.ret1 Tryz.results157 rfl ⟨_, rfl, by simp only [hh102, hh103, hh104, hh105, hh106, hh107, hh108, hh109, Bool.not_true, Bool.and_false, Bool.false_and], hE⟩)
        ·
         have hC10 := Keep.refl (fun _ => False) x9
         refine G.cut (σ := Bool) (fun q => [(2, .bool last), (3, .pointer (some ⟨b, 0, none⟩)), (4, .pointer (some ⟨c, 0, none⟩)), (7, .int .i64 s.act), (10, .bool q)]) (fun q => fun w' => q = (decide (s.act = 5) && (decide (s.n < 0) || decide ((f.hatches.length : Int) ≤ s.n))) ∧ Ext x9 w') ?_ ?_
         ·
          refine Gs 4 rfl (G.sp 97 rfl (fun hh21 => ?_) (fun hh21 => ?_))
          ·
           refine Gs 1 rfl (G.ld rfl Tryz.isAgg3 (hB_c.cells 3 _ rfl) (Gs 2 rfl (G.sp 101 rfl (fun hh22 => ?_) (fun hh22 => ?_))))
           ·
            refine Gs 10 rfl ?_
            refine G.meet (_) (Sub.cons rfl (Sub.cons rfl (Sub.cons rfl (Sub.cons rfl (Sub.cons (by first | rfl | (show some (Value.bool true) = some (Value.bool _); simp [*])) Sub.nil))))) (⟨by first | (simp only [hh21, hh22, decide_true, Bool.and_true, Bool.true_or]; done) | (exfalso; omega), hC10⟩)
           ·
            refine Gs 1 rfl (G.ld rfl Tryz.isAgg3 (hB_c.cells 3 _ rfl) (Gs 1 rfl (G.ld rfl Tryz.isAgg23 (hB_b.cells 1 _ rfl) (Gs 6 rfl ?_))))
            refine G.meet (_) (Sub.of rfl) (⟨by first | (simp only [hh21, hh22, decide_true, decide_false, Bool.true_and, Bool.false_or]; done) | (exfalso; omega), hC10⟩)
          ·
           refine Gs 14 rfl ?_
           refine G.meet (_) (Sub.cons rfl (Sub.cons rfl (Sub.cons rfl (Sub.cons rfl (Sub.cons (by first | rfl | (show some (Value.bool false) = some (Value.bool _); simp [*])) Sub.nil))))) (⟨by first | (simp only [hh21, decide_false, Bool.false_and]; done) | (exfalso; omega), hC10⟩)
         rintro q x10 ⟨hq10, hX10⟩
         subst hq10
         obtain ⟨hE, hvs, hk, hb, hB_b, hB_c⟩ := Tr6 hX10 hE hvs hk hb hB_b hB_c
         refine Gs 1 rfl (G.bool rfl (fun hh110 => ?_) (fun hh110 => ?_))
         · refine Gs 8 rfl (G.ret1 Tryz.results157 rfl ⟨_, rfl, by simp only [hh102, hh103, hh104, hh105, hh106, hh107, hh108, hh109, hh110, Bool.not_true, Bool.and_false, Bool.false_and], hE⟩)
         ·
          have hres : ∀ q : Bool, q = (decide (s.act ≠ 6) || (last && groupsB s.bounds)) → ∀ {w' : World}, Ext w w' → ∃ v, Ending.returned (.bool q) = .returned v ∧ v = .bool (!(decide (s.act < 0) || decide (6 < s.act)) && !(!uvB s.act && decide (s.var ≠ 0)) && !(!unB s.act && decide (s.n ≠ 0)) && !(!utB s.act && !plainB s.term)
  && !(decide (s.act ≠ 3) && decide (s.act ≠ 4) && decide (0 < (s.thn.length : Int))) && !(decide (s.act ≠ 3) && decide (0 < (s.els.length : Int))) && !(decide (s.act ≠ 6) && decide (0 < (s.bounds.length : Int)))
  && !(uvB s.act && !localB f.vars s.var) && !(decide (s.act = 5) && (decide (s.n < 0) || decide ((f.hatches.length : Int) ≤ s.n)))
  && (decide (s.act ≠ 6) || (last && groupsB s.bounds))) ∧ Ext w w' := by
           intro q hq w' hw
           refine ⟨_, rfl, ?_, hw⟩
           rw [hq]
           simp only [hh102, hh103, hh104, hh105, hh106, hh107, hh108, hh109, hh110, Bool.not_false, Bool.true_and, Bool.and_true]
          by_cases hbl : 0 < s.bounds.length
          ·
           obtain ⟨x0, hx0⟩ : ∃ x, s.bounds[0]? = some x := ⟨_, List.getElem?_eq_getElem hbl⟩
           obtain ⟨b_e0, o_e0, c_e0, ha_e0, _, hc_e0, hR_e0⟩ := hb.at (hx0)
           obtain rfl := hR_e0
           have hlt_e0 : b_e0 < _ := World.block_lt_of_cell? _ _ (hc_e0 0 _ rfl)
           have hg : groupsB s.bounds = (decide ((s.bounds.length : Int) ≤ 32) && decide (0 ≤ x0) && risingB s.bounds) := by
            unfold groupsB
            rw [hx0, decide_eq_true (show 1 ≤ s.bounds.length from hbl)]
            congr 2
            simp; omega
           refine Gs 8 rfl (G.sp 112 rfl (fun hh23 => ?_) (fun hh23 => ?_))
           · refine Gs 30 rfl (G.ret1 Tryz.results157 rfl (hres _ (by first | (simp only [hg, hh23, decide_true, Bool.true_or, not_false_eq_true, ne_eq]; done) | (exfalso; omega)) hE))
           ·
            refine Gs 2 rfl (G.sb 114 rfl (fun hh24 => ?_) (fun hh24 => ?_))
            ·
             refine Gs 1 rfl (G.ld rfl Tryz.isAgg50 (hB_c.cells 9 _ rfl) (Gs 4 rfl (G.sp 120 rfl (fun hh25 => ?_) (fun hh25 => ?_))))
             ·
              refine Gs 1 rfl (G.ld rfl Tryz.isAgg50 (hB_c.cells 9 _ rfl) (Gs 4 rfl (G.sp 126 rfl (fun hh26 => ?_) (fun hh26 => ?_))))
              ·
               refine Gs 1 rfl (G.ld rfl Tryz.isAgg50 (hB_c.cells 9 _ rfl) (G.ops1 rfl rfl (R.indexS Tryz.runUnderlying50 Tryz.sizeOf3 rfl rfl ha_e0 (by omega)) (G.ld rfl Tryz.isAgg3 (hc_e0 0 _ rfl) (Gs 3 rfl (G.sp 133 rfl (fun hh27 => ?_) (fun hh27 => ?_))))))
               ·
                refine Gs 1 rfl (G.ld rfl Tryz.isAgg50 (hB_c.cells 9 _ rfl) (G.call rfl Tryz.call202 (flatRising_ok s.bounds _ D' _ hb) ?_))
                rintro _ wz28 ⟨rfl, hz28⟩
                obtain ⟨hE, hvs, hk, hb, hB_b, hB_c, hc_e0⟩ := Tr7 hz28 hE hvs hk hb hB_b hB_c hc_e0
                refine Gs 6 rfl (G.ret1 Tryz.results157 rfl (hres _ (by first | (simp only [hg, hh23, hh24, hh26, hh27, decide_true, decide_false, Bool.and_true, Bool.true_and, Bool.false_or]; done) | (exfalso; omega)) hE))
               · refine Gs 9 rfl (G.ret1 Tryz.results157 rfl (hres _ (by first | (simp only [hg, hh23, hh24, hh26, hh27, decide_true, decide_false, Bool.and_false, Bool.false_and, Bool.or_false]; done) | (exfalso; omega)) hE))
              · refine Gs 16 rfl (G.ret1 Tryz.results157 rfl (hres _ (by first | (simp only [hg, hh23, hh24, hh26, decide_false, Bool.and_false, Bool.false_and, Bool.or_false]; done) | (exfalso; omega)) hE))
             · refine Gs 22 rfl (G.ret1 Tryz.results157 rfl (hres _ (by first | (simp only [hg, hh23, hh24, decide_false, Bool.true_and, Bool.false_or]; done) | (exfalso; omega)) hE))
            · refine Gs 28 rfl (G.ret1 Tryz.results157 rfl (hres _ (by first | (simp only [hg, hh23, hh24, decide_false, Bool.false_and, Bool.or_false]; done) | (exfalso; omega)) hE))
          ·
           have hg : groupsB s.bounds = false := by unfold groupsB; rw [decide_eq_false (show ¬ 1 ≤ s.bounds.length by omega)]; rfl
           refine Gs 8 rfl (G.sp 112 rfl (fun hh29 => ?_) (fun hh29 => ?_))
           · refine Gs 30 rfl (G.ret1 Tryz.results157 rfl (hres _ (by first | (simp only [hg, hh29, decide_true, Bool.and_false, Bool.or_false, not_false_eq_true, ne_eq]; done) | (exfalso; omega)) hE))
           ·
            refine Gs 2 rfl (G.sb 114 rfl (fun hh30 => ?_) (fun hh30 => ?_))
            ·
             refine Gs 1 rfl (G.ld rfl Tryz.isAgg50 (hB_c.cells 9 _ rfl) (Gs 4 rfl (G.sp 120 rfl (fun hh31 => ?_) (fun hh31 => ?_))))
             ·
              refine Gs 1 rfl (G.ld rfl Tryz.isAgg50 (hB_c.cells 9 _ rfl) (Gs 4 rfl (G.sp 126 rfl (fun hh32 => ?_) (fun hh32 => ?_))))
              ·
               refine Gs 1 rfl (G.ld rfl Tryz.isAgg50 (hB_c.cells 9 _ rfl) ?_)
               exfalso
               omega
              · refine Gs 16 rfl (G.ret1 Tryz.results157 rfl (hres _ (by first | (simp only [hg, hh29, hh30, decide_false, Bool.and_false, Bool.or_false]; done) | (exfalso; omega)) hE))
             · refine Gs 22 rfl (G.ret1 Tryz.results157 rfl (hres _ (by first | (simp only [hg, hh29, hh30, decide_false, Bool.and_false, Bool.or_false]; done) | (exfalso; omega)) hE))
            · refine Gs 28 rfl (G.ret1 Tryz.results157 rfl (hres _ (by first | (simp only [hg, hh29, hh30, decide_false, Bool.and_false, Bool.or_false]; done) | (exfalso; omega)) hE))
end Go.Proofs.YtldhllpogdikdaaGreat
