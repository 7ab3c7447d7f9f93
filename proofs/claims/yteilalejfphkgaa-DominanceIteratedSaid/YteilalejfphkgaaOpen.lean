/-
  The arguments of the laws over graphs laid open. Nothing here is a claim.
-/
import Derived.Test.YteilalejfphkgaaRow
namespace Go.Proofs.Yteilalejfphkgaa
open Go.GL Go.ChangeShapes Go.WideShapes Go.ChangeAt Go.RowKit

theorem own : ownKnob Try.prog.godebug = none := by kernel_rfl
set_option maxRecDepth 100000 in
theorem open_graph {H : Type} {enc : TypeId × Value → H} {W : World} {r : Reach} {b0 base : Nat} {sp : Nat → Bool} {held : Bool} {v : Value} {d : DataW H} {ps : List MemPlace} (hval : Value.okWide Try.prog W r b0 24 v) (hd : DataW.Trod enc Try.prog W base sp held 24 v d ps) :
    ∃ n ev es, v = .agg #[.int .i64 n, ev] ∧ SlR 2 RPair (fun _ => True) W ev es := by
  unfold Value.okWide at hval
  rw [Try.underlying24] at hval
  obtain ⟨cs, rfl, hsz, _⟩ := hval
  obtain ⟨k, hn⟩ := hd
  obtain ⟨xs, m, _, _, hl, hx, hat⟩ := DataW.trod_struct Try.underlying24 hn
  have hc : Try.prog.cellsOf 24 = 2 := by kernel_rfl
  have h0 := hat 0 _ rfl
  have h1 := hat 1 _ rfl
  rw [hc] at hsz
  obtain ⟨l⟩ := cs
  match l, hsz with
  | [c0, c1], _ =>
    have hc3 : Try.prog.cellsOf 3 = 1 := by kernel_rfl
    have hc22 : Try.prog.cellsOf 22 = 1 := by kernel_rfl
    have hcp : Try.prog.cellsOf 49 = 2 := by kernel_rfl
    have hxl : xs.length = 2 := hx
    obtain ⟨y0, hy0⟩ : ∃ y, xs[0]? = some y := ⟨_, List.getElem?_eq_getElem (by omega)⟩
    obtain ⟨y1, hy1⟩ : ∃ y, xs[1]? = some y := ⟨_, List.getElem?_eq_getElem (by omega)⟩
    rw [hy0] at h0
    rw [hy1] at h1
    have h0' : DataW.trod enc Try.prog W base sp held m 3 (([c0, c1].drop 0).take (Try.prog.cellsOf 3)) = some y0 := h0
    have h1' : DataW.trod enc Try.prog W base sp held m 22 (([c0, c1].drop 1).take (Try.prog.cellsOf 22)) = some y1 := h1
    rw [hc3] at h0'
    rw [hc22] at h1'
    obtain ⟨n, hn0, _⟩ := DataW.trod_int Try.underlying3 h0'
    obtain ⟨ev, es, hev, hsl⟩ := slR_of Try.underlying22 hcp (by decide) (fun n cs y h => rpair_of Try.underlying49 Try.underlying3 hc3 hcp h) h1'
    simp at hn0 hev
    subst hn0
    subst hev
    exact ⟨n, c1, es, rfl, hsl⟩

set_option maxRecDepth 100000 in
theorem open_ints {H : Type} {enc : TypeId × Value → H} {W : World} {r : Reach} {b0 base : Nat} {sp : Nat → Bool} {held : Bool} {v : Value} {d : DataW H} {ps : List MemPlace} (hval : Value.okWide Try.prog W r b0 27 v) (hd : DataW.Trod enc Try.prog W base sp held 27 v d ps) :
    ∃ l, SlR 1 RInt (fun _ => True) W v l := by
  obtain ⟨a, len, cap, rfl⟩ := okWide_slice Try.underlying27 hval
  obtain ⟨k, hn⟩ := hd
  have hc3 : Try.prog.cellsOf 3 = 1 := by kernel_rfl
  obtain ⟨ev, es, hev, hsl⟩ := slR_of Try.underlying27 hc3 (by decide) (fun n cs y h => rint_of Try.underlying3 h) hn
  simp [Value.cells] at hev
  subst hev
  exact ⟨es, hsl⟩
end Go.Proofs.Yteilalejfphkgaa
