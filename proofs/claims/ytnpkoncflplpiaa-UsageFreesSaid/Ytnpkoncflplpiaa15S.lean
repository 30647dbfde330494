/- UsageFrees: the argument, a struct that came in by value. -/
import Derived.Test.Ytnpkoncflplpiaa15R
import Derived.Lib.SmallJoins
import Derived.Below
import Derived.ChangeOld
namespace Go.Proofs.Ytnpkoncflplpiaa
set_option linter.unusedSimpArgs false
set_option linter.unusedVariables false
open Go.ChangeShapes Go.WideShapes Go.ChangeAt Go.RowKit Go.Joins

theorem cellsGeo : Try.prog.cellsOf 23 = 4 := by kernel_rfl
theorem cellsInts : Try.prog.cellsOf 24 = 1 := by kernel_rfl
theorem cellsUses : Try.prog.cellsOf 26 = 1 := by kernel_rfl
theorem cellsFrees : Try.prog.cellsOf 36 = 7 := by kernel_rfl

theorem int_cells {H : Type} {enc : TypeId × Value → H} {W : World} {base : Nat} {spare : Nat → Bool} {held : Bool} {fuel : Nat} {c : Value} {x : DataW H × List MemPlace}
    (h : DataW.trod enc Try.prog W base spare held fuel 3 [c] = some x) : ∃ a : Int, c = .int .i64 a ∧ -9223372036854775808 ≤ a ∧ a ≤ 9223372036854775807 := by
  obtain ⟨a0, ea0, -, hw⟩ := DataW.trod_int Try.underlying3 h
  simp only [List.cons.injEq, and_true] at ea0
  simp only [Lit.wf, Bool.and_eq_true, decide_eq_true_eq] at hw
  exact ⟨a0, ea0, hw⟩
theorem geo_cells {H : Type} {enc : TypeId × Value → H} {W : World} {base : Nat} {spare : Nat → Bool} {held : Bool} {fuel : Nat} {cs : List Value} {x : DataW H × List MemPlace}
    (h : DataW.trod enc Try.prog W base spare held fuel 23 cs = some x) : ∃ d l v s : Int, cs = [.int .i64 d, .int .i64 l, .int .i64 v, .int .i64 s] := by
  obtain ⟨xs, n, _, _, hlen, hxl, hf⟩ := DataW.trod_struct Try.underlying23 h
  rw [cellsGeo] at hlen
  match cs, hlen with
  | [c0, c1, c2, c3], _ =>
    have h0 := hf 0 _ rfl
    have h1 := hf 1 _ rfl
    have h2 := hf 2 _ rfl
    have h3 := hf 3 _ rfl
    change DataW.trod enc Try.prog W base spare held n 3 (List.take (Try.prog.cellsOf 3) (List.drop 0 [c0, c1, c2, c3])) = xs[0]? at h0
    change DataW.trod enc Try.prog W base spare held n 3 (List.take (Try.prog.cellsOf 3) (List.drop 1 [c0, c1, c2, c3])) = xs[1]? at h1
    change DataW.trod enc Try.prog W base spare held n 3 (List.take (Try.prog.cellsOf 3) (List.drop 2 [c0, c1, c2, c3])) = xs[2]? at h2
    change DataW.trod enc Try.prog W base spare held n 3 (List.take (Try.prog.cellsOf 3) (List.drop 3 [c0, c1, c2, c3])) = xs[3]? at h3
    rw [cellsInt] at h0 h1 h2 h3
    have hxl : xs.length = 4 := hxl
    have g0 : (xs[0]? ).isSome = true := by simp; omega
    have g1 : (xs[1]? ).isSome = true := by simp; omega
    have g2 : (xs[2]? ).isSome = true := by simp; omega
    have g3 : (xs[3]? ).isSome = true := by simp; omega
    obtain ⟨y0, e0⟩ := Option.isSome_iff_exists.1 g0
    obtain ⟨y1, e1⟩ := Option.isSome_iff_exists.1 g1
    obtain ⟨y2, e2⟩ := Option.isSome_iff_exists.1 g2
    obtain ⟨y3, e3⟩ := Option.isSome_iff_exists.1 g3
    rw [e0] at h0
    rw [e1] at h1
    rw [e2] at h2
    rw [e3] at h3
    obtain ⟨a0, rfl, -⟩ := int_cells h0
    obtain ⟨a1, rfl, -⟩ := int_cells h1
    obtain ⟨a2, rfl, -⟩ := int_cells h2
    obtain ⟨a3, rfl, -⟩ := int_cells h3
    exact ⟨a0, a1, a2, a3, rfl⟩
theorem ints_cells_open {H : Type} {enc : TypeId × Value → H} {W : World} {base : Nat} {held : Bool} {fuel : Nat} {c : Value} {x : DataW H × List MemPlace}
    (h : DataW.trod enc Try.prog W base (fun _ => true) held fuel 24 [c] = some x) : ∃ L, Ints W c L ∧ ∀ j, j < L.length → -9223372036854775808 ≤ L.getD j 0 ∧ L.getD j 0 ≤ 9223372036854775807 := by
  rcases open_ints Try.underlying24 Try.underlying3 (by kernel_rfl) h with ⟨hcs, _⟩ | ⟨x, l, c, zs, hcs, _, hl, hm, hz, _, hcell, hwz⟩
  · simp only [List.cons.injEq, and_true] at hcs
    subst hcs
    exact ⟨[], ints_nil _, by simp⟩
  · simp only [List.cons.injEq, and_true] at hcs
    subst hcs
    exact ⟨zs.take l, ints_open (by simpa using hz) hl hm hcell, fun j hj => by
      rw [List.length_take] at hj
      have hjz : j < zs.length := by omega
      have hjl : j < l := by omega
      have h := hwz (zs.getD j 0) (by rw [List.getD_eq_getElem?_getD, List.getElem?_eq_getElem hjz]; exact List.getElem_mem hjz)
      simp only [Lit.wf, Bool.and_eq_true, decide_eq_true_eq] at h
      rwa [List.getD_eq_getElem?_getD, List.getElem?_take, if_pos hjl, ← List.getD_eq_getElem?_getD]⟩

theorem frees_open {H : Type} {enc : TypeId × Value → H} {W : World} {base b0 : Nat} {held : Bool} {r : Reach} {v : Value} {dd : DataW H} {p : List MemPlace}
    (hv : Value.okWide Try.prog W r b0 36 v) (h : DataW.Trod enc Try.prog W base (fun _ => true) held 36 v dd p) :
    ∃ (d l vv s fr : Int) (vu vb : Value) (n : Nat) (f g : Nat → Int) (L : List Int), v = .agg #[.int .i64 d, .int .i64 l, .int .i64 vv, .int .i64 s, vu, vb, .int .i64 fr] ∧ Uses W vu n f g ∧ Ints W vb L ∧ ∀ j, j < L.length → -9223372036854775808 ≤ L.getD j 0 ∧ L.getD j 0 ≤ 9223372036854775807 := by
  obtain ⟨cs, rfl, hsz⟩ := okWide_struct Try.underlying36 hv
  rw [cellsFrees] at hsz
  obtain ⟨l⟩ := cs
  match l, hsz with
  | [c0, c1, c2, c3, c4, c5, c6], _ =>
    obtain ⟨fuel, hf⟩ := h
    obtain ⟨xs, n, _, _, hlen, hxl, hf⟩ := DataW.trod_struct Try.underlying36 hf
    have h0 := hf 0 _ rfl
    have h1 := hf 1 _ rfl
    have h2 := hf 2 _ rfl
    have h3 := hf 3 _ rfl
    change DataW.trod enc Try.prog W base (fun _ => true) held n 23 (List.take (Try.prog.cellsOf 23) (List.drop 0 [c0, c1, c2, c3, c4, c5, c6])) = xs[0]? at h0
    change DataW.trod enc Try.prog W base (fun _ => true) held n 26 (List.take (Try.prog.cellsOf 26) (List.drop 4 [c0, c1, c2, c3, c4, c5, c6])) = xs[1]? at h1
    change DataW.trod enc Try.prog W base (fun _ => true) held n 24 (List.take (Try.prog.cellsOf 24) (List.drop 5 [c0, c1, c2, c3, c4, c5, c6])) = xs[2]? at h2
    change DataW.trod enc Try.prog W base (fun _ => true) held n 3 (List.take (Try.prog.cellsOf 3) (List.drop 6 [c0, c1, c2, c3, c4, c5, c6])) = xs[3]? at h3
    rw [cellsGeo] at h0
    rw [cellsUses] at h1
    rw [cellsInts] at h2
    rw [cellsInt] at h3
    have hxl : xs.length = 4 := hxl
    have g0 : (xs[0]? ).isSome = true := by simp; omega
    have g1 : (xs[1]? ).isSome = true := by simp; omega
    have g2 : (xs[2]? ).isSome = true := by simp; omega
    have g3 : (xs[3]? ).isSome = true := by simp; omega
    obtain ⟨y0, e0⟩ := Option.isSome_iff_exists.1 g0
    obtain ⟨y1, e1⟩ := Option.isSome_iff_exists.1 g1
    obtain ⟨y2, e2⟩ := Option.isSome_iff_exists.1 g2
    obtain ⟨y3, e3⟩ := Option.isSome_iff_exists.1 g3
    rw [e0] at h0
    rw [e1] at h1
    rw [e2] at h2
    rw [e3] at h3
    obtain ⟨d, l, vv, s, hg⟩ := geo_cells h0
    obtain ⟨vu, m, f, g, hu, hU⟩ := uses_open h1
    obtain ⟨L, hL, hLr⟩ := ints_cells_open (c := c5) h2
    obtain ⟨fr, rfl, -⟩ := int_cells (c := c6) h3
    simp only [List.drop_zero, List.take_succ_cons, List.take_zero, List.cons.injEq, and_true] at hg
    obtain ⟨rfl, rfl, rfl, rfl⟩ := hg
    simp only [List.drop_succ_cons, List.drop_zero, List.take_succ_cons, List.take_zero, List.cons.injEq, and_true] at hu
    subst hu
    exact ⟨d, l, vv, s, fr, _, _, m, f, g, L, rfl, hU, hL, hLr⟩
end Go.Proofs.Ytnpkoncflplpiaa
