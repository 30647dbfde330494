/- Uses that came in: a field that is a slice of uses reads as such. -/
import Derived.Test.Ytnpkoncflplpiaa15N
import Derived.Deep.Slices
import Derived.ProofKit
import Derived.OpenShut
namespace Go.Proofs.Ytnpkoncflplpiaa
set_option linter.unusedSimpArgs false
set_option linter.unusedVariables false
open Go.ChangeShapes Go.WideShapes Go.ChangeAt Go.RowKit

theorem addr_add (b o k : Nat) : (⟨b, o, none⟩ : Addr).add k = ⟨b, o + k, none⟩ := by unfold Addr.add; split <;> simp_all
theorem cellsUse : Try.prog.cellsOf 54 = 2 := by kernel_rfl
theorem cellsInt : Try.prog.cellsOf 3 = 1 := by kernel_rfl
theorem use_cells {H : Type} {enc : TypeId × Value → H} {W : World} {base : Nat} {spare : Nat → Bool} {held : Bool} {fuel : Nat} {cs : List Value} {x : DataW H × List MemPlace}
    (h : DataW.trod enc Try.prog W base spare held fuel 54 cs = some x) : ∃ t : Int × Int, cs = [.int .i64 t.1, .int .i64 t.2] := by
  obtain ⟨xs, n, _, _, hlen, hxl, hf⟩ := DataW.trod_struct Try.underlying54 h
  rw [cellsUse] at hlen
  match cs, hlen with
  | [c0, c1], _ =>
    have h0 := hf 0 _ rfl
    have h1 := hf 1 _ rfl
    change DataW.trod enc Try.prog W base spare held n 3 (List.take (Try.prog.cellsOf 3) (List.drop 0 [c0, c1])) = xs[0]? at h0
    change DataW.trod enc Try.prog W base spare held n 3 (List.take (Try.prog.cellsOf 3) (List.drop 1 [c0, c1])) = xs[1]? at h1
    rw [cellsInt] at h0 h1
    have hxl : xs.length = 2 := hxl
    have g0 : (xs[0]? ).isSome = true := by simp; omega
    have g1 : (xs[1]? ).isSome = true := by simp; omega
    obtain ⟨y0, e0⟩ := Option.isSome_iff_exists.1 g0
    obtain ⟨y1, e1⟩ := Option.isSome_iff_exists.1 g1
    rw [e0] at h0
    rw [e1] at h1
    obtain ⟨a0, ea0, -, -⟩ := DataW.trod_int Try.underlying3 h0
    obtain ⟨a1, ea1, -, -⟩ := DataW.trod_int Try.underlying3 h1
    simp at ea0 ea1
    exact ⟨(a0, a1), by rw [ea0, ea1]⟩
theorem uses_open {H : Type} {enc : TypeId × Value → H} {W : World} {base : Nat} {spare : Nat → Bool} {held : Bool} {fuel : Nat} {cs : List Value} {x : DataW H × List MemPlace}
    (h : DataW.trod enc Try.prog W base spare held fuel 26 cs = some x) : ∃ v n f g, cs = [v] ∧ Uses W v n f g := by
  rcases Go.Deep.open_slice Try.underlying26 h with ⟨hcs, _⟩ | ⟨a, n, cap, m, k, D, Pl, hcs, _, hl, hm, hmm, _, hi⟩
  · exact ⟨_, 0, fun _ => 0, fun _ => 0, hcs, uses_nil _ _ _⟩
  · have hnm : n ≤ m := by rw [hmm]; split <;> omega
    rw [cellsUse] at hi
    obtain ⟨b, o, s⟩ := a
    have hsp : 0 < n → s = none := by
      intro h0
      obtain ⟨cs', hc, ht⟩ := hi 0 (by omega)
      obtain ⟨t, rfl⟩ := use_cells ht
      obtain ⟨_, _, hat⟩ := World.cells?_some hc
      have h0 := hat 0 (by omega)
      simp at h0
      simpa [Addr.add] using World.cell?_spot h0
    have hall : ∀ i, ∃ t : Int × Int, i < n → W.cell? ⟨b, o + i * 2, none⟩ = some (.int .i64 t.1) ∧ W.cell? ⟨b, o + i * 2 + 1, none⟩ = some (.int .i64 t.2) ∧ s = none := by
      intro i
      by_cases hin : i < n
      · obtain ⟨cs', hc, ht⟩ := hi i (by omega)
        obtain ⟨t, rfl⟩ := use_cells ht
        obtain ⟨_, _, hat⟩ := World.cells?_some hc
        have h0 := hat 0 (by omega)
        have h1 := hat 1 (by omega)
        simp at h0 h1
        obtain rfl := hsp (by omega)
        simp only [addr_add] at h0 h1
        exact ⟨t, fun _ => ⟨by simpa using h0, h1, rfl⟩⟩
      · exact ⟨(0, 0), fun h => absurd h hin⟩
    obtain ⟨f, hf⟩ := Classical.skolem.1 hall
    refine ⟨_, n, fun i => (f i).1, fun i => (f i).2, hcs, _, cap, rfl, hl, by unfold maxLen at hm; omega, fun h0 => ?_⟩
    have hs := (hf 0 h0).2.2
    subst hs
    exact ⟨b, o, rfl, fun i hin => ⟨(hf i hin).1, (hf i hin).2.1⟩⟩
end Go.Proofs.Ytnpkoncflplpiaa
