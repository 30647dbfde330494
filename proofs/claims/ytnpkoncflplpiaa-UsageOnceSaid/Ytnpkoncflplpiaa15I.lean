/- haymowlaw15.awake. -/
import Derived.Test.Ytnpkoncflplpiaa15G
import Derived.Test.Ytnpkoncflplpiaa15H
import Derived.Test.Ytnpkoncflplpiaa15B
namespace Go.Proofs.Ytnpkoncflplpiaa
set_option linter.unusedSimpArgs false
set_option linter.unusedVariables false
open Go.RowKit

theorem ints_1 {w : World} {a : Int} {g : Nat} (h0 : w.cell? ⟨g, 0, none⟩ = some (.int .i64 a)) : Ints w (.slice (some ⟨g, 0, none⟩) 1 1) [a] :=
  ints_cells (by simp) (by omega) (by omega) fun i hi => by
    obtain rfl : i = 0 := by omega
    simpa using h0
theorem ints_3 {w : World} {a b c : Int} {g : Nat} (h0 : w.cell? ⟨g, 0, none⟩ = some (.int .i64 a)) (h1 : w.cell? ⟨g, 1, none⟩ = some (.int .i64 b)) (h2 : w.cell? ⟨g, 2, none⟩ = some (.int .i64 c)) :
    Ints w (.slice (some ⟨g, 0, none⟩) 3 3) [a, b, c] :=
  ints_cells (by simp) (by omega) (by omega) fun i hi => by
    match i, hi with
    | 0, _ => simpa using h0
    | 1, _ => simpa using h1
    | 2, _ => simpa using h2
theorem ints_6 {w : World} {a b c d e f : Int} {g : Nat} (h0 : w.cell? ⟨g, 0, none⟩ = some (.int .i64 a)) (h1 : w.cell? ⟨g, 1, none⟩ = some (.int .i64 b)) (h2 : w.cell? ⟨g, 2, none⟩ = some (.int .i64 c)) (h3 : w.cell? ⟨g, 3, none⟩ = some (.int .i64 d)) (h4 : w.cell? ⟨g, 4, none⟩ = some (.int .i64 e)) (h5 : w.cell? ⟨g, 5, none⟩ = some (.int .i64 f)) :
    Ints w (.slice (some ⟨g, 0, none⟩) 6 6) [a, b, c, d, e, f] :=
  ints_cells (by simp) (by omega) (by omega) fun i hi => by
    match i, hi with
    | 0, _ => simpa using h0
    | 1, _ => simpa using h1
    | 2, _ => simpa using h2
    | 3, _ => simpa using h3
    | 4, _ => simpa using h4
    | 5, _ => simpa using h5

def aL : List Int := [1, 3, 161]
def aT : List Int := [5, 9, 2]
def aF (k : Nat) : Int := liveTo aL k 3
def aG (k : Nat) : Int := tickTo aL aT k 3
theorem aF_bd (k : Nat) (_ : k < 16) : -9223372036854775808 ≤ aF k ∧ aF k ≤ 9223372036854775807 := by
  have := liveTo_bd aL k 3
  unfold aF; omega
theorem a_cnt (vl vt : Value) (w : World) (hL : Ints w vl aL) (hT : Ints w vt aT) :
    Calls Try.prog 8 #[.agg #[.int .i64 10, .int .i64 2, .int .i64 2, .int .i64 3], vl, vt] w fun e w' => ∃ A c, e = .returned (.tuple #[.slice A 16 c, .int .i64 0]) ∧ Uses w' (.slice A 16 c) 16 aF aG ∧ Kept w w' := by
  refine (cntp_any 10 2 2 3 aL aT vl vt w hL hT).mono fun e w' h => ?_
  have h0 : cntE 10 2 2 3 aL aT = 0 := by decide +kernel
  have h1 : (segsF 10 2 2 3).toNat = 16 := by decide +kernel
  obtain ⟨x, he, h2, hk⟩ := h
  rcases h2 with ⟨-, hu⟩ | ⟨h3, -⟩
  · rw [h1] at hu
    obtain ⟨A, c, rfl⟩ := hu.shape
    rw [h0] at he
    exact ⟨A, c, he, hu, hk⟩
  · exact absurd h0 h3
theorem a_free (vu vb : Value) (w : World) (hU : Uses w vu 16 aF aG) (hL : Ints w vb [2]) :
    Calls Try.prog 14 #[.agg #[.int .i64 10, .int .i64 2, .int .i64 2, .int .i64 3], vu, vb, .int .i64 6] w (FreePost [6, 7, 1, 3, 4, 5] w) := by
  have h := free_yes 10 2 2 3 6 vu vb 16 aF aG [2] w hU hL (fun j hj => by
    obtain rfl : j = 0 := by simpa using hj
    decide) aF_bd (by decide +kernel)
  have e : onL aF [2] 6 (List.range ((10 : Int) - 2).toNat) ++ beL aF [2] 6 (List.range ((10 : Int) - 2).toNat) = [6, 7, 1, 3, 4, 5] := by decide +kernel
  rwa [e] at h
theorem a_empty1 (vu : Value) (w : World) (hU : Uses w vu 16 aF aG) :
    Calls Try.prog 23 #[.agg #[.int .i64 10, .int .i64 2, .int .i64 2, .int .i64 3], vu, .int .i64 1] w fun e w' => e = .returned (.bool true) ∧ Kept w w' := by
  have h := empty_yes 10 2 2 3 1 vu 16 aF aG w hU aF_bd (by decide +kernel) (by decide +kernel) (by decide) (by decide)
  rwa [show (vals (segsTo 10 2 2 3 2 16 16)).all (fun k => !liveOn 10 2 2 3 aF 1 k) = true by decide +kernel] at h
theorem a_empty0 (vu : Value) (w : World) (hU : Uses w vu 16 aF aG) :
    Calls Try.prog 23 #[.agg #[.int .i64 10, .int .i64 2, .int .i64 2, .int .i64 3], vu, .int .i64 0] w fun e w' => e = .returned (.bool false) ∧ Kept w w' := by
  have h := empty_yes 10 2 2 3 0 vu 16 aF aG w hU aF_bd (by decide +kernel) (by decide +kernel) (by decide) (by decide)
  rwa [show (vals (segsTo 10 2 2 3 2 16 16)).all (fun k => !liveOn 10 2 2 3 aF 0 k) = false by decide +kernel] at h
end Go.Proofs.Ytnpkoncflplpiaa
