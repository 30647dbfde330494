/- Nodes of a file: what is said of reach's functions. -/
import Derived.Test.YtepljgondmkljaaDoor8Num
namespace Go.Proofs.YtepljgondmkljaaDoor
set_option linter.unusedSimpArgs false
set_option linter.unusedVariables false
open Go.RowKit

theorem path_len (n : Nat) : 1 ≤ (pathOf n).length ∧ (pathOf n).length ≤ 4 := by
  unfold pathOf; split
  · simp
  · split
    · simp
    · split <;> simp
theorem number_yes (L : List Int) (m : Int) (h : numF L = some m) (v : Value) (w : World) (hL : Ints w v L) :
    Calls Tryd.prog 7 #[v] w fun e w' => e = .returned (.tuple #[.int .i64 m, .int .i64 0]) ∧ Kept w w' := by
  refine (number_any L v w hL).mono fun e w' hp => ?_
  unfold NumberPost at hp; rw [h] at hp; exact hp
theorem number_none (L : List Int) (h : numF L = none) (v : Value) (w : World) (hL : Ints w v L) :
    Calls Tryd.prog 7 #[v] w fun e w' => e = .returned (.tuple #[.int .i64 0, .int .i64 4]) ∧ Kept w w' := by
  refine (number_any L v w hL).mono fun e w' hp => ?_
  unfold NumberPost at hp; rw [h] at hp; exact hp
theorem block_yes (L : List Int) (m : Int) (h : blkF L = some m) (v : Value) (w : World) (hL : Ints w v L) (ht : Tab w) :
    Calls Tryd.prog 6 #[v] w fun e w' => e = .returned (.tuple #[.int .i64 m, .int .i64 0]) ∧ Kept w w' := by
  refine (block_any L v w hL ht).mono fun e w' hp => ?_
  unfold BlockPost at hp; rw [h] at hp; exact hp
theorem block_no (L : List Int) (h : blkF L = none) (v : Value) (w : World) (hL : Ints w v L) (ht : Tab w) :
    Calls Tryd.prog 6 #[v] w fun e w' => e = .returned (.tuple #[.int .i64 0, .int .i64 4]) ∧ Kept w w' := by
  refine (block_any L v w hL ht).mono fun e w' hp => ?_
  unfold BlockPost at hp; rw [h] at hp; exact hp
end Go.Proofs.YtepljgondmkljaaDoor
