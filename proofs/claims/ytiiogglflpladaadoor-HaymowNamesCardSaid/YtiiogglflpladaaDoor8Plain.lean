/- Paths, by plain numbers: no program in sight. -/
import Derived.Test.YtiiogglflpladaaDoor8Next
namespace Go.Proofs.YtiiogglflpladaaDoor
set_option linter.unusedSimpArgs false
set_option linter.unusedVariables false
open Go.RowKit

/-- the path of block n -/
def pathOf (n : Nat) : List Int :=
  if n < 6 then [(n : Int)] else if n < 21 then [6, ((n - 6 : Nat) : Int)] else if n < 246 then [7, (((n - 21) / 15 : Nat) : Int), (((n - 21) % 15 : Nat) : Int)]
  else [8, (((n - 246) / 225 : Nat) : Int), (((n - 246) / 15 % 15 : Nat) : Int), (((n - 246) % 15 : Nat) : Int)]
/-- what is behind it; nothing behind the last one -/
def nextOf (n : Nat) : List Int := if n < 3620 then pathOf (n + 1) else []

theorem path_a (n : Nat) (h : n < 6) : pathOf n = [(n : Int)] := by simp [pathOf, h]
theorem path_b (n : Nat) (h : 6 ≤ n) (h' : n < 21) : pathOf n = [6, ((n - 6 : Nat) : Int)] := by simp [pathOf, show ¬ n < 6 by omega, h']
theorem path_c (n : Nat) (h : 21 ≤ n) (h' : n < 246) : pathOf n = [7, (((n - 21) / 15 : Nat) : Int), (((n - 21) % 15 : Nat) : Int)] := by simp [pathOf, show ¬ n < 6 by omega, show ¬ n < 21 by omega, h']
theorem path_d (n : Nat) (h : 246 ≤ n) : pathOf n = [8, (((n - 246) / 225 : Nat) : Int), (((n - 246) / 15 % 15 : Nat) : Int), (((n - 246) % 15 : Nat) : Int)] := by
  simp [pathOf, show ¬ n < 6 by omega, show ¬ n < 21 by omega, show ¬ n < 246 by omega]

theorem pathOf_inj (n m : Nat) (hn : n < 3621) (hm : m < 3621) (h : pathOf n = pathOf m) : n = m := by
  unfold pathOf at h
  split at h <;> split at h <;> (try split at h) <;> (try split at h) <;> (try split at h) <;> (try split at h) <;> simp at h <;> omega
theorem pathOf_ne (n : Nat) : pathOf n ≠ [] := by
  unfold pathOf
  split
  · simp
  · split
    · simp
    · split <;> simp
end Go.Proofs.YtiiogglflpladaaDoor
