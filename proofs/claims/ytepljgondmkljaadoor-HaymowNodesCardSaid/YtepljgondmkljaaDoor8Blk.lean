/- The block of a path, by plain numbers. -/
import Derived.Test.YtepljgondmkljaaDoor8Reach
namespace Go.Proofs.YtepljgondmkljaaDoor
set_option linter.unusedSimpArgs false
set_option linter.unusedVariables false
open Go.RowKit

def manyOf (t : Int) : Int := if t < 6 then 1 else if t = 6 then 15 else if t = 7 then 225 else 3375
def blkGo (many n : Int) : List Int → Option Int
  | [] => if many = 1 then some n else none
  | i :: r => if many = 1 then none else if 0 ≤ i ∧ i < 15 then blkGo (many / 15) (n + i * (many / 15)) r else none
def blkF : List Int → Option Int
  | [] => none
  | t :: r => if 0 ≤ t ∧ t < 9 then blkGo (manyOf t) (preOf t) r else none

theorem blkGo_one (n : Int) (L : List Int) (m : Int) : blkGo 1 n L = some m ↔ L = [] ∧ m = n := by
  cases L with
  | nil => simp [blkGo, eq_comm]
  | cons a r => simp [blkGo]
theorem blkGo_15 (n : Int) (L : List Int) (m : Int) : blkGo 15 n L = some m ↔ ∃ a, 0 ≤ a ∧ a < 15 ∧ L = [a] ∧ m = n + a := by
  cases L with
  | nil => simp [blkGo]
  | cons a r =>
    by_cases h : 0 ≤ a ∧ a < 15
    · have : blkGo 15 n (a :: r) = blkGo 1 (n + a * 1) r := by simp [blkGo, h]
      rw [this, blkGo_one]
      constructor
      · rintro ⟨rfl, rfl⟩; exact ⟨a, h.1, h.2, rfl, by omega⟩
      · rintro ⟨b, -, -, hb, rfl⟩
        injection hb with h1 h2
        exact ⟨h2, by omega⟩
    · have : blkGo 15 n (a :: r) = none := by simp [blkGo, h]
      rw [this]
      constructor
      · intro h; cases h
      · rintro ⟨b, h1, h2, hb, -⟩
        injection hb with h3 h4
        exact absurd ⟨by omega, by omega⟩ h
theorem blkGo_225 (n : Int) (L : List Int) (m : Int) : blkGo 225 n L = some m ↔ ∃ a b, 0 ≤ a ∧ a < 15 ∧ 0 ≤ b ∧ b < 15 ∧ L = [a, b] ∧ m = n + a * 15 + b := by
  cases L with
  | nil => simp [blkGo]
  | cons a r =>
    by_cases h : 0 ≤ a ∧ a < 15
    · have : blkGo 225 n (a :: r) = blkGo 15 (n + a * 15) r := by simp [blkGo, h]
      rw [this, blkGo_15]
      constructor
      · rintro ⟨b, h1, h2, rfl, rfl⟩; exact ⟨a, b, h.1, h.2, h1, h2, rfl, rfl⟩
      · rintro ⟨a', b, -, -, h1, h2, hb, rfl⟩
        injection hb with h3 h4
        subst h3
        exact ⟨b, h1, h2, h4, rfl⟩
    · have : blkGo 225 n (a :: r) = none := by simp [blkGo, h]
      rw [this]
      constructor
      · intro h; cases h
      · rintro ⟨a', b, h1, h2, -, -, hb, -⟩
        injection hb with h3 h4
        exact absurd ⟨by omega, by omega⟩ h
theorem blkGo_3375 (n : Int) (L : List Int) (m : Int) : blkGo 3375 n L = some m ↔ ∃ a b c, 0 ≤ a ∧ a < 15 ∧ 0 ≤ b ∧ b < 15 ∧ 0 ≤ c ∧ c < 15 ∧ L = [a, b, c] ∧ m = n + a * 225 + b * 15 + c := by
  cases L with
  | nil => simp [blkGo]
  | cons a r =>
    by_cases h : 0 ≤ a ∧ a < 15
    · have : blkGo 3375 n (a :: r) = blkGo 225 (n + a * 225) r := by simp [blkGo, h]
      rw [this, blkGo_225]
      constructor
      · rintro ⟨b, c, h1, h2, h3, h4, rfl, rfl⟩; exact ⟨a, b, c, h.1, h.2, h1, h2, h3, h4, rfl, rfl⟩
      · rintro ⟨a', b, c, -, -, h1, h2, h3, h4, hb, rfl⟩
        injection hb with h5 h6
        subst h5
        exact ⟨b, c, h1, h2, h3, h4, h6, rfl⟩
    · have : blkGo 3375 n (a :: r) = none := by simp [blkGo, h]
      rw [this]
      constructor
      · intro h; cases h
      · rintro ⟨a', b, c, h1, h2, -, -, -, -, hb, -⟩
        injection hb with h3 h4
        exact absurd ⟨by omega, by omega⟩ h

/-- the block of a path is the block whose path it is -/
theorem blkF_iff (L : List Int) (m : Int) : blkF L = some m ↔ ∃ n : Nat, n < 3621 ∧ pathOf n = L ∧ m = n := by
  constructor
  · intro h
    match L, h with
    | t :: r, h =>
      unfold blkF at h
      dsimp only at h
      by_cases ht : 0 ≤ t ∧ t < 9
      · rw [if_pos ht] at h
        rcases (show t < 6 ∨ t = 6 ∨ t = 7 ∨ t = 8 by omega) with h6 | rfl | rfl | rfl
        · rw [show manyOf t = 1 by simp [manyOf, h6], blkGo_one, show preOf t = t by unfold preOf; rw [if_pos (by omega)]] at h
          obtain ⟨rfl, rfl⟩ := h
          exact ⟨m.toNat, by omega, by rw [path_a _ (by omega)]; congr 1; omega, by omega⟩
        · rw [show manyOf 6 = 15 by decide, blkGo_15, show preOf 6 = 6 by decide] at h
          obtain ⟨a, h1, h2, rfl, rfl⟩ := h
          exact ⟨(6 + a).toNat, by omega, by rw [path_b _ (by omega) (by omega)]; congr 2; omega, by omega⟩
        · rw [show manyOf 7 = 225 by decide, blkGo_225, show preOf 7 = 21 by decide] at h
          obtain ⟨a, b, h1, h2, h3, h4, rfl, rfl⟩ := h
          exact ⟨(21 + a * 15 + b).toNat, by omega, by rw [path_c _ (by omega) (by omega)]; congr 2 <;> (try congr 1) <;> omega, by omega⟩
        · rw [show manyOf 8 = 3375 by decide, blkGo_3375, show preOf 8 = 246 by decide] at h
          obtain ⟨a, b, c, h1, h2, h3, h4, h5, h6, rfl, rfl⟩ := h
          exact ⟨(246 + a * 225 + b * 15 + c).toNat, by omega, by rw [path_d _ (by omega)]; congr 2 <;> (try congr 1) <;> (try congr 1) <;> omega, by omega⟩
      · rw [if_neg ht] at h; cases h
  · rintro ⟨n, hn, rfl, rfl⟩
    by_cases h6 : n < 6
    · rw [path_a n h6, blkF, if_pos (by omega), show manyOf (n : Int) = 1 by unfold manyOf; rw [if_pos (by omega)], blkGo_one]
      exact ⟨rfl, by unfold preOf; rw [if_pos (by omega)]⟩
    · by_cases h21 : n < 21
      · rw [path_b n (by omega) h21, blkF, if_pos (by omega), show manyOf 6 = 15 by decide, blkGo_15, show preOf 6 = 6 by decide]
        exact ⟨_, by omega, by omega, rfl, by omega⟩
      · by_cases h246 : n < 246
        · rw [path_c n (by omega) h246, blkF, if_pos (by omega), show manyOf 7 = 225 by decide, blkGo_225, show preOf 7 = 21 by decide]
          exact ⟨_, _, by omega, by omega, by omega, by omega, rfl, by omega⟩
        · rw [path_d n (by omega), blkF, if_pos (by omega), show manyOf 8 = 3375 by decide, blkGo_3375, show preOf 8 = 246 by decide]
          exact ⟨_, _, _, by omega, by omega, by omega, by omega, by omega, by omega, rfl, by omega⟩
end Go.Proofs.YtepljgondmkljaaDoor
