/- Paths, by plain numbers: no program in sight. -/
import Derived.Test.YtcloijjiemlbdaaDoor8Next
namespace Go.Proofs.YtcloijjiemlbdaaDoor
set_option linter.unusedSimpArgs false
set_option linter.unusedVariables false
open Go.RowKit

/-- the path of block n -/
def pathOf (n : Nat) : List Int :=
  if n < 6 then [(n : Int)] else if n < 21 then [6, ((n - 6 : Nat) : Int)] else if n < 246 then [7, (((n - 21) / 15 : Nat) : Int), (((n - 21) % 15 : Nat) : Int)]
  else [8, (((n - 246) / 225 : Nat) : Int), (((n - 246) / 15 % 15 : Nat) : Int), (((n - 246) % 15 : Nat) : Int)]
/-- what is behind it; nothing behind the last one -/
def nextOf (n : Nat) : List Int := if n < 3620 then pathOf (n + 1) else []

theorem path_a (n : Nat) (h : n < 6) : pathOf n = [(n : Int)] := by simp [pathOf, h]
theorem path_b (n : Nat) (h : 6 ≤ n) (h' : n < 21) : pathOf n = [6, ((n - 6 : Nat) : Int)] := by simp [pathOf, show ¬ n < 6 by omega, h']
theorem path_c (n : Nat) (h : 21 ≤ n) (h' : n < 246) : pathOf n = [7, (((n - 21) / 15 : Nat) : Int), (((n - 21) % 15 : Nat) : Int)] := by simp [pathOf, show ¬ n < 6 by omega, show ¬ n < 21 by omega, h']
theorem path_d (n : Nat) (h : 246 ≤ n) : pathOf n = [8, (((n - 246) / 225 : Nat) : Int), (((n - 246) / 15 % 15 : Nat) : Int), (((n - 246) % 15 : Nat) : Int)] := by
  simp [pathOf, show ¬ n < 6 by omega, show ¬ n < 21 by omega, show ¬ n < 246 by omega]

/-- ref.Next of a block's path -/
theorem next_path (n : Nat) (hn : n < 3621) (v : Value) (w : World) (hL : Ints w v (pathOf n)) :
    Calls Tryd.prog 26 #[v] w (NextPost (nextOf n) w) := by
  by_cases h6 : n < 6
  · rw [path_a n h6] at hL
    by_cases h5 : n < 5
    · have e : nextOf n = [(n : Int) + 1] := by rw [nextOf, if_pos (by omega), path_a _ (by omega)]; simp
      rw [e]; exact next_1 _ v w hL (by omega) (by omega)
    · obtain rfl : n = 5 := by omega
      have e : nextOf 5 = [6, 0] := by decide
      rw [e]; exact next_5 v w hL
  · by_cases h21 : n < 21
    · rw [path_b n (by omega) h21] at hL
      by_cases h20 : n < 20
      · have e : nextOf n = [6, ((n - 6 : Nat) : Int) + 1] := by rw [nextOf, if_pos (by omega), path_b _ (by omega) (by omega)]; simp; omega
        rw [e]; exact next_2a _ _ v w hL (by omega) (by omega) (by omega) (by omega)
      · obtain rfl : n = 20 := by omega
        have e : nextOf 20 = [6 + 1, 0, 0] := by decide
        rw [e]; exact next_2b 6 v w hL (by omega) (by omega) (by decide)
    · by_cases h246 : n < 246
      · rw [path_c n (by omega) h246] at hL
        obtain ⟨m, rfl⟩ : ∃ m, n = m + 21 := ⟨n - 21, by omega⟩
        simp only [Nat.add_sub_cancel] at hL
        by_cases hc : m % 15 < 14
        · have e : nextOf (m + 21) = [7, ((m / 15 : Nat) : Int), ((m % 15 : Nat) : Int) + 1] := by
            rw [nextOf, if_pos (by omega), path_c _ (by omega) (by omega), show m + 21 + 1 - 21 = m + 1 by omega, show (m + 1) / 15 = m / 15 by omega, show (m + 1) % 15 = m % 15 + 1 by omega]; rfl
          rw [e]; exact next_3a _ _ _ v w hL (by omega) (by omega) (by omega) (by omega)
        · have e14 : ((m % 15 : Nat) : Int) = 14 := by omega
          rw [e14] at hL
          by_cases hb : m / 15 < 14
          · have e : nextOf (m + 21) = [7, ((m / 15 : Nat) : Int) + 1, 0] := by
              rw [nextOf, if_pos (by omega), path_c _ (by omega) (by omega), show m + 21 + 1 - 21 = m + 1 by omega, show (m + 1) / 15 = m / 15 + 1 by omega, show (m + 1) % 15 = 0 by omega]; rfl
            rw [e]; exact next_3b _ _ v w hL (by omega) (by omega) (by omega) (by omega)
          · obtain rfl : m = 224 := by omega
            have e : nextOf (224 + 21) = [7 + 1, 0, 0, 0] := by decide
            rw [e]; exact next_3c 7 v w hL (by omega) (by omega) (by decide)
      · rw [path_d n (by omega)] at hL
        obtain ⟨m, rfl⟩ : ∃ m, n = m + 246 := ⟨n - 246, by omega⟩
        simp only [Nat.add_sub_cancel] at hL
        by_cases hd : m % 15 < 14
        · have e : nextOf (m + 246) = [8, ((m / 225 : Nat) : Int), ((m / 15 % 15 : Nat) : Int), ((m % 15 : Nat) : Int) + 1] := by
            rw [nextOf, if_pos (by omega), path_d _ (by omega), show m + 246 + 1 - 246 = m + 1 by omega, show (m + 1) / 225 = m / 225 by omega, show (m + 1) / 15 = m / 15 by omega, show (m + 1) % 15 = m % 15 + 1 by omega]; rfl
          rw [e]; exact next_4a _ _ _ _ v w hL (by omega) (by omega) (by omega) (by omega)
        · have e14 : ((m % 15 : Nat) : Int) = 14 := by omega
          rw [e14] at hL
          by_cases hc : m / 15 % 15 < 14
          · have e : nextOf (m + 246) = [8, ((m / 225 : Nat) : Int), ((m / 15 % 15 : Nat) : Int) + 1, 0] := by
              rw [nextOf, if_pos (by omega), path_d _ (by omega), show m + 246 + 1 - 246 = m + 1 by omega, show (m + 1) / 225 = m / 225 by omega, show (m + 1) / 15 % 15 = m / 15 % 15 + 1 by omega, show (m + 1) % 15 = 0 by omega]; rfl
            rw [e]; exact next_4b _ _ _ v w hL (by omega) (by omega) (by omega) (by omega)
          · have e14' : ((m / 15 % 15 : Nat) : Int) = 14 := by omega
            rw [e14'] at hL
            by_cases hb : m / 225 < 14
            · have e : nextOf (m + 246) = [8, ((m / 225 : Nat) : Int) + 1, 0, 0] := by
                rw [nextOf, if_pos (by omega), path_d _ (by omega), show m + 246 + 1 - 246 = m + 1 by omega, show (m + 1) / 225 = m / 225 + 1 by omega, show (m + 1) / 15 % 15 = 0 by omega, show (m + 1) % 15 = 0 by omega]; rfl
              rw [e]; exact next_4c _ _ v w hL (by omega) (by omega) (by omega) (by omega)
            · obtain rfl : m = 3374 := by omega
              have e : nextOf (3374 + 246) = [] := by decide
              rw [e]; exact next_4d v w hL

theorem pathOf_inj (n m : Nat) (hn : n < 3621) (hm : m < 3621) (h : pathOf n = pathOf m) : n = m := by
  unfold pathOf at h
  split at h <;> split at h <;> (try split at h) <;> (try split at h) <;> (try split at h) <;> (try split at h) <;> simp at h <;> omega
theorem pathOf_ne (n : Nat) : pathOf n ≠ [] := by
  unfold pathOf
  split
  · simp
  · split
    · simp
    · split <;> simp
end Go.Proofs.YtcloijjiemlbdaaDoor
