/- Package reach: Path outside, Node, isIndex, Size, Block. -/
import Derived.Test.YtepljgondmkljaaDoor8Blk
namespace Go.Proofs.YtepljgondmkljaaDoor
set_option linter.unusedSimpArgs false
set_option linter.unusedVariables false
open Go.RowKit

theorem path_no (n : Int) (hn : n < 0 ∨ 3621 ≤ n) (w : World) : Calls Tryd.prog 10 #[.int .i64 n] w fun e w' => e = .returned (.tuple #[.slice none 0 0, .int .i64 4]) ∧ Kept w w' := by
  rcases hn with hn | hn
  · go_enter Tryd.func10, Tryd.ntmps10
    go_wp2
    go_step3
    go_wp2
    rw [Exit.noGoto_ret]
    go_ret2
    exact ⟨rfl, Kept.refl _⟩
  · have : 0 ≤ n := by omega
    go_enter Tryd.func10, Tryd.ntmps10
    go_wp2
    go_step3
    go_wp2
    rw [Exit.noGoto_ret]
    go_ret2
    exact ⟨rfl, Kept.refl _⟩

theorem index_t (i : Int) (h0 : 0 ≤ i) (h1 : i < 15) (w : World) : Calls Tryd.prog 14 #[.int .i64 i] w fun e w' => e = .returned (.bool true) ∧ w = w' := by
  go_enter Tryd.func14, Tryd.ntmps14
  go_wp2
  go_ret
  exact ⟨rfl, rfl⟩
theorem index_f (i : Int) (h : ¬ (0 ≤ i ∧ i < 15)) (w : World) : Calls Tryd.prog 14 #[.int .i64 i] w fun e w' => e = .returned (.bool false) ∧ w = w' := by
  by_cases h0 : 0 ≤ i
  · have h1 : 15 ≤ i := by omega
    clear h
    go_enter Tryd.func14, Tryd.ntmps14
    go_wp2
    go_ret
    exact ⟨ret_bool (by simp; omega), rfl⟩
  · clear h
    go_enter Tryd.func14, Tryd.ntmps14
    go_wp2
    go_ret
    exact ⟨rfl, rfl⟩


theorem node_no (n : Int) (hn : n < 0 ∨ 258 ≤ n) (w : World) : Calls Tryd.prog 5 #[.int .i64 n] w fun e w' => e = .returned (.tuple #[.slice none 0 0, .int .i64 4]) ∧ Kept w w' := by
  rcases hn with hn | hn
  · go_enter Tryd.func5, Tryd.ntmps5
    go_wp2
    go_ret2
    exact ⟨rfl, Kept.refl _⟩
  · have : 0 ≤ n := by omega
    go_enter Tryd.func5, Tryd.ntmps5
    go_wp2
    go_ret2
    exact ⟨rfl, Kept.refl _⟩

set_option maxHeartbeats 1000000 in
theorem node_any (n : Int) (h0 : 0 ≤ n) (hn : n < 258) (w : World) : Calls Tryd.prog 5 #[.int .i64 n] w fun e w' => ∃ v, e = .returned (.tuple #[v, .int .i64 0]) ∧ Ints w' v (nodeOf n.toNat) ∧ Kept w w' := by
  have HN : Hid (nodeOf n.toNat = if n < 3 then [6 + n] else if n < 18 then [7, n - 3] else if n < 33 then [8, n - 18] else [8, (n - 33) / 15, (n - 33) % 15]) := by
    obtain ⟨m, rfl⟩ := Int.eq_ofNat_of_zero_le h0
    rw [Hid, nodeOf]; simp only [Int.toNat_natCast]
    by_cases a : m < 3
    · rw [if_pos a, if_pos (by omega)]
    · rw [if_neg a, if_neg (show ¬ (m : Int) < 3 by omega)]
      by_cases b : m < 18
      · rw [if_pos b, if_pos (by omega)]
      · rw [if_neg b, if_neg (show ¬ (m : Int) < 18 by omega)]
        by_cases c : m < 33
        · rw [if_pos c, if_pos (by omega)]
        · rw [if_neg c, if_neg (show ¬ (m : Int) < 33 by omega)]
  by_cases h3 : n < 3
  · go_enter Tryd.func5, Tryd.ntmps5
    go_wp2
    go_ret2
    exact ⟨_, rfl, by rw [HN.out, if_pos h3]; exact ints_1 (by simp [go_sem]), (by repeat (first | exact Kept.refl _ | assumption | refine Kept.alloc ?_ _ | refine Kept.drew ?_ | refine Kept.drewN ?_ _ | refine Kept.setCell ?_ (by simp; try omega) _ | refine Kept.trans ?_ (by assumption)))⟩
  · by_cases h18 : n < 18
    · go_enter Tryd.func5, Tryd.ntmps5
      go_wp2
      go_ret2
      exact ⟨_, rfl, by rw [HN.out, if_neg (by omega), if_pos h18]; exact ints_2 (by simp [go_sem]) (by simp [go_sem]), (by repeat (first | exact Kept.refl _ | assumption | refine Kept.alloc ?_ _ | refine Kept.drew ?_ | refine Kept.drewN ?_ _ | refine Kept.setCell ?_ (by simp; try omega) _ | refine Kept.trans ?_ (by assumption)))⟩
    · by_cases h33 : n < 33
      · go_enter Tryd.func5, Tryd.ntmps5
        go_wp2
        go_ret2
        exact ⟨_, rfl, by rw [HN.out, if_neg (by omega), if_neg (by omega), if_pos h33]; exact ints_2 (by simp [go_sem]) (by simp [go_sem]), (by repeat (first | exact Kept.refl _ | assumption | refine Kept.alloc ?_ _ | refine Kept.drew ?_ | refine Kept.drewN ?_ _ | refine Kept.setCell ?_ (by simp; try omega) _ | refine Kept.trans ?_ (by assumption)))⟩
      · go_enter Tryd.func5, Tryd.ntmps5
        go_wp2
        go_ret2
        exact ⟨_, rfl, by rw [HN.out, if_neg (by omega), if_neg (by omega), if_neg (by omega)]; exact ints_3 (by simp [go_sem]) (by simp [go_sem]) (by simp [go_sem]), (by repeat (first | exact Kept.refl _ | assumption | refine Kept.alloc ?_ _ | refine Kept.drew ?_ | refine Kept.drewN ?_ _ | refine Kept.setCell ?_ (by simp; try omega) _ | refine Kept.trans ?_ (by assumption)))⟩
end Go.Proofs.YtepljgondmkljaaDoor
