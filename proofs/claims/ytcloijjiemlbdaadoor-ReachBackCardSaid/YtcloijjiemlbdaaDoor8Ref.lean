/- haymowref08: Path, Block, Node, Number. -/
import Derived.Test.YtcloijjiemlbdaaDoor8Plain
namespace Go.Proofs.YtcloijjiemlbdaaDoor
set_option linter.unusedSimpArgs false
set_option linter.unusedVariables false
open Go.RowKit

/-- the name of a node -/
def nodeOf (k : Nat) : List Int :=
  if k < 3 then [6 + (k : Int)] else if k < 18 then [7, (k : Int) - 3] else if k < 33 then [8, (k : Int) - 18] else [8, ((k : Int) - 33) / 15, ((k : Int) - 33) % 15]
theorem nodeOf_inj (n m : Nat) (hn : n < 258) (hm : m < 258) (h : nodeOf n = nodeOf m) : n = m := by
  unfold nodeOf at h
  split at h <;> split at h <;> (try split at h) <;> (try split at h) <;> (try split at h) <;> (try split at h) <;> simp at h <;> omega

theorem ints_1 {w : World} {a : Int} {g : Nat} (h0 : w.cell? ⟨g, 0, none⟩ = some (.int .i64 a)) : Ints w (.slice (some ⟨g, 0, none⟩) 1 1) [a] :=
  ints_cells (by simp) (by omega) (by omega) fun i hi => by
    match i, hi with
    | 0, _ => simpa using h0
theorem ints_2 {w : World} {a b : Int} {g : Nat} (h0 : w.cell? ⟨g, 0, none⟩ = some (.int .i64 a)) (h1 : w.cell? ⟨g, 1, none⟩ = some (.int .i64 b)) : Ints w (.slice (some ⟨g, 0, none⟩) 2 2) [a, b] :=
  ints_cells (by simp) (by omega) (by omega) fun i hi => by
    match i, hi with
    | 0, _ => simpa using h0
    | 1, _ => simpa using h1
theorem ints_3 {w : World} {a b c : Int} {g : Nat} (h0 : w.cell? ⟨g, 0, none⟩ = some (.int .i64 a)) (h1 : w.cell? ⟨g, 1, none⟩ = some (.int .i64 b)) (h2 : w.cell? ⟨g, 2, none⟩ = some (.int .i64 c)) :
    Ints w (.slice (some ⟨g, 0, none⟩) 3 3) [a, b, c] :=
  ints_cells (by simp) (by omega) (by omega) fun i hi => by
    match i, hi with
    | 0, _ => simpa using h0
    | 1, _ => simpa using h1
    | 2, _ => simpa using h2

set_option maxHeartbeats 1000000 in
theorem rnode_any (k : Nat) (hk : k < 258) (w : World) : Calls Tryd.prog 17 #[.int .i64 k] w (NextPost (nodeOf k) w) := by
  have HN : Hid (nodeOf k = if k < 3 then [6 + (k : Int)] else if k < 18 then [7, (k : Int) - 3] else if k < 33 then [8, (k : Int) - 18] else [8, ((k : Int) - 33) / 15, ((k : Int) - 33) % 15]) := rfl
  go_enter Tryd.func17, Tryd.ntmps17
  go_wp2
  go_loop [3, 4] (fun i t => ∃ j : Int, 0 ≤ j ∧ j ≤ 3 ∧ j ≤ k ∧ i = .int .i64 j ∧ t = .int .i64 (j + 6)) (fun i _ => (3 - intOf i).toNat)
  case atStart => exact ⟨0, by omega, by omega, by omega, rfl, rfl⟩
  case round =>
    obtain ⟨j, hj0, hj1, hj2, rfl, rfl⟩ := hrel
    by_cases hlt : j < 3
    · by_cases hjk : j = (k : Int)
      · have heq : (j == (k : Int)) = true := by simpa using hjk
        have HJ := hid hjk; clear hjk
        go_wp2
        go_ret
        refine ⟨_, rfl, ?_, (by repeat (first | exact Kept.refl _ | assumption | refine Kept.alloc ?_ _ | refine Kept.drew ?_ | refine Kept.drewN ?_ _ | refine Kept.setCell ?_ (by simp; try omega) _ | refine Kept.trans ?_ (by assumption)))⟩
        rw [HN.out, if_pos (by have := HJ.out; omega)]
        exact ints_1 (by rw [← HJ.out]; simp [go_sem]; omega)
      · have heq : (j == (k : Int)) = false := by simpa using hjk
        have hjk2 : j + 1 ≤ (k : Int) := by omega
        clear hjk
        go_wp2
        go_round
        case rel => exact ⟨j + 1, by omega, by omega, by omega, by go_num, by go_num⟩
        case measure => simp [intOf]; omega
    · obtain rfl : j = 3 := by omega
      go_wp2
      go_loop [3, 5] (fun i t => ∃ j : Int, 0 ≤ j ∧ j ≤ 2 ∧ 3 + 15 * j ≤ k ∧ i = .int .i64 (3 + 15 * j) ∧ t = .int .i64 (j + 7)) (fun _ t => (9 - intOf t).toNat)
      case atStart => exact ⟨0, by omega, by omega, by omega, rfl, rfl⟩
      case round =>
        obtain ⟨t, ht0, ht1, ht2, rfl, rfl⟩ := hrel
        by_cases hlt2 : t < 2
        · go_wp2
          go_loop [3, 6] (fun i x => ∃ a : Int, 0 ≤ a ∧ a ≤ 15 ∧ 3 + 15 * t + a ≤ k ∧ i = .int .i64 (3 + 15 * t + a) ∧ x = .int .i64 a) (fun _ x => (15 - intOf x).toNat)
          case atStart => exact ⟨0, by omega, by omega, by omega, by go_num, rfl⟩
          case round =>
            obtain ⟨a, ha0, ha1, ha2, rfl, rfl⟩ := hrel
            by_cases hlt3 : a < 15
            · by_cases hjk : 3 + 15 * t + a = (k : Int)
              · have heq : (3 + 15 * t + a == (k : Int)) = true := by simpa using hjk
                have HJ := hid hjk; clear hjk
                go_wp2
                go_ret
                refine ⟨_, rfl, ?_, (by repeat (first | exact Kept.refl _ | assumption | refine Kept.alloc ?_ _ | refine Kept.drew ?_ | refine Kept.drewN ?_ _ | refine Kept.setCell ?_ (by simp; try omega) _ | refine Kept.trans ?_ (by assumption)))⟩
                by_cases h18 : k < 18
                · rw [HN.out, if_neg (by have := HJ.out; omega), if_pos h18]
                  have : t = 0 := by have := HJ.out; omega
                  subst this
                  exact ints_2 (by simp [go_sem]) (by rw [← HJ.out]; simp [go_sem]; omega)
                · rw [HN.out, if_neg (by have := HJ.out; omega), if_neg h18, if_pos (by have := HJ.out; omega)]
                  have : t = 1 := by have := HJ.out; omega
                  subst this
                  exact ints_2 (by simp [go_sem]) (by rw [← HJ.out]; simp [go_sem]; omega)
              · have heq : (3 + 15 * t + a == (k : Int)) = false := by simpa using hjk
                have hjk2 : 3 + 15 * t + a + 1 ≤ (k : Int) := by omega
                clear hjk
                go_wp2
                go_round
                case rel => exact ⟨a + 1, by omega, by omega, by omega, by go_num, by go_num⟩
                case measure => simp [intOf]; omega
            · obtain rfl : a = 15 := by omega
              go_wp2
              go_round
              case rel => exact ⟨t + 1, by omega, by omega, by omega, by go_num, by go_num⟩
              case measure => simp [intOf]; omega
        · obtain rfl : t = 2 := by omega
          go_wp2
          go_loop [3, 7] (fun i x => ∃ a : Int, 0 ≤ a ∧ a ≤ 15 ∧ 33 + 15 * a ≤ k ∧ i = .int .i64 (33 + 15 * a) ∧ x = .int .i64 a) (fun _ x => (15 - intOf x).toNat)
          case atStart => exact ⟨0, by omega, by omega, by omega, rfl, rfl⟩
          case round =>
            obtain ⟨a, ha0, ha1, ha2, rfl, rfl⟩ := hrel
            by_cases hlt3 : a < 15
            · go_wp2
              go_loop [3, 8] (fun i x => ∃ b : Int, 0 ≤ b ∧ b ≤ 15 ∧ 33 + 15 * a + b ≤ k ∧ i = .int .i64 (33 + 15 * a + b) ∧ x = .int .i64 b) (fun _ x => (15 - intOf x).toNat)
              case atStart => exact ⟨0, by omega, by omega, by omega, by go_num, rfl⟩
              case round =>
                obtain ⟨b, hb0, hb1, hb2, rfl, rfl⟩ := hrel
                by_cases hlt4 : b < 15
                · by_cases hjk : 33 + 15 * a + b = (k : Int)
                  · have heq : (33 + 15 * a + b == (k : Int)) = true := by simpa using hjk
                    have HJ := hid hjk; clear hjk
                    go_wp2
                    go_ret
                    refine ⟨_, rfl, ?_, (by repeat (first | exact Kept.refl _ | assumption | refine Kept.alloc ?_ _ | refine Kept.drew ?_ | refine Kept.drewN ?_ _ | refine Kept.setCell ?_ (by simp; try omega) _ | refine Kept.trans ?_ (by assumption)))⟩
                    have hk33 : ¬ k < 33 := by have := HJ.out; omega
                    rw [HN.out, if_neg (by omega), if_neg (by omega), if_neg hk33]
                    have e1 : ((k : Int) - 33) / 15 = a := by have := HJ.out; omega
                    have e2 : ((k : Int) - 33) % 15 = b := by have := HJ.out; omega
                    rw [e1, e2]
                    exact ints_3 (by simp [go_sem]) (by simp [go_sem]) (by simp [go_sem])
                  · have heq : (33 + 15 * a + b == (k : Int)) = false := by simpa using hjk
                    have hjk2 : 33 + 15 * a + b + 1 ≤ (k : Int) := by omega
                    clear hjk
                    go_wp2
                    go_round
                    case rel => exact ⟨b + 1, by omega, by omega, by omega, by go_num, by go_num⟩
                    case measure => simp [intOf]; omega
                · obtain rfl : b = 15 := by omega
                  go_wp2
                  go_round
                  case rel => exact ⟨a + 1, by omega, by omega, by omega, by go_num, by go_num⟩
                  case measure => simp [intOf]; omega
            · exfalso; omega
end Go.Proofs.YtcloijjiemlbdaaDoor
