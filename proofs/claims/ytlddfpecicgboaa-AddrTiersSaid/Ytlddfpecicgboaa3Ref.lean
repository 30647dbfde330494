/- The functions of package haymowref03 (the document's answer of layer 3), each by a contract. -/
import Derived.Test.YtlddfpecicgboaaAddr3
namespace Go.Proofs.Ytlddfpecicgboaa
open Go.RowKit

set_option maxHeartbeats 1000000 in
/-- ref.May -/
theorem rmay_any (d l v s : Int) (w : World) :
    Calls Try.prog 9 #[.agg #[.int .i64 d, .int .i64 l, .int .i64 v, .int .i64 s]] w fun e w' => e = .returned (.bool (mayB d l v s)) ∧ Kept w w' := by
  go_enter Try.func9, Try.ntmps9
  go_wp2
  all_goals
    go_ret
    refine ⟨ret_bool ?_, (by repeat (first | exact Kept.refl _ | assumption | refine Kept.alloc ?_ _ | refine Kept.drew ?_ | refine Kept.drewN ?_ _ | refine Kept.setCell ?_ (by simp; try omega) _ | refine Kept.trans ?_ (by assumption)))⟩
    try simp only [Bool.not_eq_true', Bool.not_eq_false', decide_eq_true_eq, decide_eq_false_iff_not] at *
    rw [Bool.eq_iff_iff]
    simp [mayB]
    try omega
theorem rmay_t (d l v s : Int) (w : World) (h : mayB d l v s = true) :
    Calls Try.prog 9 #[.agg #[.int .i64 d, .int .i64 l, .int .i64 v, .int .i64 s]] w fun e w' => e = .returned (.bool true) ∧ Kept w w' := by
  rw [← h]; exact rmay_any d l v s w
theorem rmay_f (d l v s : Int) (w : World) (h : mayB d l v s = false) :
    Calls Try.prog 9 #[.agg #[.int .i64 d, .int .i64 l, .int .i64 v, .int .i64 s]] w fun e w' => e = .returned (.bool false) ∧ Kept w w' := by
  rw [← h]; exact rmay_any d l v s w

/-- ref.Count, of a geometry that may be -/
theorem rcount_any (d l v s : Int) (w : World) (h : mayB d l v s = true) :
    Calls Try.prog 10 #[.agg #[.int .i64 d, .int .i64 l, .int .i64 v, .int .i64 s]] w fun e w' => e = .returned (.int .i64 (segsF d l v s)) ∧ Kept w w' := by
  obtain ⟨b1, b2, b3, b4, b5, b6, b7, b8⟩ := mayB_of h
  have hvs : segsF d l v s = d + v * s := by simp [segsF, h]
  have Hs := hid hvs
  clear hvs h
  go_enter Try.func10, Try.ntmps10
  go_wp2
  go_loop [3, 4] (fun n i => ∃ k : Int, 0 ≤ k ∧ k ≤ v ∧ i = .int .i64 k ∧ n = .int .i64 (d + k * s)) (fun _ i => (v - intOf i).toNat)
  case atStart => exact ⟨0, by omega, by omega, rfl, by simp⟩
  case round =>
    obtain ⟨k, hk0, hk1, rfl, rfl⟩ := hrel
    have hks := mul_bd k s hk0 (by omega) b5 b6
    by_cases hlt : k < v
    · have hks1 := mul_bd (k + 1) s (by omega) (by omega) b5 b6
      have HE : Hid ((k + 1) * s = k * s + s) := by rw [Hid, Int.add_mul]; omega
      rw [HE.out] at hks1
      go_wp2
      go_round
      case rel => exact ⟨k + 1, by omega, by omega, rfl, by rw [HE.out]; go_num⟩
      case measure => simp [intOf]; omega
    · go_wp2
      go_ret
      have : k = v := by omega
      subst this
      exact ⟨ret_int Hs.out.symm, (by repeat (first | exact Kept.refl _ | assumption | refine Kept.alloc ?_ _ | refine Kept.drew ?_ | refine Kept.drewN ?_ _ | refine Kept.setCell ?_ (by simp; try omega) _ | refine Kept.trans ?_ (by assumption)))⟩

theorem ofB_iff (d l v s pv ps po : Int) : ofB d l v s pv ps po = true ↔ -1 ≤ pv ∧ pv ≤ v - 1 ∧ 0 ≤ ps ∧ 0 ≤ po ∧ po ≤ 15 ∧ (pv < 0 → ps < d) ∧ (0 ≤ pv → ps < s) := by
  unfold ofB
  rw [decide_eq_true_eq]
  by_cases c : pv = -1
  · rw [if_pos c]; omega
  · rw [if_neg c]; omega

set_option maxHeartbeats 2000000 in
theorem rof_no (d l v s pv ps po : Int) (w : World) (hm : mayB d l v s = true) (hB : ofB d l v s pv ps po = false) :
    Calls Try.prog 21 #[.agg #[.int .i64 d, .int .i64 l, .int .i64 v, .int .i64 s], .agg #[.int .i64 pv, .int .i64 ps, .int .i64 po]] w fun e w' => e = .returned (.int .i64 0) ∧ Kept w w' := by
  obtain ⟨b1, b2, b3, b4, b5, b6, b7, b8⟩ := mayB_of hm
  have hn : ¬ (-1 ≤ pv ∧ pv ≤ v - 1 ∧ 0 ≤ ps ∧ 0 ≤ po ∧ po ≤ 15 ∧ (pv < 0 → ps < d) ∧ (0 ≤ pv → ps < s)) := by
    rw [← ofB_iff d l v s, hB]; simp
  have Hn := hid hn
  clear hm hB hn
  go_enter Try.func21, Try.ntmps21
  go_wp2_with fail
  all_goals first
    | (go_ret; exact ⟨rfl, (by repeat (first | exact Kept.refl _ | assumption | refine Kept.alloc ?_ _ | refine Kept.drew ?_ | refine Kept.drewN ?_ _ | refine Kept.setCell ?_ (by simp; try omega) _ | refine Kept.trans ?_ (by assumption)))⟩)
    | (exfalso; have := Hn.out; (try simp only [Bool.not_eq_true', Bool.not_eq_false', decide_eq_true_eq, decide_eq_false_iff_not] at *); exact this ⟨by omega, by omega, by omega, by omega, by omega, fun _ => by omega, fun _ => by omega⟩)

set_option maxHeartbeats 1000000 in
theorem rof_yes (d l v s pv ps po : Int) (w : World) (hm : mayB d l v s = true) (hB : ofB d l v s pv ps po = true) :
    Calls Try.prog 21 #[.agg #[.int .i64 d, .int .i64 l, .int .i64 v, .int .i64 s], .agg #[.int .i64 pv, .int .i64 ps, .int .i64 po]] w fun e w' => e = .returned (.int .i64 (ofA d s pv ps po)) ∧ Kept w w' := by
  obtain ⟨b1, b2, b3, b4, b5, b6, b7, b8⟩ := mayB_of hm
  obtain ⟨c1, c2, c3, c4, c5, c6, c7⟩ := (ofB_iff d l v s pv ps po).1 hB
  clear hm hB
  by_cases c0 : pv = -1
  · subst c0
    have c8 : ps < d := by omega
    clear c6 c7
    have HA : Hid (ofA d s (-1) ps po = 16 * ps + po + 1) := by simp [ofA, Hid]; omega
    rw [HA.out]; clear HA
    go_enter Try.func21, Try.ntmps21
    go_wp2
    refine wp_loop_once ?_
    go_wp2
    go_ret
    exact ⟨rfl, (by repeat (first | exact Kept.refl _ | assumption | refine Kept.alloc ?_ _ | refine Kept.drew ?_ | refine Kept.drewN ?_ _ | refine Kept.setCell ?_ (by simp; try omega) _ | refine Kept.trans ?_ (by assumption)))⟩
  · have c8 : 0 ≤ pv := by omega
    have c9 : ps < s := by omega
    have HA : Hid (ofA d s pv ps po = 16 * (ps + d + pv * s) + po + 1) := by simp [ofA, Hid, c0]; omega
    rw [HA.out]; clear HA c6 c7 c0
    go_enter Try.func21, Try.ntmps21
    go_wp2
    go_loop [5, 6] (fun n i => ∃ k : Int, 0 ≤ k ∧ k ≤ pv ∧ i = .int .i64 k ∧ n = .int .i64 (ps + d + k * s)) (fun _ i => (pv - intOf i).toNat)
    case atStart => exact ⟨0, by omega, by omega, rfl, by simp⟩
    case round =>
      obtain ⟨k, hk0, hk1, rfl, rfl⟩ := hrel
      have hks := mul_bd k s hk0 (by omega) b5 b6
      by_cases hlt : k < pv
      · have hks1 := mul_bd (k + 1) s (by omega) (by omega) b5 b6
        have HE : Hid ((k + 1) * s = k * s + s) := by rw [Hid, Int.add_mul]; omega
        rw [HE.out] at hks1
        go_wp2
        go_round
        case rel => exact ⟨k + 1, by omega, by omega, rfl, by rw [HE.out]; go_num⟩
        case measure => simp [intOf]; omega
      · go_wp2
        go_ret
        have : k = pv := by omega
        subst this
        exact ⟨rfl, (by repeat (first | exact Kept.refl _ | assumption | refine Kept.alloc ?_ _ | refine Kept.drew ?_ | refine Kept.drewN ?_ _ | refine Kept.setCell ?_ (by simp; try omega) _ | refine Kept.trans ?_ (by assumption)))⟩
end Go.Proofs.Ytlddfpecicgboaa
