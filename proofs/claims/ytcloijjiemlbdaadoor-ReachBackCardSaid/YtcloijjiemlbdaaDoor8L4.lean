/- ReachOn: the walk. -/
import Derived.Test.YtcloijjiemlbdaaDoor8On
namespace Go.Proofs.YtcloijjiemlbdaaDoor
set_option linter.unusedSimpArgs false
set_option linter.unusedVariables false
open Go.RowKit

theorem nodes_yes (L : List Int) (h : InAll L) (v : Value) (w : World) (hL : Ints w v L) (ht : Tab w) : Calls Tryd.prog 23 #[v] w
    fun e w' => ∃ v, e = .returned (.tuple #[v, .int .i64 0]) ∧ Ints w' v (upTo (onAll L) 258) ∧ Kept w w' := by
  refine (nodes_all L v w hL ht).mono fun e w' hp => ?_
  obtain ⟨⟨-, v, he, hi⟩ | ⟨hn, -⟩, hk⟩ := hp
  · exact ⟨v, he, hi, hk⟩
  · exact absurd h hn
theorem nodes_none (L : List Int) (h : ¬ InAll L) (v : Value) (w : World) (hL : Ints w v L) (ht : Tab w) : Calls Tryd.prog 23 #[v] w
    fun e w' => e = .returned (.tuple #[.slice none 0 0, .int .i64 4]) ∧ Kept w w' := by
  refine (nodes_all L v w hL ht).mono fun e w' hp => ?_
  obtain ⟨⟨hy, -⟩ | ⟨-, he⟩, hk⟩ := hp
  · exact absurd hy h
  · exact ⟨he, hk⟩

set_option maxRecDepth 100000 in
set_option maxHeartbeats 1000000 in
theorem on_short_in (w : World) (A : Option Addr) (N c : Nat) (hN : (N : Int) ≤ 9) (M : List Int) (HL : Hid (Ints w (.slice A N c) M)) (HM : Hid (M.length = N)) (HIN : Hid (InAll M)) (HT : Hid (Tab w)) :
    Calls Tryd.prog 6 #[.slice A N c] w fun e w' => e = .returned (.bool true) ∧ Kept w w' := by
  have HNO := hid (nodes_yes M HIN.out)
  go_enter Tryd.func6, Tryd.ntmps6
  go_wp2_with (go_at_call 23; refine (HNO.out _ _ HL.out HT.out).mono ?_; rintro e w1 ⟨v1, rfl, g1, k1⟩; have G1 := hid g1; clear g1)
  go_loop [5] (fun t => ∃ i : Nat, i ≤ N ∧ t = .int .i64 i) (fun t => (N - intOf t).toNat)
  case atStart => exact ⟨0, by omega, rfl⟩
  case round =>
    obtain ⟨i, hi, rfl⟩ := hrel
    by_cases hlt : i < N
    · obtain ⟨b, o, rfl, hcl⟩ := HL.out.cells (by omega)
      have hci := k1.keeps (hcl i hlt)
      clear hcl
      obtain ⟨n, hn⟩ : ∃ n, M.getD i 0 = n := ⟨_, rfl⟩
      rw [hn] at hci
      obtain ⟨hb0, hb1⟩ := HIN.out n (by rw [← hn, List.getD_eq_getElem?_getD, List.getElem?_eq_getElem (by rw [HM.out]; exact hlt)]; exact List.getElem_mem _)
      clear hn
      go_wp2
      go_round
      case rel => exact ⟨i + 1, by omega, by go_num⟩
      case measure => simp [intOf]; omega
    · obtain rfl : i = N := by omega
      go_wp2_with (first
        | (go_at_call 25; (with_reducible refine (on_all M _ _ (Kept.ints k1 HL.out) HIN.out).mono ?_); rintro e w2 ⟨rfl, f2, k2⟩; have F2 := hid f2; clear f2)
        | (go_at_call 24; (with_reducible refine (numbers_all _ _ _ F2.out).mono ?_); rintro e w3 ⟨v3, rfl, g3, k3⟩; have G3 := hid g3; clear g3)
        | (go_at_call 18; (with_reducible refine (same_t _ _ _ _ _ (Kept.ints ?_ G1.out) G3.out rfl).mono ?_); exact (by repeat (first | exact Kept.refl _ | assumption | refine Kept.alloc ?_ _ | refine Kept.drew ?_ | refine Kept.drewN ?_ _ | refine Kept.setCell ?_ (by simp; try omega) _ | refine Kept.trans ?_ (by assumption))); rintro e w4 ⟨rfl, k4⟩)
        | (go_at_call 12; refine (awake_any _ (Kept.tab (by repeat (first | exact Kept.refl _ | assumption | refine Kept.alloc ?_ _ | refine Kept.drew ?_ | refine Kept.drewN ?_ _ | refine Kept.setCell ?_ (by simp; try omega) _ | refine Kept.trans ?_ (by assumption))) HT.out)).mono ?_; rintro e w7 ⟨rfl, k7⟩))
      go_ret
      exact ⟨rfl, (by repeat (first | exact Kept.refl _ | assumption | refine Kept.alloc ?_ _ | refine Kept.drew ?_ | refine Kept.drewN ?_ _ | refine Kept.setCell ?_ (by simp; try omega) _ | refine Kept.trans ?_ (by assumption)))⟩

set_option maxRecDepth 100000 in
set_option maxHeartbeats 1000000 in
theorem on_short_out (w : World) (A : Option Addr) (N c : Nat) (hN : (N : Int) ≤ 9) (M : List Int) (HL : Hid (Ints w (.slice A N c) M)) (HM : Hid (M.length = N)) (HIN : Hid (¬ InAll M)) (HT : Hid (Tab w)) :
    Calls Tryd.prog 6 #[.slice A N c] w fun e w' => e = .returned (.bool true) ∧ Kept w w' := by
  have HNO := hid (nodes_none M HIN.out)
  go_enter Tryd.func6, Tryd.ntmps6
  go_wp2_with (go_at_call 23; refine (HNO.out _ _ HL.out HT.out).mono ?_; rintro e w1 ⟨rfl, k1⟩)
  go_loop [5] (fun t => ∃ i : Nat, i ≤ N ∧ t = .int .i64 i ∧ InAll (M.take i)) (fun t => (N - intOf t).toNat)
  case atStart => exact ⟨0, by omega, rfl, by simp [InAll]⟩
  case round =>
    obtain ⟨i, hi, rfl, hin⟩ := hrel
    have HI := hid hin; clear hin
    by_cases hlt : i < N
    · obtain ⟨b, o, rfl, hcl⟩ := HL.out.cells (by omega)
      have hci := k1.keeps (hcl i hlt)
      clear hcl
      have HS := hid (take_snoc_getD M i (by rw [HM.out]; exact hlt))
      obtain ⟨n, hn⟩ : ∃ n, M.getD i 0 = n := ⟨_, rfl⟩
      rw [hn] at hci HS
      clear hn
      by_cases hb0 : 0 ≤ n
      · by_cases hb1 : n < 3621
        · have HB := hid (And.intro hb0 hb1)
          go_wp2
          go_round
          case rel => exact ⟨i + 1, by omega, by go_num, by rw [HS.out]; intro x hx; rcases List.mem_append.1 hx with hx | hx; exact HI.out x hx; obtain rfl := List.mem_singleton.1 hx; exact HB.out⟩
          case measure => simp [intOf]; omega
        · go_wp2_with (go_at_call 12; refine (awake_any _ (Kept.tab (by repeat (first | exact Kept.refl _ | assumption | refine Kept.alloc ?_ _ | refine Kept.drew ?_ | refine Kept.drewN ?_ _ | refine Kept.setCell ?_ (by simp; try omega) _ | refine Kept.trans ?_ (by assumption))) HT.out)).mono ?_; rintro e w7 ⟨rfl, k7⟩)
          go_ret
          exact ⟨rfl, (by repeat (first | exact Kept.refl _ | assumption | refine Kept.alloc ?_ _ | refine Kept.drew ?_ | refine Kept.drewN ?_ _ | refine Kept.setCell ?_ (by simp; try omega) _ | refine Kept.trans ?_ (by assumption)))⟩
      · go_wp2_with (go_at_call 12; refine (awake_any _ (Kept.tab (by repeat (first | exact Kept.refl _ | assumption | refine Kept.alloc ?_ _ | refine Kept.drew ?_ | refine Kept.drewN ?_ _ | refine Kept.setCell ?_ (by simp; try omega) _ | refine Kept.trans ?_ (by assumption))) HT.out)).mono ?_; rintro e w7 ⟨rfl, k7⟩)
        go_ret
        exact ⟨rfl, (by repeat (first | exact Kept.refl _ | assumption | refine Kept.alloc ?_ _ | refine Kept.drew ?_ | refine Kept.drewN ?_ _ | refine Kept.setCell ?_ (by simp; try omega) _ | refine Kept.trans ?_ (by assumption)))⟩
    · obtain rfl : i = N := by omega
      rw [List.take_of_length_le (by rw [HM.out]; omega)] at HI
      exact absurd HI.out HIN.out

set_option maxRecDepth 100000 in
set_option maxHeartbeats 1000000 in
theorem on_long_in (w : World) (A : Option Addr) (N0 c : Nat) (hN : (9 : Int) < (N0 : Int)) (hc : (9 : Int) ≤ (c : Int)) (M : List Int) (HL : Hid (Ints w (.slice A 9 c) M)) (HM : Hid (M.length = 9)) (HIN : Hid (InAll M)) (HT : Hid (Tab w)) :
    Calls Tryd.prog 6 #[.slice A N0 c] w fun e w' => e = .returned (.bool true) ∧ Kept w w' := by
  have HNO := hid (nodes_yes M HIN.out)
  go_enter Tryd.func6, Tryd.ntmps6
  go_wp2_with (go_at_call 23; refine (HNO.out _ _ HL.out HT.out).mono ?_; rintro e w1 ⟨v1, rfl, g1, k1⟩; have G1 := hid g1; clear g1)
  go_loop [5] (fun t => ∃ i : Nat, i ≤ 9 ∧ t = .int .i64 i) (fun t => (9 - intOf t).toNat)
  case atStart => exact ⟨0, by omega, rfl⟩
  case round =>
    obtain ⟨i, hi, rfl⟩ := hrel
    by_cases hlt : i < 9
    · obtain ⟨b, o, rfl, hcl⟩ := HL.out.cells (by omega)
      have hci := k1.keeps (hcl i hlt)
      clear hcl
      obtain ⟨n, hn⟩ : ∃ n, M.getD i 0 = n := ⟨_, rfl⟩
      rw [hn] at hci
      obtain ⟨hb0, hb1⟩ := HIN.out n (by rw [← hn, List.getD_eq_getElem?_getD, List.getElem?_eq_getElem (by rw [HM.out]; exact hlt)]; exact List.getElem_mem _)
      clear hn
      go_wp2
      go_round
      case rel => exact ⟨i + 1, by omega, by go_num⟩
      case measure => simp [intOf]; omega
    · obtain rfl : i = 9 := by omega
      go_wp2_with (first
        | (go_at_call 25; (with_reducible refine (on_all M _ _ (Kept.ints k1 HL.out) HIN.out).mono ?_); rintro e w2 ⟨rfl, f2, k2⟩; have F2 := hid f2; clear f2)
        | (go_at_call 24; (with_reducible refine (numbers_all _ _ _ F2.out).mono ?_); rintro e w3 ⟨v3, rfl, g3, k3⟩; have G3 := hid g3; clear g3)
        | (go_at_call 18; (with_reducible refine (same_t _ _ _ _ _ (Kept.ints ?_ G1.out) G3.out rfl).mono ?_); exact (by repeat (first | exact Kept.refl _ | assumption | refine Kept.alloc ?_ _ | refine Kept.drew ?_ | refine Kept.drewN ?_ _ | refine Kept.setCell ?_ (by simp; try omega) _ | refine Kept.trans ?_ (by assumption))); rintro e w4 ⟨rfl, k4⟩)
        | (go_at_call 12; refine (awake_any _ (Kept.tab (by repeat (first | exact Kept.refl _ | assumption | refine Kept.alloc ?_ _ | refine Kept.drew ?_ | refine Kept.drewN ?_ _ | refine Kept.setCell ?_ (by simp; try omega) _ | refine Kept.trans ?_ (by assumption))) HT.out)).mono ?_; rintro e w7 ⟨rfl, k7⟩))
      go_ret
      exact ⟨rfl, (by repeat (first | exact Kept.refl _ | assumption | refine Kept.alloc ?_ _ | refine Kept.drew ?_ | refine Kept.drewN ?_ _ | refine Kept.setCell ?_ (by simp; try omega) _ | refine Kept.trans ?_ (by assumption)))⟩

set_option maxRecDepth 100000 in
set_option maxHeartbeats 1000000 in
theorem on_long_out (w : World) (A : Option Addr) (N0 c : Nat) (hN : (9 : Int) < (N0 : Int)) (hc : (9 : Int) ≤ (c : Int)) (M : List Int) (HL : Hid (Ints w (.slice A 9 c) M)) (HM : Hid (M.length = 9)) (HIN : Hid (¬ InAll M)) (HT : Hid (Tab w)) :
    Calls Tryd.prog 6 #[.slice A N0 c] w fun e w' => e = .returned (.bool true) ∧ Kept w w' := by
  have HNO := hid (nodes_none M HIN.out)
  go_enter Tryd.func6, Tryd.ntmps6
  go_wp2_with (go_at_call 23; refine (HNO.out _ _ HL.out HT.out).mono ?_; rintro e w1 ⟨rfl, k1⟩)
  go_loop [5] (fun t => ∃ i : Nat, i ≤ 9 ∧ t = .int .i64 i ∧ InAll (M.take i)) (fun t => (9 - intOf t).toNat)
  case atStart => exact ⟨0, by omega, rfl, by simp [InAll]⟩
  case round =>
    obtain ⟨i, hi, rfl, hin⟩ := hrel
    have HI := hid hin; clear hin
    by_cases hlt : i < 9
    · obtain ⟨b, o, rfl, hcl⟩ := HL.out.cells (by omega)
      have hci := k1.keeps (hcl i hlt)
      clear hcl
      have HS := hid (take_snoc_getD M i (by rw [HM.out]; exact hlt))
      obtain ⟨n, hn⟩ : ∃ n, M.getD i 0 = n := ⟨_, rfl⟩
      rw [hn] at hci HS
      clear hn
      by_cases hb0 : 0 ≤ n
      · by_cases hb1 : n < 3621
        · have HB := hid (And.intro hb0 hb1)
          go_wp2
          go_round
          case rel => exact ⟨i + 1, by omega, by go_num, by rw [HS.out]; intro x hx; rcases List.mem_append.1 hx with hx | hx; exact HI.out x hx; obtain rfl := List.mem_singleton.1 hx; exact HB.out⟩
          case measure => simp [intOf]; omega
        · go_wp2_with (go_at_call 12; refine (awake_any _ (Kept.tab (by repeat (first | exact Kept.refl _ | assumption | refine Kept.alloc ?_ _ | refine Kept.drew ?_ | refine Kept.drewN ?_ _ | refine Kept.setCell ?_ (by simp; try omega) _ | refine Kept.trans ?_ (by assumption))) HT.out)).mono ?_; rintro e w7 ⟨rfl, k7⟩)
          go_ret
          exact ⟨rfl, (by repeat (first | exact Kept.refl _ | assumption | refine Kept.alloc ?_ _ | refine Kept.drew ?_ | refine Kept.drewN ?_ _ | refine Kept.setCell ?_ (by simp; try omega) _ | refine Kept.trans ?_ (by assumption)))⟩
      · go_wp2_with (go_at_call 12; refine (awake_any _ (Kept.tab (by repeat (first | exact Kept.refl _ | assumption | refine Kept.alloc ?_ _ | refine Kept.drew ?_ | refine Kept.drewN ?_ _ | refine Kept.setCell ?_ (by simp; try omega) _ | refine Kept.trans ?_ (by assumption))) HT.out)).mono ?_; rintro e w7 ⟨rfl, k7⟩)
        go_ret
        exact ⟨rfl, (by repeat (first | exact Kept.refl _ | assumption | refine Kept.alloc ?_ _ | refine Kept.drew ?_ | refine Kept.drewN ?_ _ | refine Kept.setCell ?_ (by simp; try omega) _ | refine Kept.trans ?_ (by assumption)))⟩
    · obtain rfl : i = 9 := by omega
      rw [List.take_of_length_le (by rw [HM.out]; omega)] at HI
      exact absurd HI.out HIN.out

theorem on_walk (L : List Int) (v : Value) (w : World) (hL : Ints w v L) (ht : Tab w) :
    Calls Tryd.prog 6 #[v] w fun e w' => e = .returned (.bool true) ∧ Kept w w' := by
  obtain ⟨A, c, rfl⟩ := hL.shape
  obtain ⟨-, hl, hc⟩ := hL.len
  by_cases h9 : L.length ≤ 9
  · by_cases hin : InAll L
    · exact on_short_in w A _ c (by omega) L hL rfl hin ht
    · exact on_short_out w A _ c (by omega) L hL rfl hin ht
  · have hlen : (L.take 9).length = 9 := by simp; omega
    by_cases hin : InAll (L.take 9)
    · exact on_long_in w A _ c (by omega) (by omega) (L.take 9) (hL.take 9 (by omega)) hlen hin ht
    · exact on_long_out w A _ c (by omega) (by omega) (L.take 9) (hL.take 9 (by omega)) hlen hin ht
end Go.Proofs.YtcloijjiemlbdaaDoor
