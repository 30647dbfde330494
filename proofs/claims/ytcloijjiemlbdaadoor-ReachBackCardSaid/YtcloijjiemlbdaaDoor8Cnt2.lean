/- haymowref08.Count; haymowlaw08.few. -/
import Derived.Test.YtcloijjiemlbdaaDoor8Cnt
namespace Go.Proofs.YtcloijjiemlbdaaDoor
set_option linter.unusedSimpArgs false
set_option linter.unusedVariables false
open Go.RowKit

theorem cntF_0 : cntF 0 = 0 := by decide
theorem cntF_eq (n : Nat) (h : n ≤ 3621) : cntF (n : Int) = totC n 9 := by unfold cntF; rw [show min (max (n : Int) 0) 3621 = n by omega]
theorem tot9 (n : Int) : totC n 9 = (min (max (n - 6) 0) 15 + 14) / 15 + ((min (max (n - 21) 0) 225 + 224) / 225 + (min (max (n - 21) 0) 225 + 14) / 15) +
  ((min (max (n - 246) 0) 3375 + 3374) / 3375 + (min (max (n - 246) 0) 3375 + 224) / 225 + (min (max (n - 246) 0) 3375 + 14) / 15) := by
  simp [totC]

def ceilN (k m : Nat) : Nat := (m + (k - 1)) / k
theorem ceil_step (k m : Nat) (hk : 0 < k) : ceilN k (m + 1) = ceilN k m + if m % k = 0 then 1 else 0 := by
  unfold ceilN
  have e : m + 1 + (k - 1) = m + k := by omega
  rw [e, Nat.add_div_right _ hk]
  have hd := Nat.div_add_mod m k
  have hl := Nat.mod_lt m hk
  generalize hq : m / k = q at *
  generalize hr : m % k = r at *
  have hc : k * q = q * k := Nat.mul_comm _ _
  rcases Nat.eq_zero_or_pos r with h | h
  · rw [if_pos h]
    have : (m + (k - 1)) / k = q := by
      rw [show m + (k - 1) = (k - 1) + q * k by omega, Nat.add_mul_div_right _ _ hk, Nat.div_eq_of_lt (by omega)]; omega
    omega
  · rw [if_neg (by omega)]
    have hc2 : (q + 1) * k = q * k + k := by rw [Nat.add_mul]; omega
    have : (m + (k - 1)) / k = q + 1 := by
      rw [show m + (k - 1) = (r - 1) + (q + 1) * k by omega, Nat.add_mul_div_right _ _ hk, Nat.div_eq_of_lt (by omega)]; omega
    omega
/-- as many as are counted, by natural numbers -/
theorem cntF_nat (n : Nat) (h : n ≤ 3621) : cntF (n : Int) = ((ceilN 15 (min (n - 6) 15) + (ceilN 225 (min (n - 21) 225) + ceilN 15 (min (n - 21) 225)) + (ceilN 3375 (min (n - 246) 3375) + ceilN 225 (min (n - 246) 3375) + ceilN 15 (min (n - 246) 3375)) : Nat) : Int) := by
  rw [cntF_eq n h, tot9]
  unfold ceilN
  rw [show max ((n : Int) - 6) 0 = ((n - 6 : Nat) : Int) by omega, show max ((n : Int) - 21) 0 = ((n - 21 : Nat) : Int) by omega, show max ((n : Int) - 246) 0 = ((n - 246 : Nat) : Int) by omega]
  generalize n - 6 = a; generalize n - 21 = b; generalize n - 246 = c
  rw [show min (a : Int) 15 = ((min a 15 : Nat) : Int) by omega, show min (b : Int) 225 = ((min b 225 : Nat) : Int) by omega, show min (c : Int) 3375 = ((min c 3375 : Nat) : Int) by omega]
  generalize min a 15 = a; generalize min b 225 = b; generalize min c 3375 = c
  omega

/-- one block more: as many nodes more as noughts end its path -/
theorem cnt_step (n : Nat) (hn : n < 3621) (j : Nat) (hj : j < (pathOf n).length) (hz : ∀ t, j < t → t < (pathOf n).length → (pathOf n).getD t 0 = 0) (hx : j = 0 ∨ (pathOf n).getD j 0 ≠ 0) :
    cntF ((n : Int) + 1) = cntF (n : Int) + (((pathOf n).length : Int) - 1 - j) := by
  have e1 := cntF_nat (n + 1) (by omega)
  rw [show ((n + 1 : Nat) : Int) = (n : Int) + 1 by omega] at e1
  rw [e1, cntF_nat n (by omega)]
  clear e1
  by_cases h6 : n < 6
  · rw [path_a n h6] at hj ⊢
    rw [show min (n + 1 - 6) 15 = min (n - 6) 15 by omega, show min (n + 1 - 21) 225 = min (n - 21) 225 by omega, show min (n + 1 - 246) 3375 = min (n - 246) 3375 by omega]
    simp at hj ⊢
    omega
  · by_cases h21 : n < 21
    · rw [path_b n (by omega) h21] at hj hz hx ⊢
      obtain ⟨m, rfl⟩ : ∃ m, n = m + 6 := ⟨n - 6, by omega⟩
      rw [show min (m + 6 + 1 - 6) 15 = m + 1 by omega, show min (m + 6 - 6) 15 = m by omega, show min (m + 6 + 1 - 21) 225 = min (m + 6 - 21) 225 by omega, show min (m + 6 + 1 - 246) 3375 = min (m + 6 - 246) 3375 by omega, ceil_step _ _ (by omega)]
      rw [Nat.add_sub_cancel] at hz hx ⊢
      match j, hj with
      | 0, _ =>
        have h1 := hz 1 (by omega) (by simp)
        simp at h1
        subst h1
        simp
        omega
      | 1, _ =>
        simp at hx
        rw [if_neg (by omega)]
        simp
    · by_cases h246 : n < 246
      · rw [path_c n (by omega) h246] at hj hz hx ⊢
        obtain ⟨m, rfl⟩ : ∃ m, n = m + 21 := ⟨n - 21, by omega⟩
        rw [show min (m + 21 + 1 - 21) 225 = m + 1 by omega, show min (m + 21 - 21) 225 = m by omega, show min (m + 21 + 1 - 6) 15 = min (m + 21 - 6) 15 by omega, show min (m + 21 + 1 - 246) 3375 = min (m + 21 - 246) 3375 by omega, ceil_step _ _ (by omega), ceil_step _ _ (by omega)]
        rw [Nat.add_sub_cancel] at hz hx ⊢
        match j, hj with
        | 0, _ =>
          have h1 := hz 1 (by omega) (by simp)
          have h2 := hz 2 (by omega) (by simp)
          simp only [List.getD_cons_succ, List.getD_cons_zero] at h1 h2
          rw [if_pos (by omega), if_pos (by omega)]
          simp
          omega
        | 1, _ =>
          have h2 := hz 2 (by omega) (by simp)
          simp only [List.getD_cons_succ, List.getD_cons_zero] at h2 hx
          rw [if_neg (by omega), if_pos (by omega)]
          simp
          omega
        | 2, _ =>
          simp only [List.getD_cons_succ, List.getD_cons_zero] at hx
          rw [if_neg (by omega), if_neg (by omega)]
          simp
      · rw [path_d n (by omega)] at hj hz hx ⊢
        obtain ⟨m, rfl⟩ : ∃ m, n = m + 246 := ⟨n - 246, by omega⟩
        rw [show min (m + 246 + 1 - 246) 3375 = m + 1 by omega, show min (m + 246 - 246) 3375 = m by omega, show min (m + 246 + 1 - 6) 15 = min (m + 246 - 6) 15 by omega, show min (m + 246 + 1 - 21) 225 = min (m + 246 - 21) 225 by omega, ceil_step _ _ (by omega), ceil_step _ _ (by omega), ceil_step _ _ (by omega)]
        rw [Nat.add_sub_cancel] at hz hx ⊢
        match j, hj with
        | 0, _ =>
          have h1 := hz 1 (by omega) (by simp)
          have h2 := hz 2 (by omega) (by simp)
          have h3 := hz 3 (by omega) (by simp)
          simp only [List.getD_cons_succ, List.getD_cons_zero] at h1 h2 h3
          rw [if_pos (by omega), if_pos (by omega), if_pos (by omega)]
          simp
          omega
        | 1, _ =>
          have h2 := hz 2 (by omega) (by simp)
          have h3 := hz 3 (by omega) (by simp)
          simp only [List.getD_cons_succ, List.getD_cons_zero] at h2 h3 hx
          rw [if_neg (by omega), if_pos (by omega), if_pos (by omega)]
          simp
          omega
        | 2, _ =>
          have h3 := hz 3 (by omega) (by simp)
          simp only [List.getD_cons_succ, List.getD_cons_zero] at h3 hx
          rw [if_neg (by omega), if_neg (by omega), if_pos (by omega)]
          simp
          omega
        | 3, _ =>
          simp only [List.getD_cons_succ, List.getD_cons_zero] at hx
          rw [if_neg (by omega), if_neg (by omega), if_neg (by omega)]
          simp
theorem path_len (n : Nat) : 1 ≤ (pathOf n).length ∧ (pathOf n).length ≤ 4 := by
  unfold pathOf; split
  · simp
  · split
    · simp
    · split <;> simp
theorem cntF_bd (n : Nat) (h : n ≤ 3621) : 0 ≤ cntF (n : Int) ∧ cntF (n : Int) ≤ 1000 := by
  rw [cntF_eq n h, tot9]; omega

set_option maxRecDepth 100000 in
set_option maxHeartbeats 2000000 in
theorem rcount_core (q : Int) (N : Nat) (hN : N ≤ 3621) (hq : (q ≤ 3621 ∧ max q 0 = (N : Int)) ∨ (3621 < q ∧ N = 3621)) (w : World) :
    Calls Tryd.prog 10 #[.int .i64 q] w fun e w' => e = .returned (.int .i64 (cntF N)) ∧ Kept w w' := by
  have main : ∀ x : Int, x = min q 3621 → True := fun _ _ => trivial
  rcases hq with ⟨hq1, hq2⟩ | ⟨hq1, hq2⟩
  all_goals
    have Hq := hid hq2; clear hq2 main
    go_enter Tryd.func10, Tryd.ntmps10
    go_wp2
    go_loopw [3, 4, 5] (fun c p t wr => ∃ i : Nat, i ≤ N ∧ t = .int .i64 i ∧ c = .int .i64 (cntF i) ∧ (i < 3621 → Ints wr p (pathOf i)) ∧ Kept w wr) (fun _ _ t _ => (N - intOf t).toNat)
    case atStart => exact ⟨0, by omega, rfl, rfl, fun _ => ints_new1 _ _ _ rfl, (by repeat (first | exact Kept.refl _ | assumption | refine Kept.alloc ?_ _ | refine Kept.drew ?_ | refine Kept.drewN ?_ _ | refine Kept.setCell ?_ (by simp; try omega) _ | refine Kept.trans ?_ (by assumption)))⟩
    case round =>
      obtain ⟨i, hi, rfl, rfl, hv, hk⟩ := hrel
      have HV := hid hv; clear hv
      by_cases hlt : i < N
      · have hi3 : i < 3621 := by omega
        have hlq : (i : Int) < q := by have := Hq.out; omega
        have hlq2 : (i : Int) < 3621 := by omega
        have HV2 := HV.out hi3
        obtain ⟨ad, cp, rfl⟩ := HV2.shape
        have hpl := path_len i
        obtain ⟨b, o, rfl, hcell⟩ := HV2.cells (by omega)
        have HV3 := hid HV2
        have HC := hid hcell
        have hcb := cntF_bd i (by omega)
        obtain ⟨hcb0, hcb1⟩ := hcb
        have HST := hid (cnt_step i hi3)
        have HNX := hid (fun (v : Value) (w : World) (h : Ints w v (pathOf i)) => next_path i hi3 v w h)
        clear HV2 hcell HV
        generalize hpo : pathOf i = L at *
        have Hpo := hid hpo; clear hpo
        obtain ⟨n, hn⟩ : ∃ n, n = L.length := ⟨_, rfl⟩
        rw [← hn] at hpl HC HST HV3 ⊢
        have HN := hid hn; clear hn
        obtain ⟨hpl1, hpl2⟩ := hpl
        obtain ⟨wo, rfl⟩ : ∃ wo : World, wo = wr := ⟨_, rfl⟩
        go_wp2
        go_loopw [3, 6] (fun c t wr => ∃ j : Nat, j < n ∧ t = .int .i64 j ∧ c = .int .i64 (cntF i + ((n : Int) - 1 - j)) ∧ (∀ t, j < t → t < n → L.getD t 0 = 0) ∧ wr = wo) (fun _ t _ => (intOf t).toNat)
        case atStart => exact ⟨n - 1, by omega, by go_num, by go_num, fun t h1 h2 => by omega, rfl⟩
        case round =>
          obtain ⟨j, hj, rfl, rfl, hz, rfl⟩ := hrel
          have HZ := hid hz; clear hz
          by_cases hj0 : 0 < j
          · have cj := HC.out j hj
            obtain ⟨x, hx⟩ : ∃ x, x = L.getD j 0 := ⟨_, rfl⟩
            rw [← hx] at cj
            have HX := hid hx; clear hx
            have hjn : (j : Int) < (n : Int) := by omega
            have hj1 : (0 : Int) < (j : Int) := by omega
            by_cases hx0 : x = 0
            · subst hx0
              go_wp2
              go_roundw
              case rel => exact ⟨j - 1, by omega, by go_num, by go_num, fun t h1 h2 => by
                by_cases e : t = j
                · subst e; exact HX.out.symm
                · exact HZ.out t (by omega) h2, by first | rfl | trivial⟩
              case measure => simp [intOf]; omega
            · have hne : (x == 0) = false := by simpa using hx0
              have hfin := HST.out j hj HZ.out (.inr (by rw [← HX.out]; exact hx0))
              have HF := hid hfin; clear hfin
              go_wp2_with (go_at_call 26; refine (HNX.out _ _ HV3.out).mono ?_; rintro e w3 ⟨v3, rfl, hv3, hk3⟩)
              go_roundw
              case rel => exact ⟨i + 1, by omega, by go_num, by rw [← HF.out]; rfl, fun h => by rw [nextOf, if_pos (by omega)] at hv3; exact hv3, (by repeat (first | exact Kept.refl _ | assumption | refine Kept.alloc ?_ _ | refine Kept.drew ?_ | refine Kept.drewN ?_ _ | refine Kept.setCell ?_ (by simp; try omega) _ | refine Kept.trans ?_ (by assumption)))⟩
              case measure => simp [intOf]; omega
          · obtain rfl : j = 0 := by omega
            have hfin := HST.out 0 hj HZ.out (.inl rfl)
            have HF := hid hfin; clear hfin
            go_wp2_with (go_at_call 26; refine (HNX.out _ _ HV3.out).mono ?_; rintro e w3 ⟨v3, rfl, hv3, hk3⟩)
            go_roundw
            case rel => exact ⟨i + 1, by omega, by go_num, by rw [show ((i + 1 : Nat) : Int) = (i : Int) + 1 by omega, HF.out]; go_num, fun h => by rw [nextOf, if_pos (by omega)] at hv3; exact hv3, (by repeat (first | exact Kept.refl _ | assumption | refine Kept.alloc ?_ _ | refine Kept.drew ?_ | refine Kept.drewN ?_ _ | refine Kept.setCell ?_ (by simp; try omega) _ | refine Kept.trans ?_ (by assumption)))⟩
            case measure => simp [intOf]; omega
      · obtain rfl : i = N := by omega
        have hlq : ¬ (i : Int) < min q 3621 := by have := Hq.out; omega
        have hlq2 : q ≤ 3621 → q ≤ (i : Int) := by have := Hq.out; omega
        have hlq3 : 3621 < q → 3621 ≤ (i : Int) := by have := Hq.out; omega
        first
          | (have hlq4 := hlq2 hq1
             clear hlq hlq2 hlq3
             go_wp2
             go_ret
             exact ⟨rfl, hk⟩)
          | (have hlq4 := hlq3 hq1
             clear hlq hlq2 hlq3
             go_wp2
             go_ret
             exact ⟨rfl, hk⟩)
end Go.Proofs.YtcloijjiemlbdaaDoor
