/- haymowlaw08: few, awake. -/
import Derived.Test.YtcloijjiemlbdaaDoor8Cnt2
namespace Go.Proofs.YtcloijjiemlbdaaDoor
set_option linter.unusedSimpArgs false
set_option linter.unusedVariables false
open Go.RowKit

theorem few_any (L : List Int) (v : Value) (w : World) (hL : Ints w v L) : Calls Tryd.prog 13 #[v] w fun e w' => ∃ v', e = .returned v' ∧ Ints w' v' (L.take 6) ∧ w = w' := by
  obtain ⟨A, c, rfl⟩ := hL.shape
  obtain ⟨-, hl, hc⟩ := hL.len
  by_cases h6 : L.length ≤ 6
  · have e : L.take 6 = L := List.take_of_length_le h6
    rw [e]
    have HL := hid hL; clear hL e
    generalize L.length = n at *
    have h6' : (n : Int) ≤ 6 := by omega
    go_enter Tryd.func13, Tryd.ntmps13
    go_wp2
    go_ret
    exact ⟨_, rfl, HL.out, rfl⟩
  · have HL := hid (hL.take 6 (by omega)); clear hL
    generalize L.length = n at *
    have h6' : (6 : Int) < (n : Int) := by omega
    have hcc : (6 : Int) ≤ (c : Int) := by omega
    go_enter Tryd.func13, Tryd.ntmps13
    go_wp2
    go_ret
    exact ⟨_, rfl, HL.out, rfl⟩

theorem path_at (n : Int) (L : List Int) (h0 : 0 ≤ n) (h1 : n < 3621) (h : pathOf n.toNat = L) (w : World) (ht : Tab w) :
    Calls Tryd.prog 19 #[.int .i64 n] w fun e w' => ∃ v, e = .returned (.tuple #[v, .int .i64 0]) ∧ Ints w' v L ∧ Kept w w' := by
  subst h; exact path_any n h0 h1 w ht
theorem number_at (L : List Int) (n : Int) (h : numF L = some n) (v : Value) (w : World) (hL : Ints w v L) :
    Calls Tryd.prog 14 #[v] w fun e w' => e = .returned (.tuple #[.int .i64 n, .int .i64 0]) ∧ Kept w w' := by
  refine (number_any L v w hL).mono fun e w' hp => ?_
  unfold NumberPost at hp
  rw [h] at hp
  exact hp
theorem count_at (n c : Int) (h : cntF n = c) (w : World) (ht : Tab w) : Calls Tryd.prog 9 #[.int .i64 n] w fun e w' => e = .returned (.int .i64 c) ∧ w = w' := by
  rw [← h]; exact count_any n w ht
theorem ints_4 {w : World} {a b c d : Int} {g : Nat} (h0 : w.cell? ⟨g, 0, none⟩ = some (.int .i64 a)) (h1 : w.cell? ⟨g, 1, none⟩ = some (.int .i64 b)) (h2 : w.cell? ⟨g, 2, none⟩ = some (.int .i64 c)) (h3 : w.cell? ⟨g, 3, none⟩ = some (.int .i64 d)) :
    Ints w (.slice (some ⟨g, 0, none⟩) 4 4) [a, b, c, d] :=
  ints_cells (by simp) (by omega) (by omega) fun i hi => by
    match i, hi with
    | 0, _ => simpa using h0
    | 1, _ => simpa using h1
    | 2, _ => simpa using h2
    | 3, _ => simpa using h3

set_option maxRecDepth 100000 in
set_option maxHeartbeats 2000000 in
theorem awake_any (w : World) (ht : Tab w) : Calls Tryd.prog 12 #[] w fun e w' => e = .returned (.bool true) ∧ Kept w w' := by
  have HT := hid ht; clear ht
  go_enter Tryd.func12, Tryd.ntmps12
  go_wp2_with (first
    | (go_at_call 19; (with_reducible refine (path_at 5 [5] (by omega) (by omega) (by decide) _ (Kept.tab ?_ HT.out)).mono ?_); exact Kept.refl _; rintro e wa ⟨va, rfl, ha, hka⟩; have Ha := hid ha; clear ha)
    | (go_at_call 19; (with_reducible refine (path_at 6 [6, 0] (by omega) (by omega) (by decide) _ (Kept.tab ?_ HT.out)).mono ?_); exact (by repeat (first | exact Kept.refl _ | assumption | refine Kept.alloc ?_ _ | refine Kept.drew ?_ | refine Kept.drewN ?_ _ | refine Kept.setCell ?_ (by simp; try omega) _ | refine Kept.trans ?_ (by assumption))); rintro e wb ⟨vb, rfl, hb, hkb⟩; have Hb := hid hb; clear hb)
    | (go_at_call 19; (with_reducible refine (path_at 21 [7, 0, 0] (by omega) (by omega) (by decide) _ (Kept.tab ?_ HT.out)).mono ?_); exact (by repeat (first | exact Kept.refl _ | assumption | refine Kept.alloc ?_ _ | refine Kept.drew ?_ | refine Kept.drewN ?_ _ | refine Kept.setCell ?_ (by simp; try omega) _ | refine Kept.trans ?_ (by assumption))); rintro e wc ⟨vc, rfl, hc, hkc⟩; have Hc := hid hc; clear hc)
    | (go_at_call 19; (with_reducible refine (path_at 246 [8, 0, 0, 0] (by omega) (by omega) (by decide) _ (Kept.tab ?_ HT.out)).mono ?_); exact (by repeat (first | exact Kept.refl _ | assumption | refine Kept.alloc ?_ _ | refine Kept.drew ?_ | refine Kept.drewN ?_ _ | refine Kept.setCell ?_ (by simp; try omega) _ | refine Kept.trans ?_ (by assumption))); rintro e wd ⟨vd, rfl, hd, hkd⟩; have Hd := hid hd; clear hd)
    | (go_at_call 14; (with_reducible refine (number_at [7, 2] 5 (by decide) (.slice _ 2 2) _ ?_).mono ?_); exact ints_2 (by simp [go_sem]) (by simp [go_sem]); rintro e we ⟨rfl, hke⟩)
    | (go_at_call 14; (with_reducible refine (number_at [8, 1, 1] 49 (by decide) (.slice _ 3 3) _ ?_).mono ?_); exact ints_3 (by simp [go_sem]) (by simp [go_sem]) (by simp [go_sem]); rintro e wf ⟨rfl, hkf⟩)
    | (go_at_call 18; (with_reducible refine (same_t va _ [5] [5] _ ?_ ?_ rfl).mono ?_); exact Kept.ints (by repeat (first | exact Kept.refl _ | assumption | refine Kept.alloc ?_ _ | refine Kept.drew ?_ | refine Kept.drewN ?_ _ | refine Kept.setCell ?_ (by simp; try omega) _ | refine Kept.trans ?_ (by assumption))) Ha.out; exact ints_1 (by simp [go_sem]); rintro e w1 ⟨rfl, hk1⟩)
    | (go_at_call 18; (with_reducible refine (same_t vb _ [6, 0] [6, 0] _ ?_ ?_ rfl).mono ?_); exact Kept.ints (by repeat (first | exact Kept.refl _ | assumption | refine Kept.alloc ?_ _ | refine Kept.drew ?_ | refine Kept.drewN ?_ _ | refine Kept.setCell ?_ (by simp; try omega) _ | refine Kept.trans ?_ (by assumption))) Hb.out; exact ints_2 (by simp [go_sem]) (by simp [go_sem]); rintro e w2 ⟨rfl, hk2⟩)
    | (go_at_call 18; (with_reducible refine (same_t vc _ [7, 0, 0] [7, 0, 0] _ ?_ ?_ rfl).mono ?_); exact Kept.ints (by repeat (first | exact Kept.refl _ | assumption | refine Kept.alloc ?_ _ | refine Kept.drew ?_ | refine Kept.drewN ?_ _ | refine Kept.setCell ?_ (by simp; try omega) _ | refine Kept.trans ?_ (by assumption))) Hc.out; exact ints_3 (by simp [go_sem]) (by simp [go_sem]) (by simp [go_sem]); rintro e w3 ⟨rfl, hk3⟩)
    | (go_at_call 18; (with_reducible refine (same_t vd _ [8, 0, 0, 0] [8, 0, 0, 0] _ ?_ ?_ rfl).mono ?_); exact Kept.ints (by repeat (first | exact Kept.refl _ | assumption | refine Kept.alloc ?_ _ | refine Kept.drew ?_ | refine Kept.drewN ?_ _ | refine Kept.setCell ?_ (by simp; try omega) _ | refine Kept.trans ?_ (by assumption))) Hd.out; exact ints_4 (by simp [go_sem]) (by simp [go_sem]) (by simp [go_sem]) (by simp [go_sem]); rintro e w4 ⟨rfl, hk4⟩)
    | (go_at_call 9; (with_reducible refine (count_at 22 3 (by decide) _ ?_).mono ?_); exact Kept.tab (by repeat (first | exact Kept.refl _ | assumption | refine Kept.alloc ?_ _ | refine Kept.drew ?_ | refine Kept.drewN ?_ _ | refine Kept.setCell ?_ (by simp; try omega) _ | refine Kept.trans ?_ (by assumption))) HT.out; rintro e w5 ⟨rfl, rfl⟩))
  go_ret
  exact ⟨rfl, (by repeat (first | exact Kept.refl _ | assumption | refine Kept.alloc ?_ _ | refine Kept.drew ?_ | refine Kept.drewN ?_ _ | refine Kept.setCell ?_ (by simp; try omega) _ | refine Kept.trans ?_ (by assumption)))⟩
end Go.Proofs.YtcloijjiemlbdaaDoor
