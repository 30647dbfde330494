/- ReachCounts, ReachPaths, ReachNodes: the walks. -/
import Derived.Test.YtcloijjiemlbdaaDoor8Awake
namespace Go.Proofs.YtcloijjiemlbdaaDoor
set_option linter.unusedSimpArgs false
set_option linter.unusedVariables false
open Go.RowKit

theorem rcount_any (q : Int) (w : World) : Calls Tryd.prog 10 #[.int .i64 q] w fun e w' => e = .returned (.int .i64 (cntF q)) ∧ Kept w w' := by
  have e : cntF q = cntF (((min (max q 0) 3621).toNat : Nat) : Int) := by
    unfold cntF
    rw [show ((min (max q 0) 3621).toNat : Int) = min (max q 0) 3621 by omega, show min (max (min (max q 0) 3621) 0) 3621 = min (max q 0) 3621 by omega]
  rw [e]
  exact rcount_core q _ (by omega) (by omega) w

set_option maxRecDepth 100000 in
set_option maxHeartbeats 1000000 in
theorem counts_walk (n k : Int) (hk : k ≤ 9223372036854775807) (w : World) (ht : Tab w) :
    Calls Tryd.prog 3 #[.int .i64 n, .int .i64 k] w fun e w' => e = .returned (.bool true) ∧ Kept w w' := by
  have HT := hid ht; clear ht
  have H1 := hid (count_any n)
  have H2 := hid (rcount_any n)
  generalize cntF n = cn at *
  by_cases h0 : 0 < k
  · by_cases h1 : 0 < k % 128
    · have hs : sizeF k = k / 128 + 1 := by unfold sizeF; rw [if_neg (by omega)]; omega
      have H3 := hid (fun w => by have := size_any k hk w; rwa [hs] at this)
      clear hs
      go_enter Tryd.func3, Tryd.ntmps3
      go_wp2_with (first
        | (go_at_call 9; refine (H1.out _ HT.out).mono ?_; rintro e w1 ⟨rfl, rfl⟩)
        | (go_at_call 10; refine (H2.out _).mono ?_; rintro e w2 ⟨rfl, hk2⟩)
        | (go_at_call 11; refine (H3.out _).mono ?_; rintro e w3 ⟨rfl, rfl⟩)
        | (go_at_call 12; refine (awake_any _ (Kept.tab (by repeat (first | exact Kept.refl _ | assumption | refine Kept.alloc ?_ _ | refine Kept.drew ?_ | refine Kept.drewN ?_ _ | refine Kept.setCell ?_ (by simp; try omega) _ | refine Kept.trans ?_ (by assumption))) HT.out)).mono ?_; rintro e w4 ⟨rfl, hk4⟩))
      go_ret
      exact ⟨rfl, (by repeat (first | exact Kept.refl _ | assumption | refine Kept.alloc ?_ _ | refine Kept.drew ?_ | refine Kept.drewN ?_ _ | refine Kept.setCell ?_ (by simp; try omega) _ | refine Kept.trans ?_ (by assumption)))⟩
    · have hs : sizeF k = k / 128 := by unfold sizeF; rw [if_neg (by omega)]; omega
      have H3 := hid (fun w => by have := size_any k hk w; rwa [hs] at this)
      clear hs
      go_enter Tryd.func3, Tryd.ntmps3
      go_wp2_with (first
        | (go_at_call 9; refine (H1.out _ HT.out).mono ?_; rintro e w1 ⟨rfl, rfl⟩)
        | (go_at_call 10; refine (H2.out _).mono ?_; rintro e w2 ⟨rfl, hk2⟩)
        | (go_at_call 11; refine (H3.out _).mono ?_; rintro e w3 ⟨rfl, rfl⟩)
        | (go_at_call 12; refine (awake_any _ (Kept.tab (by repeat (first | exact Kept.refl _ | assumption | refine Kept.alloc ?_ _ | refine Kept.drew ?_ | refine Kept.drewN ?_ _ | refine Kept.setCell ?_ (by simp; try omega) _ | refine Kept.trans ?_ (by assumption))) HT.out)).mono ?_; rintro e w4 ⟨rfl, hk4⟩))
      go_ret
      exact ⟨rfl, (by repeat (first | exact Kept.refl _ | assumption | refine Kept.alloc ?_ _ | refine Kept.drew ?_ | refine Kept.drewN ?_ _ | refine Kept.setCell ?_ (by simp; try omega) _ | refine Kept.trans ?_ (by assumption)))⟩
  · have hs : sizeF k = 0 := by unfold sizeF; rw [if_pos (by omega)]
    have H3 := hid (fun w => by have := size_any k hk w; rwa [hs] at this)
    clear hs
    go_enter Tryd.func3, Tryd.ntmps3
    go_wp2_with (first
      | (go_at_call 9; refine (H1.out _ HT.out).mono ?_; rintro e w1 ⟨rfl, rfl⟩)
      | (go_at_call 10; refine (H2.out _).mono ?_; rintro e w2 ⟨rfl, hk2⟩)
      | (go_at_call 11; refine (H3.out _).mono ?_; rintro e w3 ⟨rfl, rfl⟩)
      | (go_at_call 12; refine (awake_any _ (Kept.tab (by repeat (first | exact Kept.refl _ | assumption | refine Kept.alloc ?_ _ | refine Kept.drew ?_ | refine Kept.drewN ?_ _ | refine Kept.setCell ?_ (by simp; try omega) _ | refine Kept.trans ?_ (by assumption))) HT.out)).mono ?_; rintro e w4 ⟨rfl, hk4⟩))
    go_ret
    exact ⟨rfl, (by repeat (first | exact Kept.refl _ | assumption | refine Kept.alloc ?_ _ | refine Kept.drew ?_ | refine Kept.drewN ?_ _ | refine Kept.setCell ?_ (by simp; try omega) _ | refine Kept.trans ?_ (by assumption)))⟩
end Go.Proofs.YtcloijjiemlbdaaDoor
