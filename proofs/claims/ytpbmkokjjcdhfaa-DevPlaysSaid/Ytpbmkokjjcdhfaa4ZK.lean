/- DevPlays: whatever the input. -/
import Derived.Test.Ytpbmkokjjcdhfaa4ZI
import Derived.Test.Ytpbmkokjjcdhfaa4ZJ
namespace Go.Proofs.Ytpbmkokjjcdhfaa
set_option linter.unusedSimpArgs false
set_option linter.unusedVariables false
open Go.RowKit

set_option maxRecDepth 100000 in
theorem plays_bad {w : World} (m : Int) (hm : m < 1 ∨ 8192 < m) (A : Option Addr) (N c : Nat) : Calls Try.prog 7 #[.int .i64 m, .slice A N c] w fun e w' => e = .returned (.bool true) ∧ Kept w w' := by
  have HN := hid (new_bad m hm)
  have AW := hid awake_any
  by_cases h1 : m < 1
  · clear hm
    go_enter Try.func7, Try.ntmps7
    go_wp2_with (first
      | (go_at_call 8; refine (HN.out _).mono ?_; rintro e w1 ⟨rfl, rfl⟩)
      | (go_at_call 15; refine (AW.out _).mono ?_; rintro e w10 ⟨rfl, kA⟩))
    go_ret
    exact ⟨rfl, kA⟩
  · have h2 : 8192 < m := by omega
    have h1' : decide (m < 1) = false := decide_eq_false h1
    clear hm h1
    go_enter Try.func7, Try.ntmps7
    go_wp2_with (first
      | (go_at_call 8; refine (HN.out _).mono ?_; rintro e w1 ⟨rfl, rfl⟩)
      | (go_at_call 15; refine (AW.out _).mono ?_; rintro e w10 ⟨rfl, kA⟩))
    go_ret
    exact ⟨rfl, kA⟩
theorem plays_at {w : World} (m : Int) (n : Nat) (F : Nat → Ac) (v : Value) (hA : Acts w v n F) (hF : ∀ i, (F i).ii ≤ 9223372036854775807) (_ : World) :
    Calls Try.prog 7 #[.int .i64 m, v] w fun e w' => e = .returned (.bool true) ∧ Kept w w' := by
  by_cases h : 1 ≤ m ∧ m ≤ 8192
  · obtain ⟨q, rfl⟩ : ∃ q : Nat, m = (q : Int) := ⟨m.toNat, by omega⟩
    exact plays_good q (by omega) (by omega) n F v hA hF
  · obtain ⟨A, c, rfl, -⟩ := hA
    exact plays_bad m (by omega) A n c
end Go.Proofs.Ytpbmkokjjcdhfaa
