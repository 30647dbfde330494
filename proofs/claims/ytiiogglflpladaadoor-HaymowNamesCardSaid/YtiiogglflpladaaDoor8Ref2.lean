/- haymowref08: Path, Block, Number. -/
import Derived.Test.YtiiogglflpladaaDoor8Ref
namespace Go.Proofs.YtiiogglflpladaaDoor
set_option linter.unusedSimpArgs false
set_option linter.unusedVariables false
open Go.RowKit

theorem ints_new1 (w : World) (a : Int) (H : Nat) (hH : w.heap.size = H) : Ints (w.alloc (.cells #[.int .i64 a] 3)) (.slice (some ⟨H, 0, none⟩) 1 1) [a] := by
  subst hH; exact ints_1 (by simp [go_sem])

def NumPost (L : List Int) (w : World) (e : Ending) (w' : World) : Prop :=
  ((∃ n : Nat, n < 258 ∧ nodeOf n = L ∧ e = .returned (.int .i64 n)) ∨ (∀ n, n < 258 → nodeOf n ≠ L) ∧ e = .returned (.int .i64 (-1))) ∧ Kept w w'

end Go.Proofs.YtiiogglflpladaaDoor
