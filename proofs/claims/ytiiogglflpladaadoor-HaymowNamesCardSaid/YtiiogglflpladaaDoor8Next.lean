/- haymowref08.Next: the path of the block behind that of a path. -/
import Derived.Test.YtiiogglflpladaaDoorSame
namespace Go.Proofs.YtiiogglflpladaaDoor
set_option linter.unusedSimpArgs false
set_option linter.unusedVariables false
open Go.RowKit

/-- an own row of numbers, its cells one by one -/
theorem own_cell {w : World} {base g n cap : Nat} {e : TypeId} {L : List Int} (h : w.ownsRow base e 1 (.slice (some ⟨g, 0, none⟩) n cap) n (L.map (Value.int .i64))) (i : Nat) (hi : i < n) :
    w.cell? ⟨g, i, none⟩ = some (.int .i64 (L.getD i 0)) := by
  have hl : L.length = n := by have := h.1; simpa using this
  rw [h.cellAt i (by omega)]; exact getD_map L i (by omega)

def NextPost (L : List Int) (w : World) (e : Ending) (w' : World) : Prop := ∃ v, e = .returned v ∧ Ints w' v L ∧ Kept w w'

theorem own_cap {w : World} {base g n cap : Nat} {e : TypeId} {size : Nat} {xs : List Value} (h : w.ownsRow base e size (.slice (some ⟨g, 0, none⟩) n cap) n xs) : n ≤ cap ∧ cap ≤ 9223372036854775807 := by
  rcases h.2 with ⟨h0, _⟩ | ⟨g', cap', cur, h0, _, _, h1, h2, _⟩
  · cases h0
  · injection h0 with _ _ h3
    subst h3
    exact ⟨h1, by unfold maxLen at h2; omega⟩

end Go.Proofs.YtiiogglflpladaaDoor
