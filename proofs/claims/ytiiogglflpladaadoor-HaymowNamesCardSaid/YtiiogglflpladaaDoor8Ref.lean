/- haymowref08: Path, Block, Node, Number. -/
import Derived.Test.YtiiogglflpladaaDoor8Plain
namespace Go.Proofs.YtiiogglflpladaaDoor
set_option linter.unusedSimpArgs false
set_option linter.unusedVariables false
open Go.RowKit

/-- the name of a node -/
def nodeOf (k : Nat) : List Int :=
  if k < 3 then [6 + (k : Int)] else if k < 18 then [7, (k : Int) - 3] else if k < 33 then [8, (k : Int) - 18] else [8, ((k : Int) - 33) / 15, ((k : Int) - 33) % 15]
theorem nodeOf_inj (n m : Nat) (hn : n < 258) (hm : m < 258) (h : nodeOf n = nodeOf m) : n = m := by
  unfold nodeOf at h
  split at h <;> split at h <;> (try split at h) <;> (try split at h) <;> (try split at h) <;> (try split at h) <;> simp at h <;> omega

theorem ints_1 {w : World} {a : Int} {g : Nat} (h0 : w.cell? ⟨g, 0, none⟩ = some (.int .i64 a)) : Ints w (.slice (some ⟨g, 0, none⟩) 1 1) [a] :=
  ints_cells (by simp) (by omega) (by omega) fun i hi => by
    match i, hi with
    | 0, _ => simpa using h0
theorem ints_2 {w : World} {a b : Int} {g : Nat} (h0 : w.cell? ⟨g, 0, none⟩ = some (.int .i64 a)) (h1 : w.cell? ⟨g, 1, none⟩ = some (.int .i64 b)) : Ints w (.slice (some ⟨g, 0, none⟩) 2 2) [a, b] :=
  ints_cells (by simp) (by omega) (by omega) fun i hi => by
    match i, hi with
    | 0, _ => simpa using h0
    | 1, _ => simpa using h1
theorem ints_3 {w : World} {a b c : Int} {g : Nat} (h0 : w.cell? ⟨g, 0, none⟩ = some (.int .i64 a)) (h1 : w.cell? ⟨g, 1, none⟩ = some (.int .i64 b)) (h2 : w.cell? ⟨g, 2, none⟩ = some (.int .i64 c)) :
    Ints w (.slice (some ⟨g, 0, none⟩) 3 3) [a, b, c] :=
  ints_cells (by simp) (by omega) (by omega) fun i hi => by
    match i, hi with
    | 0, _ => simpa using h0
    | 1, _ => simpa using h1
    | 2, _ => simpa using h2

end Go.Proofs.YtiiogglflpladaaDoor
