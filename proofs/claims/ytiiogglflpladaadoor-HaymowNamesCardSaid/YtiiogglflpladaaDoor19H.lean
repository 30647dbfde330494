/- sparse: agrees, Same. -/
import Derived.Test.YtiiogglflpladaaDoor19G
import Derived.Lib.Strings
namespace Go.Proofs.YtiiogglflpladaaDoor
set_option linter.unusedSimpArgs false
set_option linter.unusedVariables false
open Go.RowKit

theorem bstr_ne {a b : List UInt8} (h : a ≠ b) : ((bstr a).toList == (bstr b).toList) = false := by
  rw [beq_eq_false_iff_ne, Lib.toList_data, Lib.toList_data, bstr_list, bstr_list]; exact h
/-- does a block agree with a file? -/
def agr (M : List Pc) (p : Pc) : Bool := match findL M p.n with
  | none => zerosB p.b
  | some q => decide (q.b = p.b)
def agreesB (L M : List Pc) : Bool := L.all (agr M)
theorem agrees_f {L M : List Pc} {k : Nat} {p : Pc} (hp : L[k]? = some p) (h : agr M p = false) : agreesB L M = false := by
  rw [agreesB, List.all_eq_false]; exact ⟨p, List.mem_of_getElem? hp, by rw [h]; simp⟩
theorem agrees_t {L M : List Pc} (h : ∀ (i : Nat) (p : Pc), i < L.length → L[i]? = some p → agr M p = true) : agreesB L M = true := by
  rw [agreesB, List.all_eq_true]
  intro p hp
  obtain ⟨i, hi, rfl⟩ := List.getElem_of_mem hp
  exact h i _ hi (List.getElem?_eq_getElem hi)
end Go.Proofs.YtiiogglflpladaaDoor
