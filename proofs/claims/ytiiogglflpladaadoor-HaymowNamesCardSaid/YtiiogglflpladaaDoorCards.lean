/-
  DERIVED. GIVEN WITH THE SEED: THE CARDS: each row of YtiiogglflpladaaDoorRows.lean that lists a variable, with what it lists TIED to the program's text (the seventh form; the later family's looks); each row that meets fmt, with fmt's text TOLD by the authors' own Lean function (tested against real Go, not proved from fmt's source: count such statements apart). THE CARD IS WHAT COUNTS. Prove the row's statement (the work); the ties are given (YtiiogglflpladaaDoorTie.lean); close each card by the builder's one call (the guide's Derived/Test/ToyasCard.lean, 'card_holds'). Laid BY PROGRAM, IN A SANDBOX (cutbox-door.mjs). By AI agents, Wed Nov 11 2026. No macro, syntax, notation, axiom, sorry.
-/
import Derived.Test.YtiiogglflpladaaDoorRows
import GoSem.ClaimSeven
namespace Go.Proofs.YtiiogglflpladaaDoor
namespace Rows

/-- THE TIED CARD OF 'haymowtop.HaymowNames'. -/
def haymowNamesCard : Claim7 := { stood := { row := haymowNamesRow, standIns := [], harness := (true, "be9f413688c2ef9ae29f3afce767a38abf6c63d054bfb415a5ba8ff07c65c147"), looks := false }, kinds := [], alts := [], laidByText := true, laidKinds := [.data, .data], laidTests := true, laidLooks := .later }
def HaymowNamesCardSaid : Prop := Claim7.holds Tryd.pinned (.plain (OpenSpec.ofChange haymowNamesSpec)) haymowNamesCard

/-- THE SECOND FORM's CARD OF 'haymowtop.HaymowNames'. -/
def haymowNamesUptoCard : Claim7 := { stood := { row := haymowNamesUptoRow, standIns := [], harness := (true, "be9f413688c2ef9ae29f3afce767a38abf6c63d054bfb415a5ba8ff07c65c147"), looks := false }, kinds := [], alts := [], laidByText := true, laidKinds := [.data, .data], laidTests := true, laidLooks := .later }
def HaymowNamesUptoCardSaid : Prop := Claim7.holds Tryd.pinned (.plain (OpenSpec.upto haymowNamesSpec)) haymowNamesUptoCard
end Rows
end Go.Proofs.YtiiogglflpladaaDoor
