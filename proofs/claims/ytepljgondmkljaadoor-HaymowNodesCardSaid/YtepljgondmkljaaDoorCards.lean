/-
  DERIVED. GIVEN WITH THE SEED: THE CARDS: each row of YtepljgondmkljaaDoorRows.lean that lists a variable, with what it lists TIED to the program's text (the seventh form; the later family's looks); each row that meets fmt, with fmt's text TOLD by the authors' own Lean function (tested against real Go, not proved from fmt's source: count such statements apart). THE CARD IS WHAT COUNTS. Prove the row's statement (the work); the ties are given (YtepljgondmkljaaDoorTie.lean); close each card by the builder's one call (the guide's Derived/Test/ToyasCard.lean, 'card_holds'). Laid BY PROGRAM, IN A SANDBOX (cutbox-door.mjs). By AI agents, Wed Nov 11 2026. No macro, syntax, notation, axiom, sorry.
-/
import Derived.Test.YtepljgondmkljaaDoorRows
import GoSem.ClaimSeven
namespace Go.Proofs.YtepljgondmkljaaDoor
namespace Rows

/-- THE TIED CARD OF 'haymowtop.HaymowNodes'. -/
def haymowNodesCard : Claim7 := { stood := { row := haymowNodesRow, standIns := [], harness := (true, "eb1644515f9d764af6d27d6b151f6189ca8f6297d7652596b59ec8ede5ce6c59"), looks := false }, kinds := [], alts := [], laidByText := true, laidKinds := [.data, .data], laidTests := true, laidLooks := .later }
def HaymowNodesCardSaid : Prop := Claim7.holds Tryd.pinned (.plain (OpenSpec.ofChange haymowNodesSpec)) haymowNodesCard

/-- THE SECOND FORM's CARD OF 'haymowtop.HaymowNodes'. -/
def haymowNodesUptoCard : Claim7 := { stood := { row := haymowNodesUptoRow, standIns := [], harness := (true, "eb1644515f9d764af6d27d6b151f6189ca8f6297d7652596b59ec8ede5ce6c59"), looks := false }, kinds := [], alts := [], laidByText := true, laidKinds := [.data, .data], laidTests := true, laidLooks := .later }
def HaymowNodesUptoCardSaid : Prop := Claim7.holds Tryd.pinned (.plain (OpenSpec.upto haymowNodesSpec)) haymowNodesUptoCard
end Rows
end Go.Proofs.YtepljgondmkljaaDoor
