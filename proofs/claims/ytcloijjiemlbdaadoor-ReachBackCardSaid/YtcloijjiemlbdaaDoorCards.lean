/-
  DERIVED. GIVEN WITH THE SEED: THE CARDS: each row of YtcloijjiemlbdaaDoorRows.lean that lists a variable, with what it lists TIED to the program's text (the seventh form; the later family's looks); each row that meets fmt, with fmt's text TOLD by the authors' own Lean function (tested against real Go, not proved from fmt's source: count such statements apart). THE CARD IS WHAT COUNTS. Prove the row's statement (the work); the ties are given (YtcloijjiemlbdaaDoorTie.lean); close each card by the builder's one call (the guide's Derived/Test/ToyasCard.lean, 'card_holds'). Laid BY PROGRAM, IN A SANDBOX (cutbox-door.mjs). By AI agents, Wed Nov 11 2026. No macro, syntax, notation, axiom, sorry.
-/
import Derived.Test.YtcloijjiemlbdaaDoorRows
import GoSem.ClaimSeven
namespace Go.Proofs.YtcloijjiemlbdaaDoor
namespace Rows

/-- THE TIED CARD OF 'haymowlaw08.ReachCounts'. -/
def reachCountsCard : Claim7 := { stood := { row := reachCountsRow, standIns := [], harness := (true, "09a3b383f052226d60bb13d2ef40359d65e1d284487da9ad91eca70dab4eaac0"), looks := false }, kinds := [], alts := [], laidByText := true, laidKinds := [.data], laidTests := true, laidLooks := .later }
def ReachCountsCardSaid : Prop := Claim7.holds Tryd.pinned (.plain (OpenSpec.ofChange reachCountsSpec)) reachCountsCard

/-- THE TIED CARD OF 'haymowlaw08.ReachNodes'. -/
def reachNodesCard : Claim7 := { stood := { row := reachNodesRow, standIns := [], harness := (true, "09a3b383f052226d60bb13d2ef40359d65e1d284487da9ad91eca70dab4eaac0"), looks := false }, kinds := [], alts := [], laidByText := true, laidKinds := [.data], laidTests := true, laidLooks := .later }
def ReachNodesCardSaid : Prop := Claim7.holds Tryd.pinned (.plain (OpenSpec.ofChange reachNodesSpec)) reachNodesCard

/-- THE TIED CARD OF 'haymowlaw08.ReachPaths'. -/
def reachPathsCard : Claim7 := { stood := { row := reachPathsRow, standIns := [], harness := (true, "09a3b383f052226d60bb13d2ef40359d65e1d284487da9ad91eca70dab4eaac0"), looks := false }, kinds := [], alts := [], laidByText := true, laidKinds := [.data], laidTests := true, laidLooks := .later }
def ReachPathsCardSaid : Prop := Claim7.holds Tryd.pinned (.plain (OpenSpec.ofChange reachPathsSpec)) reachPathsCard

/-- THE TIED CARD OF 'haymowlaw08.ReachOn'. -/
def reachOnCard : Claim7 := { stood := { row := reachOnRow, standIns := [], harness := (true, "09a3b383f052226d60bb13d2ef40359d65e1d284487da9ad91eca70dab4eaac0"), looks := false }, kinds := [], alts := [], laidByText := true, laidKinds := [.data], laidTests := true, laidLooks := .later }
def ReachOnCardSaid : Prop := Claim7.holds Tryd.pinned (.plain (OpenSpec.ofChange reachOnSpec)) reachOnCard

/-- THE TIED CARD OF 'haymowlaw08.ReachOrder'. -/
def reachOrderCard : Claim7 := { stood := { row := reachOrderRow, standIns := [], harness := (true, "09a3b383f052226d60bb13d2ef40359d65e1d284487da9ad91eca70dab4eaac0"), looks := false }, kinds := [], alts := [], laidByText := true, laidKinds := [.data], laidTests := true, laidLooks := .later }
def ReachOrderCardSaid : Prop := Claim7.holds Tryd.pinned (.plain (OpenSpec.ofChange reachOrderSpec)) reachOrderCard

/-- THE TIED CARD OF 'haymowlaw08.ReachBack'. -/
def reachBackCard : Claim7 := { stood := { row := reachBackRow, standIns := [], harness := (true, "09a3b383f052226d60bb13d2ef40359d65e1d284487da9ad91eca70dab4eaac0"), looks := false }, kinds := [], alts := [], laidByText := true, laidKinds := [.data], laidTests := true, laidLooks := .later }
def ReachBackCardSaid : Prop := Claim7.holds Tryd.pinned (.plain (OpenSpec.ofChange reachBackSpec)) reachBackCard

/-- THE SECOND FORM's CARD OF 'haymowlaw08.ReachCounts'. -/
def reachCountsUptoCard : Claim7 := { stood := { row := reachCountsUptoRow, standIns := [], harness := (true, "09a3b383f052226d60bb13d2ef40359d65e1d284487da9ad91eca70dab4eaac0"), looks := false }, kinds := [], alts := [], laidByText := true, laidKinds := [.data], laidTests := true, laidLooks := .later }
def ReachCountsUptoCardSaid : Prop := Claim7.holds Tryd.pinned (.plain (OpenSpec.upto reachCountsSpec)) reachCountsUptoCard

/-- THE SECOND FORM's CARD OF 'haymowlaw08.ReachNodes'. -/
def reachNodesUptoCard : Claim7 := { stood := { row := reachNodesUptoRow, standIns := [], harness := (true, "09a3b383f052226d60bb13d2ef40359d65e1d284487da9ad91eca70dab4eaac0"), looks := false }, kinds := [], alts := [], laidByText := true, laidKinds := [.data], laidTests := true, laidLooks := .later }
def ReachNodesUptoCardSaid : Prop := Claim7.holds Tryd.pinned (.plain (OpenSpec.upto reachNodesSpec)) reachNodesUptoCard

/-- THE SECOND FORM's CARD OF 'haymowlaw08.ReachPaths'. -/
def reachPathsUptoCard : Claim7 := { stood := { row := reachPathsUptoRow, standIns := [], harness := (true, "09a3b383f052226d60bb13d2ef40359d65e1d284487da9ad91eca70dab4eaac0"), looks := false }, kinds := [], alts := [], laidByText := true, laidKinds := [.data], laidTests := true, laidLooks := .later }
def ReachPathsUptoCardSaid : Prop := Claim7.holds Tryd.pinned (.plain (OpenSpec.upto reachPathsSpec)) reachPathsUptoCard

/-- THE SECOND FORM's CARD OF 'haymowlaw08.ReachOn'. -/
def reachOnUptoCard : Claim7 := { stood := { row := reachOnUptoRow, standIns := [], harness := (true, "09a3b383f052226d60bb13d2ef40359d65e1d284487da9ad91eca70dab4eaac0"), looks := false }, kinds := [], alts := [], laidByText := true, laidKinds := [.data], laidTests := true, laidLooks := .later }
def ReachOnUptoCardSaid : Prop := Claim7.holds Tryd.pinned (.plain (OpenSpec.upto reachOnSpec)) reachOnUptoCard

/-- THE SECOND FORM's CARD OF 'haymowlaw08.ReachOrder'. -/
def reachOrderUptoCard : Claim7 := { stood := { row := reachOrderUptoRow, standIns := [], harness := (true, "09a3b383f052226d60bb13d2ef40359d65e1d284487da9ad91eca70dab4eaac0"), looks := false }, kinds := [], alts := [], laidByText := true, laidKinds := [.data], laidTests := true, laidLooks := .later }
def ReachOrderUptoCardSaid : Prop := Claim7.holds Tryd.pinned (.plain (OpenSpec.upto reachOrderSpec)) reachOrderUptoCard

/-- THE SECOND FORM's CARD OF 'haymowlaw08.ReachBack'. -/
def reachBackUptoCard : Claim7 := { stood := { row := reachBackUptoRow, standIns := [], harness := (true, "09a3b383f052226d60bb13d2ef40359d65e1d284487da9ad91eca70dab4eaac0"), looks := false }, kinds := [], alts := [], laidByText := true, laidKinds := [.data], laidTests := true, laidLooks := .later }
def ReachBackUptoCardSaid : Prop := Claim7.holds Tryd.pinned (.plain (OpenSpec.upto reachBackSpec)) reachBackUptoCard
end Rows
end Go.Proofs.YtcloijjiemlbdaaDoor
