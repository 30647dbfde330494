/-
  NARROWER THAN 'FOR EVERY INPUT', by the rows' own cells (each row's printed sentence says how): ReachCounts: laid · ReachNodes: laid · ReachPaths: laid · ReachOn: laid · ReachOrder: laid · ReachBack: laid.
  DERIVED. THE GIVEN ROWS OF THIS SEAT. 6 by the template 'for every input the law returns true; each argument reads behind the call as it read before'; 0 by the template 'total and deterministic' (their statements: YtcloijjiemlbdaaDoorTotals.lean).
  GIVEN WITH THE SEED: the statements are not yours to turn. If you find one false, say at which input.
  Laid BY PROGRAM, IN A SANDBOX (cutbox-rows.mjs): the forced cells as the released guide's own fill.sh prints them over the translation 726feefba04e2aad… (all of the seat's roots in one cut). By AI agents, Wed Nov 11 2026. No macro, syntax, notation, axiom, sorry.
-/
import Derived.Test.YtcloijjiemlbdaaDoorChecked
import GoSem.Claim
import GoSem.ClaimJoined
import GoSem.ClaimMapViews
import Derived.JoinedTies
import Derived.KernelRfl
namespace Go.Proofs.YtcloijjiemlbdaaDoor
/- THE CELL 'sum', in the pinned program and in every row, IS THE sha256 OF THE DUMP (.gsa) THAT YtcloijjiemlbdaaDoorProg.lean LOADS. Nothing in Lean hashes anything: it is a label: what it is worth is what the hold of that sum in a sandbox is worth. -/
noncomputable def Tryd.pinned : Pinned := { name := "ytcloijjiemlbdaadoor", sum := "726feefba04e2aad07f4310f7e6d2078648e2876cdaf9c5cc78fbf12b68a2ce4", checked := Tryd.checked }
namespace Rows
def none {H : Type} : Left H := { results := [], args := [] }

/- WHAT THE LISTED PACKAGE-LEVEL VARIABLES READ AS WHEN THE CALL BEGINS. Each datum BY PROGRAM (the guide's laid-datum.mjs) off the statement by which the dump's own 'gosem.cut.vars' lays the variable. In a bare row this is a premise. The card (YtcloijjiemlbdaaDoorCards.lean) ties it to the program's text. -/
def laid_haymow_reach_reaches {H : Type} : DataW H := .agg [.lit (.int .i64 1), .lit (.int .i64 1), .lit (.int .i64 1), .lit (.int .i64 1), .lit (.int .i64 1), .lit (.int .i64 1), .lit (.int .i64 15), .lit (.int .i64 225), .lit (.int .i64 3375)]

/-- 'haymowlaw08.ReachCounts': WHATEVER THE INPUT: true; the input reads as it did. -/
def reachCountsSpec : ChangeSpec := { name := "reachCounts", fn := fun _ => fun
  | [d1, d2] => { results := [.lit (.bool true)], args := [d1, d2] }
  | _ => none }
def reachCountsRow : OpenClaim := { program := "ytcloijjiemlbdaadoor", sum := "726feefba04e2aad07f4310f7e6d2078648e2876cdaf9c5cc78fbf12b68a2ce4", func := "haymow/haymowlaw08.ReachCounts", spec := "reachCounts", named := ["haymow/reach.reaches"], apart := false, laid := [("haymow/reach.reaches", laid_haymow_reach_reaches)] }
def ReachCountsSaid : Prop := reachCountsRow.holds Tryd.pinned (OpenSpec.ofChange reachCountsSpec)

/-- ITS FALSE NEIGHBOUR: 'it returns false'. Refute it at one input. -/
def reachCountsWrong : ChangeSpec := { name := "reachCounts", fn := fun _ => fun
  | [d1, d2] => { results := [.lit (.bool false)], args := [d1, d2] }
  | _ => none }
def ReachCountsWrongFalsely : Prop := reachCountsRow.holds Tryd.pinned (OpenSpec.ofChange reachCountsWrong)

/-- 'haymowlaw08.ReachNodes': WHATEVER THE INPUT: true; the input reads as it did. -/
def reachNodesSpec : ChangeSpec := { name := "reachNodes", fn := fun _ => fun
  | [d1, d2] => { results := [.lit (.bool true)], args := [d1, d2] }
  | _ => none }
def reachNodesRow : OpenClaim := { program := "ytcloijjiemlbdaadoor", sum := "726feefba04e2aad07f4310f7e6d2078648e2876cdaf9c5cc78fbf12b68a2ce4", func := "haymow/haymowlaw08.ReachNodes", spec := "reachNodes", named := ["haymow/reach.reaches"], apart := false, laid := [("haymow/reach.reaches", laid_haymow_reach_reaches)] }
def ReachNodesSaid : Prop := reachNodesRow.holds Tryd.pinned (OpenSpec.ofChange reachNodesSpec)

/-- ITS FALSE NEIGHBOUR: 'it returns false'. Refute it at one input. -/
def reachNodesWrong : ChangeSpec := { name := "reachNodes", fn := fun _ => fun
  | [d1, d2] => { results := [.lit (.bool false)], args := [d1, d2] }
  | _ => none }
def ReachNodesWrongFalsely : Prop := reachNodesRow.holds Tryd.pinned (OpenSpec.ofChange reachNodesWrong)

/-- 'haymowlaw08.ReachPaths': WHATEVER THE INPUT: true; the input reads as it did. -/
def reachPathsSpec : ChangeSpec := { name := "reachPaths", fn := fun _ => fun
  | [d1, d2] => { results := [.lit (.bool true)], args := [d1, d2] }
  | _ => none }
def reachPathsRow : OpenClaim := { program := "ytcloijjiemlbdaadoor", sum := "726feefba04e2aad07f4310f7e6d2078648e2876cdaf9c5cc78fbf12b68a2ce4", func := "haymow/haymowlaw08.ReachPaths", spec := "reachPaths", named := ["haymow/reach.reaches"], apart := false, laid := [("haymow/reach.reaches", laid_haymow_reach_reaches)] }
def ReachPathsSaid : Prop := reachPathsRow.holds Tryd.pinned (OpenSpec.ofChange reachPathsSpec)

/-- ITS FALSE NEIGHBOUR: 'it returns false'. Refute it at one input. -/
def reachPathsWrong : ChangeSpec := { name := "reachPaths", fn := fun _ => fun
  | [d1, d2] => { results := [.lit (.bool false)], args := [d1, d2] }
  | _ => none }
def ReachPathsWrongFalsely : Prop := reachPathsRow.holds Tryd.pinned (OpenSpec.ofChange reachPathsWrong)

/-- 'haymowlaw08.ReachOn': WHATEVER THE INPUT: true; the input reads as it did. -/
def reachOnSpec : ChangeSpec := { name := "reachOn", fn := fun _ => fun
  | [d] => { results := [.lit (.bool true)], args := [d] }
  | _ => none }
def reachOnRow : OpenClaim := { program := "ytcloijjiemlbdaadoor", sum := "726feefba04e2aad07f4310f7e6d2078648e2876cdaf9c5cc78fbf12b68a2ce4", func := "haymow/haymowlaw08.ReachOn", spec := "reachOn", named := ["haymow/reach.reaches"], apart := false, laid := [("haymow/reach.reaches", laid_haymow_reach_reaches)] }
def ReachOnSaid : Prop := reachOnRow.holds Tryd.pinned (OpenSpec.ofChange reachOnSpec)

/-- ITS FALSE NEIGHBOUR: 'it returns false'. Refute it at one input. -/
def reachOnWrong : ChangeSpec := { name := "reachOn", fn := fun _ => fun
  | [d] => { results := [.lit (.bool false)], args := [d] }
  | _ => none }
def ReachOnWrongFalsely : Prop := reachOnRow.holds Tryd.pinned (OpenSpec.ofChange reachOnWrong)

/-- 'haymowlaw08.ReachOrder': WHATEVER THE INPUT: true; the input reads as it did. -/
def reachOrderSpec : ChangeSpec := { name := "reachOrder", fn := fun _ => fun
  | [d1, d2, d3] => { results := [.lit (.bool true)], args := [d1, d2, d3] }
  | _ => none }
def reachOrderRow : OpenClaim := { program := "ytcloijjiemlbdaadoor", sum := "726feefba04e2aad07f4310f7e6d2078648e2876cdaf9c5cc78fbf12b68a2ce4", func := "haymow/haymowlaw08.ReachOrder", spec := "reachOrder", named := ["haymow/reach.reaches"], apart := false, laid := [("haymow/reach.reaches", laid_haymow_reach_reaches)] }
def ReachOrderSaid : Prop := reachOrderRow.holds Tryd.pinned (OpenSpec.ofChange reachOrderSpec)

/-- ITS FALSE NEIGHBOUR: 'it returns false'. Refute it at one input. -/
def reachOrderWrong : ChangeSpec := { name := "reachOrder", fn := fun _ => fun
  | [d1, d2, d3] => { results := [.lit (.bool false)], args := [d1, d2, d3] }
  | _ => none }
def ReachOrderWrongFalsely : Prop := reachOrderRow.holds Tryd.pinned (OpenSpec.ofChange reachOrderWrong)

/-- 'haymowlaw08.ReachBack': WHATEVER THE INPUT: true; the input reads as it did. -/
def reachBackSpec : ChangeSpec := { name := "reachBack", fn := fun _ => fun
  | [d1, d2] => { results := [.lit (.bool true)], args := [d1, d2] }
  | _ => none }
def reachBackRow : OpenClaim := { program := "ytcloijjiemlbdaadoor", sum := "726feefba04e2aad07f4310f7e6d2078648e2876cdaf9c5cc78fbf12b68a2ce4", func := "haymow/haymowlaw08.ReachBack", spec := "reachBack", named := ["haymow/reach.reaches"], apart := false, laid := [("haymow/reach.reaches", laid_haymow_reach_reaches)] }
def ReachBackSaid : Prop := reachBackRow.holds Tryd.pinned (OpenSpec.ofChange reachBackSpec)

/-- ITS FALSE NEIGHBOUR: 'it returns false'. Refute it at one input. -/
def reachBackWrong : ChangeSpec := { name := "reachBack", fn := fun _ => fun
  | [d1, d2] => { results := [.lit (.bool false)], args := [d1, d2] }
  | _ => none }
def ReachBackWrongFalsely : Prop := reachBackRow.holds Tryd.pinned (OpenSpec.ofChange reachBackWrong)

/- THE SECOND FORM. 'bulk': how many values and letters a reading holds, each counted each time it is reached (what is shared counts as often as it is met; a slice's spare places count too). A statement '..UptoSaid' is the law's where the arguments, and the package variables that the reading takes, are together of bulk at most 1048576: NARROWER than '..Said'. Prove '..Said' where nothing that the law and all that it calls make is longer than what came in: it says more and counts as full. Else prove '..UptoSaid'. A law counts once. -/
mutual
def uptoBulk {H : Type} : DataW H → Nat
  | .lit (.string bytes) => bytes.length + 1
  | .lit _ => 1
  | .nil => 1
  | .ptr d => uptoBulk d + 1
  | .slice elems spare => uptoBulkAll elems + uptoBulkAll spare + 1
  | .agg parts => uptoBulkAll parts + 1
  | .iface _ d => uptoBulk d + 1
  | .map entries => uptoBulkEntries entries + 1
  | .held _ => 1
def uptoBulkAll {H : Type} : List (DataW H) → Nat
  | [] => 0
  | d :: r => uptoBulk d + uptoBulkAll r
def uptoBulkEntries {H : Type} : List (Lit × DataW H) → Nat
  | [] => 0
  | x :: r => uptoBulkEntry x + uptoBulkEntries r
def uptoBulkEntry {H : Type} : Lit × DataW H → Nat
  | (.string bytes, d) => bytes.length + uptoBulk d + 1
  | (_, d) => uptoBulk d + 1
 end
def uptoSmall : (H : Type) → List (DataW H) → Bool := fun _ ds => decide (uptoBulkAll ds ≤ 1048576)
def OpenSpec.upto (s : _root_.Go.ChangeSpec) : _root_.Go.OpenSpec := { _root_.Go.OpenSpec.ofChange s with cond := some uptoSmall }

/-- 'haymowlaw08.ReachCounts', WHERE WHAT IT READS IS OF BULK AT MOST 1048576: true; the input reads as it did. -/
def reachCountsUptoRow : OpenClaim := { program := "ytcloijjiemlbdaadoor", sum := "726feefba04e2aad07f4310f7e6d2078648e2876cdaf9c5cc78fbf12b68a2ce4", func := "haymow/haymowlaw08.ReachCounts", spec := "reachCounts", named := ["haymow/reach.reaches"], apart := false, laid := [("haymow/reach.reaches", laid_haymow_reach_reaches)], narrowed := true }
def ReachCountsUptoSaid : Prop := reachCountsUptoRow.holds Tryd.pinned (OpenSpec.upto reachCountsSpec)

/-- 'haymowlaw08.ReachNodes', WHERE WHAT IT READS IS OF BULK AT MOST 1048576: true; the input reads as it did. -/
def reachNodesUptoRow : OpenClaim := { program := "ytcloijjiemlbdaadoor", sum := "726feefba04e2aad07f4310f7e6d2078648e2876cdaf9c5cc78fbf12b68a2ce4", func := "haymow/haymowlaw08.ReachNodes", spec := "reachNodes", named := ["haymow/reach.reaches"], apart := false, laid := [("haymow/reach.reaches", laid_haymow_reach_reaches)], narrowed := true }
def ReachNodesUptoSaid : Prop := reachNodesUptoRow.holds Tryd.pinned (OpenSpec.upto reachNodesSpec)

/-- 'haymowlaw08.ReachPaths', WHERE WHAT IT READS IS OF BULK AT MOST 1048576: true; the input reads as it did. -/
def reachPathsUptoRow : OpenClaim := { program := "ytcloijjiemlbdaadoor", sum := "726feefba04e2aad07f4310f7e6d2078648e2876cdaf9c5cc78fbf12b68a2ce4", func := "haymow/haymowlaw08.ReachPaths", spec := "reachPaths", named := ["haymow/reach.reaches"], apart := false, laid := [("haymow/reach.reaches", laid_haymow_reach_reaches)], narrowed := true }
def ReachPathsUptoSaid : Prop := reachPathsUptoRow.holds Tryd.pinned (OpenSpec.upto reachPathsSpec)

/-- 'haymowlaw08.ReachOn', WHERE WHAT IT READS IS OF BULK AT MOST 1048576: true; the input reads as it did. -/
def reachOnUptoRow : OpenClaim := { program := "ytcloijjiemlbdaadoor", sum := "726feefba04e2aad07f4310f7e6d2078648e2876cdaf9c5cc78fbf12b68a2ce4", func := "haymow/haymowlaw08.ReachOn", spec := "reachOn", named := ["haymow/reach.reaches"], apart := false, laid := [("haymow/reach.reaches", laid_haymow_reach_reaches)], narrowed := true }
def ReachOnUptoSaid : Prop := reachOnUptoRow.holds Tryd.pinned (OpenSpec.upto reachOnSpec)

/-- 'haymowlaw08.ReachOrder', WHERE WHAT IT READS IS OF BULK AT MOST 1048576: true; the input reads as it did. -/
def reachOrderUptoRow : OpenClaim := { program := "ytcloijjiemlbdaadoor", sum := "726feefba04e2aad07f4310f7e6d2078648e2876cdaf9c5cc78fbf12b68a2ce4", func := "haymow/haymowlaw08.ReachOrder", spec := "reachOrder", named := ["haymow/reach.reaches"], apart := false, laid := [("haymow/reach.reaches", laid_haymow_reach_reaches)], narrowed := true }
def ReachOrderUptoSaid : Prop := reachOrderUptoRow.holds Tryd.pinned (OpenSpec.upto reachOrderSpec)

/-- 'haymowlaw08.ReachBack', WHERE WHAT IT READS IS OF BULK AT MOST 1048576: true; the input reads as it did. -/
def reachBackUptoRow : OpenClaim := { program := "ytcloijjiemlbdaadoor", sum := "726feefba04e2aad07f4310f7e6d2078648e2876cdaf9c5cc78fbf12b68a2ce4", func := "haymow/haymowlaw08.ReachBack", spec := "reachBack", named := ["haymow/reach.reaches"], apart := false, laid := [("haymow/reach.reaches", laid_haymow_reach_reaches)], narrowed := true }
def ReachBackUptoSaid : Prop := reachBackUptoRow.holds Tryd.pinned (OpenSpec.upto reachBackSpec)

end Rows
end Go.Proofs.YtcloijjiemlbdaaDoor
