/-
  No cell of these rows narrows 'for every input' (looked for: loops, veiled, ifaces, maps, wideKeys, modest, calm, conditions, laid).
  DERIVED. THE GIVEN ROWS OF THIS SEAT. 3 by the template 'for every input the law returns true; each argument reads behind the call as it read before'; 0 by the template 'total and deterministic' (their statements: YthbnkoaigeffnaaTotals.lean).
  GIVEN WITH THE SEED: the statements are not yours to turn. If you find one false, say at which input.
  Laid BY PROGRAM, IN A SANDBOX (cutbox-rows.mjs): the forced cells as the released guide's own fill.sh prints them over the translation f5d3b055141f9c7a… (all of the seat's roots in one cut). By AI agents, Wed Nov 11 2026. No macro, syntax, notation, axiom, sorry.
-/
import Derived.Test.YthbnkoaigeffnaaChecked
import GoSem.Claim
import GoSem.ClaimJoined
import GoSem.ClaimMapViews
import Derived.JoinedTies
import Derived.KernelRfl
namespace Go.Proofs.Ythbnkoaigeffnaa
/- THE CELL 'sum', in the pinned program and in every row, IS THE sha256 OF THE DUMP (.gsa) THAT YthbnkoaigeffnaaProg.lean LOADS. Nothing in Lean hashes anything: it is a label: what it is worth is what the hold of that sum in a sandbox is worth. -/
noncomputable def Try.pinned : Pinned := { name := "ythbnkoaigeffnaa", sum := "f5d3b055141f9c7aa500620224bb816f367ef5764d366b55058f79b7af583855", checked := Try.checked }
namespace Rows
def none {H : Type} : Left H := { results := [], args := [] }

/-- 'haymowlaw20.TableLeast': WHATEVER THE INPUT: true; the input reads as it did. -/
def tableLeastSpec : ChangeSpec := { name := "tableLeast", fn := fun _ => fun
  | [d1, d2] => { results := [.lit (.bool true)], args := [d1, d2] }
  | _ => none }
def tableLeastRow : OpenClaim := { program := "ythbnkoaigeffnaa", sum := "f5d3b055141f9c7aa500620224bb816f367ef5764d366b55058f79b7af583855", func := "haymow/haymowlaw20.TableLeast", spec := "tableLeast", apart := false }
def TableLeastSaid : Prop := tableLeastRow.holds Try.pinned (OpenSpec.ofChange tableLeastSpec)

/-- ITS FALSE NEIGHBOUR: 'it returns false'. Refute it at one input. -/
def tableLeastWrong : ChangeSpec := { name := "tableLeast", fn := fun _ => fun
  | [d1, d2] => { results := [.lit (.bool false)], args := [d1, d2] }
  | _ => none }
def TableLeastWrongFalsely : Prop := tableLeastRow.holds Try.pinned (OpenSpec.ofChange tableLeastWrong)

/-- 'haymowlaw20.TablePlays': WHATEVER THE INPUT: true; the input reads as it did. -/
def tablePlaysSpec : ChangeSpec := { name := "tablePlays", fn := fun _ => fun
  | [d] => { results := [.lit (.bool true)], args := [d] }
  | _ => none }
def tablePlaysRow : OpenClaim := { program := "ythbnkoaigeffnaa", sum := "f5d3b055141f9c7aa500620224bb816f367ef5764d366b55058f79b7af583855", func := "haymow/haymowlaw20.TablePlays", spec := "tablePlays", apart := false }
def TablePlaysSaid : Prop := tablePlaysRow.holds Try.pinned (OpenSpec.ofChange tablePlaysSpec)

/-- ITS FALSE NEIGHBOUR: 'it returns false'. Refute it at one input. -/
def tablePlaysWrong : ChangeSpec := { name := "tablePlays", fn := fun _ => fun
  | [d] => { results := [.lit (.bool false)], args := [d] }
  | _ => none }
def TablePlaysWrongFalsely : Prop := tablePlaysRow.holds Try.pinned (OpenSpec.ofChange tablePlaysWrong)

/-- 'haymowlaw20.TableOpens': WHATEVER THE INPUT: true; the input reads as it did. -/
def tableOpensSpec : ChangeSpec := { name := "tableOpens", fn := fun _ => fun
  | [d] => { results := [.lit (.bool true)], args := [d] }
  | _ => none }
def tableOpensRow : OpenClaim := { program := "ythbnkoaigeffnaa", sum := "f5d3b055141f9c7aa500620224bb816f367ef5764d366b55058f79b7af583855", func := "haymow/haymowlaw20.TableOpens", spec := "tableOpens", apart := false }
def TableOpensSaid : Prop := tableOpensRow.holds Try.pinned (OpenSpec.ofChange tableOpensSpec)

/-- ITS FALSE NEIGHBOUR: 'it returns false'. Refute it at one input. -/
def tableOpensWrong : ChangeSpec := { name := "tableOpens", fn := fun _ => fun
  | [d] => { results := [.lit (.bool false)], args := [d] }
  | _ => none }
def TableOpensWrongFalsely : Prop := tableOpensRow.holds Try.pinned (OpenSpec.ofChange tableOpensWrong)

/- THE SECOND FORM. 'bulk': how many values and letters a reading holds, each counted each time it is reached (what is shared counts as often as it is met; a slice's spare places count too). A statement '..UptoSaid' is the law's where the arguments, and the package variables that the reading takes, are together of bulk at most 1048576: NARROWER than '..Said'. Prove '..Said' where nothing that the law and all that it calls make is longer than what came in: it says more and counts as full. Else prove '..UptoSaid'. A law counts once. -/
mutual
def uptoBulk {H : Type} : DataW H → Nat
  | .lit (.string bytes) => bytes.length + 1
  | .lit _ => 1
  | .nil => 1
  | .ptr d => uptoBulk d + 1
  | .slice elems spare => uptoBulkAll elems + uptoBulkAll spare + 1
  | .agg parts => uptoBulkAll parts + 1
  | .iface _ d => uptoBulk d + 1
  | .map entries => uptoBulkEntries entries + 1
  | .held _ => 1
def uptoBulkAll {H : Type} : List (DataW H) → Nat
  | [] => 0
  | d :: r => uptoBulk d + uptoBulkAll r
def uptoBulkEntries {H : Type} : List (Lit × DataW H) → Nat
  | [] => 0
  | x :: r => uptoBulkEntry x + uptoBulkEntries r
def uptoBulkEntry {H : Type} : Lit × DataW H → Nat
  | (.string bytes, d) => bytes.length + uptoBulk d + 1
  | (_, d) => uptoBulk d + 1
 end
def uptoSmall : (H : Type) → List (DataW H) → Bool := fun _ ds => decide (uptoBulkAll ds ≤ 1048576)
def OpenSpec.upto (s : _root_.Go.ChangeSpec) : _root_.Go.OpenSpec := { _root_.Go.OpenSpec.ofChange s with cond := some uptoSmall }

/-- 'haymowlaw20.TableLeast', WHERE WHAT IT READS IS OF BULK AT MOST 1048576: true; the input reads as it did. -/
def tableLeastUptoRow : OpenClaim := { program := "ythbnkoaigeffnaa", sum := "f5d3b055141f9c7aa500620224bb816f367ef5764d366b55058f79b7af583855", func := "haymow/haymowlaw20.TableLeast", spec := "tableLeast", apart := false, narrowed := true }
def TableLeastUptoSaid : Prop := tableLeastUptoRow.holds Try.pinned (OpenSpec.upto tableLeastSpec)

/-- 'haymowlaw20.TablePlays', WHERE WHAT IT READS IS OF BULK AT MOST 1048576: true; the input reads as it did. -/
def tablePlaysUptoRow : OpenClaim := { program := "ythbnkoaigeffnaa", sum := "f5d3b055141f9c7aa500620224bb816f367ef5764d366b55058f79b7af583855", func := "haymow/haymowlaw20.TablePlays", spec := "tablePlays", apart := false, narrowed := true }
def TablePlaysUptoSaid : Prop := tablePlaysUptoRow.holds Try.pinned (OpenSpec.upto tablePlaysSpec)

/-- 'haymowlaw20.TableOpens', WHERE WHAT IT READS IS OF BULK AT MOST 1048576: true; the input reads as it did. -/
def tableOpensUptoRow : OpenClaim := { program := "ythbnkoaigeffnaa", sum := "f5d3b055141f9c7aa500620224bb816f367ef5764d366b55058f79b7af583855", func := "haymow/haymowlaw20.TableOpens", spec := "tableOpens", apart := false, narrowed := true }
def TableOpensUptoSaid : Prop := tableOpensUptoRow.holds Try.pinned (OpenSpec.upto tableOpensSpec)

end Rows
end Go.Proofs.Ythbnkoaigeffnaa
