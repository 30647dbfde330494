/-
  No cell of these rows narrows 'for every input' (looked for: loops, veiled, ifaces, maps, wideKeys, modest, calm, conditions, laid).
  DERIVED. THE GIVEN ROWS OF THIS SEAT. 4 by the template 'for every input the law returns true; each argument reads behind the call as it read before'; 0 by the template 'total and deterministic' (their statements: YtnpkoncflplpiaaTotals.lean).
  GIVEN WITH THE SEED: the statements are not yours to turn. If you find one false, say at which input.
  Laid BY PROGRAM, IN A SANDBOX (cutbox-rows.mjs): the forced cells as the released guide's own fill.sh prints them over the translation 65d0d6c4ba14573d… (all of the seat's roots in one cut). By AI agents, Wed Nov 11 2026. No macro, syntax, notation, axiom, sorry.
-/
import Derived.Test.YtnpkoncflplpiaaChecked
import GoSem.Claim
import GoSem.ClaimJoined
import GoSem.ClaimMapViews
import Derived.JoinedTies
import Derived.KernelRfl
namespace Go.Proofs.Ytnpkoncflplpiaa
/- THE CELL 'sum', in the pinned program and in every row, IS THE sha256 OF THE DUMP (.gsa) THAT YtnpkoncflplpiaaProg.lean LOADS. Nothing in Lean hashes anything: it is a label: what it is worth is what the hold of that sum in a sandbox is worth. -/
noncomputable def Try.pinned : Pinned := { name := "ytnpkoncflplpiaa", sum := "65d0d6c4ba14573db0e0b9010c5bb029abe59694f689737745796602c47f5651", checked := Try.checked }
namespace Rows
def none {H : Type} : Left H := { results := [], args := [] }

/-- 'haymowlaw15.UsageCounts': WHATEVER THE INPUT: true; the input reads as it did. -/
def usageCountsSpec : ChangeSpec := { name := "usageCounts", fn := fun _ => fun
  | [d1, d2, d3] => { results := [.lit (.bool true)], args := [d1, d2, d3] }
  | _ => none }
def usageCountsRow : OpenClaim := { program := "ytnpkoncflplpiaa", sum := "65d0d6c4ba14573db0e0b9010c5bb029abe59694f689737745796602c47f5651", func := "haymow/haymowlaw15.UsageCounts", spec := "usageCounts", unfollowed := true, recurses := true, apart := false }
def UsageCountsSaid : Prop := usageCountsRow.holds Try.pinned (OpenSpec.ofChange usageCountsSpec)

/-- ITS FALSE NEIGHBOUR: 'it returns false'. Refute it at one input. -/
def usageCountsWrong : ChangeSpec := { name := "usageCounts", fn := fun _ => fun
  | [d1, d2, d3] => { results := [.lit (.bool false)], args := [d1, d2, d3] }
  | _ => none }
def UsageCountsWrongFalsely : Prop := usageCountsRow.holds Try.pinned (OpenSpec.ofChange usageCountsWrong)

/-- 'haymowlaw15.UsageFrees': WHATEVER THE INPUT: true; the input reads as it did. -/
def usageFreesSpec : ChangeSpec := { name := "usageFrees", fn := fun _ => fun
  | [d] => { results := [.lit (.bool true)], args := [d] }
  | _ => none }
def usageFreesRow : OpenClaim := { program := "ytnpkoncflplpiaa", sum := "65d0d6c4ba14573db0e0b9010c5bb029abe59694f689737745796602c47f5651", func := "haymow/haymowlaw15.UsageFrees", spec := "usageFrees", unfollowed := true, recurses := true, apart := false }
def UsageFreesSaid : Prop := usageFreesRow.holds Try.pinned (OpenSpec.ofChange usageFreesSpec)

/-- ITS FALSE NEIGHBOUR: 'it returns false'. Refute it at one input. -/
def usageFreesWrong : ChangeSpec := { name := "usageFrees", fn := fun _ => fun
  | [d] => { results := [.lit (.bool false)], args := [d] }
  | _ => none }
def UsageFreesWrongFalsely : Prop := usageFreesRow.holds Try.pinned (OpenSpec.ofChange usageFreesWrong)

/-- 'haymowlaw15.UsageRound': WHATEVER THE INPUT: true; the input reads as it did. -/
def usageRoundSpec : ChangeSpec := { name := "usageRound", fn := fun _ => fun
  | [d1, d2, d3] => { results := [.lit (.bool true)], args := [d1, d2, d3] }
  | _ => none }
def usageRoundRow : OpenClaim := { program := "ytnpkoncflplpiaa", sum := "65d0d6c4ba14573db0e0b9010c5bb029abe59694f689737745796602c47f5651", func := "haymow/haymowlaw15.UsageRound", spec := "usageRound", unfollowed := true, recurses := true, apart := false }
def UsageRoundSaid : Prop := usageRoundRow.holds Try.pinned (OpenSpec.ofChange usageRoundSpec)

/-- ITS FALSE NEIGHBOUR: 'it returns false'. Refute it at one input. -/
def usageRoundWrong : ChangeSpec := { name := "usageRound", fn := fun _ => fun
  | [d1, d2, d3] => { results := [.lit (.bool false)], args := [d1, d2, d3] }
  | _ => none }
def UsageRoundWrongFalsely : Prop := usageRoundRow.holds Try.pinned (OpenSpec.ofChange usageRoundWrong)

/-- 'haymowlaw15.UsageOnce': WHATEVER THE INPUT: true; the input reads as it did. -/
def usageOnceSpec : ChangeSpec := { name := "usageOnce", fn := fun _ => fun
  | [d1, d2] => { results := [.lit (.bool true)], args := [d1, d2] }
  | _ => none }
def usageOnceRow : OpenClaim := { program := "ytnpkoncflplpiaa", sum := "65d0d6c4ba14573db0e0b9010c5bb029abe59694f689737745796602c47f5651", func := "haymow/haymowlaw15.UsageOnce", spec := "usageOnce", unfollowed := true, recurses := true, apart := false }
def UsageOnceSaid : Prop := usageOnceRow.holds Try.pinned (OpenSpec.ofChange usageOnceSpec)

/-- ITS FALSE NEIGHBOUR: 'it returns false'. Refute it at one input. -/
def usageOnceWrong : ChangeSpec := { name := "usageOnce", fn := fun _ => fun
  | [d1, d2] => { results := [.lit (.bool false)], args := [d1, d2] }
  | _ => none }
def UsageOnceWrongFalsely : Prop := usageOnceRow.holds Try.pinned (OpenSpec.ofChange usageOnceWrong)

/- THE SECOND FORM. 'bulk': how many values and letters a reading holds, each counted each time it is reached (what is shared counts as often as it is met; a slice's spare places count too). A statement '..UptoSaid' is the law's where the arguments, and the package variables that the reading takes, are together of bulk at most 1048576: NARROWER than '..Said'. Prove '..Said' where nothing that the law and all that it calls make is longer than what came in: it says more and counts as full. Else prove '..UptoSaid'. A law counts once. -/
mutual
def uptoBulk {H : Type} : DataW H → Nat
  | .lit (.string bytes) => bytes.length + 1
  | .lit _ => 1
  | .nil => 1
  | .ptr d => uptoBulk d + 1
  | .slice elems spare => uptoBulkAll elems + uptoBulkAll spare + 1
  | .agg parts => uptoBulkAll parts + 1
  | .iface _ d => uptoBulk d + 1
  | .map entries => uptoBulkEntries entries + 1
  | .held _ => 1
def uptoBulkAll {H : Type} : List (DataW H) → Nat
  | [] => 0
  | d :: r => uptoBulk d + uptoBulkAll r
def uptoBulkEntries {H : Type} : List (Lit × DataW H) → Nat
  | [] => 0
  | x :: r => uptoBulkEntry x + uptoBulkEntries r
def uptoBulkEntry {H : Type} : Lit × DataW H → Nat
  | (.string bytes, d) => bytes.length + uptoBulk d + 1
  | (_, d) => uptoBulk d + 1
 end
def uptoSmall : (H : Type) → List (DataW H) → Bool := fun _ ds => decide (uptoBulkAll ds ≤ 1048576)
def OpenSpec.upto (s : _root_.Go.ChangeSpec) : _root_.Go.OpenSpec := { _root_.Go.OpenSpec.ofChange s with cond := some uptoSmall }

/-- 'haymowlaw15.UsageCounts', WHERE WHAT IT READS IS OF BULK AT MOST 1048576: true; the input reads as it did. -/
def usageCountsUptoRow : OpenClaim := { program := "ytnpkoncflplpiaa", sum := "65d0d6c4ba14573db0e0b9010c5bb029abe59694f689737745796602c47f5651", func := "haymow/haymowlaw15.UsageCounts", spec := "usageCounts", unfollowed := true, recurses := true, apart := false, narrowed := true }
def UsageCountsUptoSaid : Prop := usageCountsUptoRow.holds Try.pinned (OpenSpec.upto usageCountsSpec)

/-- 'haymowlaw15.UsageFrees', WHERE WHAT IT READS IS OF BULK AT MOST 1048576: true; the input reads as it did. -/
def usageFreesUptoRow : OpenClaim := { program := "ytnpkoncflplpiaa", sum := "65d0d6c4ba14573db0e0b9010c5bb029abe59694f689737745796602c47f5651", func := "haymow/haymowlaw15.UsageFrees", spec := "usageFrees", unfollowed := true, recurses := true, apart := false, narrowed := true }
def UsageFreesUptoSaid : Prop := usageFreesUptoRow.holds Try.pinned (OpenSpec.upto usageFreesSpec)

/-- 'haymowlaw15.UsageRound', WHERE WHAT IT READS IS OF BULK AT MOST 1048576: true; the input reads as it did. -/
def usageRoundUptoRow : OpenClaim := { program := "ytnpkoncflplpiaa", sum := "65d0d6c4ba14573db0e0b9010c5bb029abe59694f689737745796602c47f5651", func := "haymow/haymowlaw15.UsageRound", spec := "usageRound", unfollowed := true, recurses := true, apart := false, narrowed := true }
def UsageRoundUptoSaid : Prop := usageRoundUptoRow.holds Try.pinned (OpenSpec.upto usageRoundSpec)

/-- 'haymowlaw15.UsageOnce', WHERE WHAT IT READS IS OF BULK AT MOST 1048576: true; the input reads as it did. -/
def usageOnceUptoRow : OpenClaim := { program := "ytnpkoncflplpiaa", sum := "65d0d6c4ba14573db0e0b9010c5bb029abe59694f689737745796602c47f5651", func := "haymow/haymowlaw15.UsageOnce", spec := "usageOnce", unfollowed := true, recurses := true, apart := false, narrowed := true }
def UsageOnceUptoSaid : Prop := usageOnceUptoRow.holds Try.pinned (OpenSpec.upto usageOnceSpec)

end Rows
end Go.Proofs.Ytnpkoncflplpiaa
