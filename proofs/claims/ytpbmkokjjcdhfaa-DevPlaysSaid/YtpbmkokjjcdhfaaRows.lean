/-
  No cell of these rows narrows 'for every input' (looked for: loops, veiled, ifaces, maps, wideKeys, modest, calm, conditions, laid).
  DERIVED. THE GIVEN ROWS OF THIS SEAT. 5 by the template 'for every input the law returns true; each argument reads behind the call as it read before'; 0 by the template 'total and deterministic' (their statements: YtpbmkokjjcdhfaaTotals.lean).
  GIVEN WITH THE SEED: the statements are not yours to turn. If you find one false, say at which input.
  Laid BY PROGRAM, IN A SANDBOX (cutbox-rows.mjs): the forced cells as the released guide's own fill.sh prints them over the translation 1586232a8da3f2a0… (all of the seat's roots in one cut). By AI agents, Wed Nov 11 2026. No macro, syntax, notation, axiom, sorry.
-/
import Derived.Test.YtpbmkokjjcdhfaaChecked
import GoSem.Claim
import GoSem.ClaimJoined
import GoSem.ClaimMapViews
import Derived.JoinedTies
import Derived.KernelRfl
namespace Go.Proofs.Ytpbmkokjjcdhfaa
/- THE CELL 'sum', in the pinned program and in every row, IS THE sha256 OF THE DUMP (.gsa) THAT YtpbmkokjjcdhfaaProg.lean LOADS. Nothing in Lean hashes anything: it is a label: what it is worth is what the hold of that sum in a sandbox is worth. -/
noncomputable def Try.pinned : Pinned := { name := "ytpbmkokjjcdhfaa", sum := "1586232a8da3f2a0e79cb0774af1888e916ed02dc07e3264d085a454d3eaf348", checked := Try.checked }
namespace Rows
def none {H : Type} : Left H := { results := [], args := [] }

/-- 'haymowlaw04.DevKeeps': WHATEVER THE INPUT: true; the input reads as it did. -/
def devKeepsSpec : ChangeSpec := { name := "devKeeps", fn := fun _ => fun
  | [d1, d2, d3] => { results := [.lit (.bool true)], args := [d1, d2, d3] }
  | _ => none }
def devKeepsRow : OpenClaim := { program := "ytpbmkokjjcdhfaa", sum := "1586232a8da3f2a0e79cb0774af1888e916ed02dc07e3264d085a454d3eaf348", func := "haymow/haymowlaw04.DevKeeps", spec := "devKeeps", unfollowed := true, recurses := true, apart := false }
def DevKeepsSaid : Prop := devKeepsRow.holds Try.pinned (OpenSpec.ofChange devKeepsSpec)

/-- ITS FALSE NEIGHBOUR: 'it returns false'. Refute it at one input. -/
def devKeepsWrong : ChangeSpec := { name := "devKeeps", fn := fun _ => fun
  | [d1, d2, d3] => { results := [.lit (.bool false)], args := [d1, d2, d3] }
  | _ => none }
def DevKeepsWrongFalsely : Prop := devKeepsRow.holds Try.pinned (OpenSpec.ofChange devKeepsWrong)

/-- 'haymowlaw04.DevReads': WHATEVER THE INPUT: true; the input reads as it did. -/
def devReadsSpec : ChangeSpec := { name := "devReads", fn := fun _ => fun
  | [d1, d2] => { results := [.lit (.bool true)], args := [d1, d2] }
  | _ => none }
def devReadsRow : OpenClaim := { program := "ytpbmkokjjcdhfaa", sum := "1586232a8da3f2a0e79cb0774af1888e916ed02dc07e3264d085a454d3eaf348", func := "haymow/haymowlaw04.DevReads", spec := "devReads", unfollowed := true, recurses := true, apart := false }
def DevReadsSaid : Prop := devReadsRow.holds Try.pinned (OpenSpec.ofChange devReadsSpec)

/-- ITS FALSE NEIGHBOUR: 'it returns false'. Refute it at one input. -/
def devReadsWrong : ChangeSpec := { name := "devReads", fn := fun _ => fun
  | [d1, d2] => { results := [.lit (.bool false)], args := [d1, d2] }
  | _ => none }
def DevReadsWrongFalsely : Prop := devReadsRow.holds Try.pinned (OpenSpec.ofChange devReadsWrong)

/-- 'haymowlaw04.DevTorn': WHATEVER THE INPUT: true; the input reads as it did. -/
def devTornSpec : ChangeSpec := { name := "devTorn", fn := fun _ => fun
  | [d1, d2, d3] => { results := [.lit (.bool true)], args := [d1, d2, d3] }
  | _ => none }
def devTornRow : OpenClaim := { program := "ytpbmkokjjcdhfaa", sum := "1586232a8da3f2a0e79cb0774af1888e916ed02dc07e3264d085a454d3eaf348", func := "haymow/haymowlaw04.DevTorn", spec := "devTorn", unfollowed := true, recurses := true, apart := false }
def DevTornSaid : Prop := devTornRow.holds Try.pinned (OpenSpec.ofChange devTornSpec)

/-- ITS FALSE NEIGHBOUR: 'it returns false'. Refute it at one input. -/
def devTornWrong : ChangeSpec := { name := "devTorn", fn := fun _ => fun
  | [d1, d2, d3] => { results := [.lit (.bool false)], args := [d1, d2, d3] }
  | _ => none }
def DevTornWrongFalsely : Prop := devTornRow.holds Try.pinned (OpenSpec.ofChange devTornWrong)

/-- 'haymowlaw04.DevErases': WHATEVER THE INPUT: true; the input reads as it did. -/
def devErasesSpec : ChangeSpec := { name := "devErases", fn := fun _ => fun
  | [d1, d2] => { results := [.lit (.bool true)], args := [d1, d2] }
  | _ => none }
def devErasesRow : OpenClaim := { program := "ytpbmkokjjcdhfaa", sum := "1586232a8da3f2a0e79cb0774af1888e916ed02dc07e3264d085a454d3eaf348", func := "haymow/haymowlaw04.DevErases", spec := "devErases", unfollowed := true, recurses := true, apart := false }
def DevErasesSaid : Prop := devErasesRow.holds Try.pinned (OpenSpec.ofChange devErasesSpec)

/-- ITS FALSE NEIGHBOUR: 'it returns false'. Refute it at one input. -/
def devErasesWrong : ChangeSpec := { name := "devErases", fn := fun _ => fun
  | [d1, d2] => { results := [.lit (.bool false)], args := [d1, d2] }
  | _ => none }
def DevErasesWrongFalsely : Prop := devErasesRow.holds Try.pinned (OpenSpec.ofChange devErasesWrong)

/-- 'haymowlaw04.DevPlays': WHATEVER THE INPUT: true; the input reads as it did. -/
def devPlaysSpec : ChangeSpec := { name := "devPlays", fn := fun _ => fun
  | [d1, d2] => { results := [.lit (.bool true)], args := [d1, d2] }
  | _ => none }
def devPlaysRow : OpenClaim := { program := "ytpbmkokjjcdhfaa", sum := "1586232a8da3f2a0e79cb0774af1888e916ed02dc07e3264d085a454d3eaf348", func := "haymow/haymowlaw04.DevPlays", spec := "devPlays", unfollowed := true, recurses := true, apart := false }
def DevPlaysSaid : Prop := devPlaysRow.holds Try.pinned (OpenSpec.ofChange devPlaysSpec)

/-- ITS FALSE NEIGHBOUR: 'it returns false'. Refute it at one input. -/
def devPlaysWrong : ChangeSpec := { name := "devPlays", fn := fun _ => fun
  | [d1, d2] => { results := [.lit (.bool false)], args := [d1, d2] }
  | _ => none }
def DevPlaysWrongFalsely : Prop := devPlaysRow.holds Try.pinned (OpenSpec.ofChange devPlaysWrong)

/- THE SECOND FORM. 'bulk': how many values and letters a reading holds, each counted each time it is reached (what is shared counts as often as it is met; a slice's spare places count too). A statement '..UptoSaid' is the law's where the arguments, and the package variables that the reading takes, are together of bulk at most 1048576: NARROWER than '..Said'. Prove '..Said' where nothing that the law and all that it calls make is longer than what came in: it says more and counts as full. Else prove '..UptoSaid'. A law counts once. -/
mutual
def uptoBulk {H : Type} : DataW H → Nat
  | .lit (.string bytes) => bytes.length + 1
  | .lit _ => 1
  | .nil => 1
  | .ptr d => uptoBulk d + 1
  | .slice elems spare => uptoBulkAll elems + uptoBulkAll spare + 1
  | .agg parts => uptoBulkAll parts + 1
  | .iface _ d => uptoBulk d + 1
  | .map entries => uptoBulkEntries entries + 1
  | .held _ => 1
def uptoBulkAll {H : Type} : List (DataW H) → Nat
  | [] => 0
  | d :: r => uptoBulk d + uptoBulkAll r
def uptoBulkEntries {H : Type} : List (Lit × DataW H) → Nat
  | [] => 0
  | x :: r => uptoBulkEntry x + uptoBulkEntries r
def uptoBulkEntry {H : Type} : Lit × DataW H → Nat
  | (.string bytes, d) => bytes.length + uptoBulk d + 1
  | (_, d) => uptoBulk d + 1
 end
def uptoSmall : (H : Type) → List (DataW H) → Bool := fun _ ds => decide (uptoBulkAll ds ≤ 1048576)
def OpenSpec.upto (s : _root_.Go.ChangeSpec) : _root_.Go.OpenSpec := { _root_.Go.OpenSpec.ofChange s with cond := some uptoSmall }

/-- 'haymowlaw04.DevKeeps', WHERE WHAT IT READS IS OF BULK AT MOST 1048576: true; the input reads as it did. -/
def devKeepsUptoRow : OpenClaim := { program := "ytpbmkokjjcdhfaa", sum := "1586232a8da3f2a0e79cb0774af1888e916ed02dc07e3264d085a454d3eaf348", func := "haymow/haymowlaw04.DevKeeps", spec := "devKeeps", unfollowed := true, recurses := true, apart := false, narrowed := true }
def DevKeepsUptoSaid : Prop := devKeepsUptoRow.holds Try.pinned (OpenSpec.upto devKeepsSpec)

/-- 'haymowlaw04.DevReads', WHERE WHAT IT READS IS OF BULK AT MOST 1048576: true; the input reads as it did. -/
def devReadsUptoRow : OpenClaim := { program := "ytpbmkokjjcdhfaa", sum := "1586232a8da3f2a0e79cb0774af1888e916ed02dc07e3264d085a454d3eaf348", func := "haymow/haymowlaw04.DevReads", spec := "devReads", unfollowed := true, recurses := true, apart := false, narrowed := true }
def DevReadsUptoSaid : Prop := devReadsUptoRow.holds Try.pinned (OpenSpec.upto devReadsSpec)

/-- 'haymowlaw04.DevTorn', WHERE WHAT IT READS IS OF BULK AT MOST 1048576: true; the input reads as it did. -/
def devTornUptoRow : OpenClaim := { program := "ytpbmkokjjcdhfaa", sum := "1586232a8da3f2a0e79cb0774af1888e916ed02dc07e3264d085a454d3eaf348", func := "haymow/haymowlaw04.DevTorn", spec := "devTorn", unfollowed := true, recurses := true, apart := false, narrowed := true }
def DevTornUptoSaid : Prop := devTornUptoRow.holds Try.pinned (OpenSpec.upto devTornSpec)

/-- 'haymowlaw04.DevErases', WHERE WHAT IT READS IS OF BULK AT MOST 1048576: true; the input reads as it did. -/
def devErasesUptoRow : OpenClaim := { program := "ytpbmkokjjcdhfaa", sum := "1586232a8da3f2a0e79cb0774af1888e916ed02dc07e3264d085a454d3eaf348", func := "haymow/haymowlaw04.DevErases", spec := "devErases", unfollowed := true, recurses := true, apart := false, narrowed := true }
def DevErasesUptoSaid : Prop := devErasesUptoRow.holds Try.pinned (OpenSpec.upto devErasesSpec)

/-- 'haymowlaw04.DevPlays', WHERE WHAT IT READS IS OF BULK AT MOST 1048576: true; the input reads as it did. -/
def devPlaysUptoRow : OpenClaim := { program := "ytpbmkokjjcdhfaa", sum := "1586232a8da3f2a0e79cb0774af1888e916ed02dc07e3264d085a454d3eaf348", func := "haymow/haymowlaw04.DevPlays", spec := "devPlays", unfollowed := true, recurses := true, apart := false, narrowed := true }
def DevPlaysUptoSaid : Prop := devPlaysUptoRow.holds Try.pinned (OpenSpec.upto devPlaysSpec)

end Rows
end Go.Proofs.Ytpbmkokjjcdhfaa
