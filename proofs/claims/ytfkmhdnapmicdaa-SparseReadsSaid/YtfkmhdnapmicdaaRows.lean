/-
  No cell of these rows narrows 'for every input' (looked for: loops, veiled, ifaces, maps, wideKeys, modest, calm, conditions, laid).
  DERIVED. THE GIVEN ROWS OF THIS SEAT. 5 by the template 'for every input the law returns true; each argument reads behind the call as it read before'; 0 by the template 'total and deterministic' (their statements: YtfkmhdnapmicdaaTotals.lean).
  GIVEN WITH THE SEED: the statements are not yours to turn. If you find one false, say at which input.
  Laid BY PROGRAM, IN A SANDBOX (cutbox-rows.mjs): the forced cells as the released guide's own fill.sh prints them over the translation 32799f24a0bb68f7… (all of the seat's roots in one cut). By AI agents, Wed Nov 11 2026. No macro, syntax, notation, axiom, sorry.
-/
import Derived.Test.YtfkmhdnapmicdaaChecked
import GoSem.Claim
import GoSem.ClaimJoined
import GoSem.ClaimMapViews
import Derived.JoinedTies
import Derived.KernelRfl
namespace Go.Proofs.Ytfkmhdnapmicdaa
/- THE CELL 'sum', in the pinned program and in every row, IS THE sha256 OF THE DUMP (.gsa) THAT YtfkmhdnapmicdaaProg.lean LOADS. Nothing in Lean hashes anything: it is a label: what it is worth is what the hold of that sum in a sandbox is worth. -/
noncomputable def Try.pinned : Pinned := { name := "ytfkmhdnapmicdaa", sum := "32799f24a0bb68f7287a6c1d1534bcb64973d446e729bc60bf8a7310ffa08697", checked := Try.checked }
namespace Rows
def none {H : Type} : Left H := { results := [], args := [] }

/-- 'haymowlaw19.SparseWrites': WHATEVER THE INPUT: true; the input reads as it did. -/
def sparseWritesSpec : ChangeSpec := { name := "sparseWrites", fn := fun _ => fun
  | [d1, d2, d3] => { results := [.lit (.bool true)], args := [d1, d2, d3] }
  | _ => none }
def sparseWritesRow : OpenClaim := { program := "ytfkmhdnapmicdaa", sum := "32799f24a0bb68f7287a6c1d1534bcb64973d446e729bc60bf8a7310ffa08697", func := "haymow/haymowlaw19.SparseWrites", spec := "sparseWrites", unfollowed := true, recurses := true, apart := false }
def SparseWritesSaid : Prop := sparseWritesRow.holds Try.pinned (OpenSpec.ofChange sparseWritesSpec)

/-- ITS FALSE NEIGHBOUR: 'it returns false'. Refute it at one input. -/
def sparseWritesWrong : ChangeSpec := { name := "sparseWrites", fn := fun _ => fun
  | [d1, d2, d3] => { results := [.lit (.bool false)], args := [d1, d2, d3] }
  | _ => none }
def SparseWritesWrongFalsely : Prop := sparseWritesRow.holds Try.pinned (OpenSpec.ofChange sparseWritesWrong)

/-- 'haymowlaw19.SparseCuts': WHATEVER THE INPUT: true; the input reads as it did. -/
def sparseCutsSpec : ChangeSpec := { name := "sparseCuts", fn := fun _ => fun
  | [d1, d2] => { results := [.lit (.bool true)], args := [d1, d2] }
  | _ => none }
def sparseCutsRow : OpenClaim := { program := "ytfkmhdnapmicdaa", sum := "32799f24a0bb68f7287a6c1d1534bcb64973d446e729bc60bf8a7310ffa08697", func := "haymow/haymowlaw19.SparseCuts", spec := "sparseCuts", unfollowed := true, recurses := true, apart := false }
def SparseCutsSaid : Prop := sparseCutsRow.holds Try.pinned (OpenSpec.ofChange sparseCutsSpec)

/-- ITS FALSE NEIGHBOUR: 'it returns false'. Refute it at one input. -/
def sparseCutsWrong : ChangeSpec := { name := "sparseCuts", fn := fun _ => fun
  | [d1, d2] => { results := [.lit (.bool false)], args := [d1, d2] }
  | _ => none }
def SparseCutsWrongFalsely : Prop := sparseCutsRow.holds Try.pinned (OpenSpec.ofChange sparseCutsWrong)

/-- 'haymowlaw19.SparseBack': WHATEVER THE INPUT: true; the input reads as it did. -/
def sparseBackSpec : ChangeSpec := { name := "sparseBack", fn := fun _ => fun
  | [d] => { results := [.lit (.bool true)], args := [d] }
  | _ => none }
def sparseBackRow : OpenClaim := { program := "ytfkmhdnapmicdaa", sum := "32799f24a0bb68f7287a6c1d1534bcb64973d446e729bc60bf8a7310ffa08697", func := "haymow/haymowlaw19.SparseBack", spec := "sparseBack", unfollowed := true, recurses := true, apart := false }
def SparseBackSaid : Prop := sparseBackRow.holds Try.pinned (OpenSpec.ofChange sparseBackSpec)

/-- ITS FALSE NEIGHBOUR: 'it returns false'. Refute it at one input. -/
def sparseBackWrong : ChangeSpec := { name := "sparseBack", fn := fun _ => fun
  | [d] => { results := [.lit (.bool false)], args := [d] }
  | _ => none }
def SparseBackWrongFalsely : Prop := sparseBackRow.holds Try.pinned (OpenSpec.ofChange sparseBackWrong)

/-- 'haymowlaw19.SparseTwice': WHATEVER THE INPUT: true; the input reads as it did. -/
def sparseTwiceSpec : ChangeSpec := { name := "sparseTwice", fn := fun _ => fun
  | [d] => { results := [.lit (.bool true)], args := [d] }
  | _ => none }
def sparseTwiceRow : OpenClaim := { program := "ytfkmhdnapmicdaa", sum := "32799f24a0bb68f7287a6c1d1534bcb64973d446e729bc60bf8a7310ffa08697", func := "haymow/haymowlaw19.SparseTwice", spec := "sparseTwice", unfollowed := true, recurses := true, apart := false }
def SparseTwiceSaid : Prop := sparseTwiceRow.holds Try.pinned (OpenSpec.ofChange sparseTwiceSpec)

/-- ITS FALSE NEIGHBOUR: 'it returns false'. Refute it at one input. -/
def sparseTwiceWrong : ChangeSpec := { name := "sparseTwice", fn := fun _ => fun
  | [d] => { results := [.lit (.bool false)], args := [d] }
  | _ => none }
def SparseTwiceWrongFalsely : Prop := sparseTwiceRow.holds Try.pinned (OpenSpec.ofChange sparseTwiceWrong)

/-- 'haymowlaw19.SparseReads': WHATEVER THE INPUT: true; the input reads as it did. -/
def sparseReadsSpec : ChangeSpec := { name := "sparseReads", fn := fun _ => fun
  | [d] => { results := [.lit (.bool true)], args := [d] }
  | _ => none }
def sparseReadsRow : OpenClaim := { program := "ytfkmhdnapmicdaa", sum := "32799f24a0bb68f7287a6c1d1534bcb64973d446e729bc60bf8a7310ffa08697", func := "haymow/haymowlaw19.SparseReads", spec := "sparseReads", unfollowed := true, recurses := true, apart := false }
def SparseReadsSaid : Prop := sparseReadsRow.holds Try.pinned (OpenSpec.ofChange sparseReadsSpec)

/-- ITS FALSE NEIGHBOUR: 'it returns false'. Refute it at one input. -/
def sparseReadsWrong : ChangeSpec := { name := "sparseReads", fn := fun _ => fun
  | [d] => { results := [.lit (.bool false)], args := [d] }
  | _ => none }
def SparseReadsWrongFalsely : Prop := sparseReadsRow.holds Try.pinned (OpenSpec.ofChange sparseReadsWrong)

/- THE SECOND FORM. 'bulk': how many values and letters a reading holds, each counted each time it is reached (what is shared counts as often as it is met; a slice's spare places count too). A statement '..UptoSaid' is the law's where the arguments, and the package variables that the reading takes, are together of bulk at most 1048576: NARROWER than '..Said'. Prove '..Said' where nothing that the law and all that it calls make is longer than what came in: it says more and counts as full. Else prove '..UptoSaid'. A law counts once. -/
mutual
def uptoBulk {H : Type} : DataW H → Nat
  | .lit (.string bytes) => bytes.length + 1
  | .lit _ => 1
  | .nil => 1
  | .ptr d => uptoBulk d + 1
  | .slice elems spare => uptoBulkAll elems + uptoBulkAll spare + 1
  | .agg parts => uptoBulkAll parts + 1
  | .iface _ d => uptoBulk d + 1
  | .map entries => uptoBulkEntries entries + 1
  | .held _ => 1
def uptoBulkAll {H : Type} : List (DataW H) → Nat
  | [] => 0
  | d :: r => uptoBulk d + uptoBulkAll r
def uptoBulkEntries {H : Type} : List (Lit × DataW H) → Nat
  | [] => 0
  | x :: r => uptoBulkEntry x + uptoBulkEntries r
def uptoBulkEntry {H : Type} : Lit × DataW H → Nat
  | (.string bytes, d) => bytes.length + uptoBulk d + 1
  | (_, d) => uptoBulk d + 1
 end
def uptoSmall : (H : Type) → List (DataW H) → Bool := fun _ ds => decide (uptoBulkAll ds ≤ 1048576)
def OpenSpec.upto (s : _root_.Go.ChangeSpec) : _root_.Go.OpenSpec := { _root_.Go.OpenSpec.ofChange s with cond := some uptoSmall }

/-- 'haymowlaw19.SparseWrites', WHERE WHAT IT READS IS OF BULK AT MOST 1048576: true; the input reads as it did. -/
def sparseWritesUptoRow : OpenClaim := { program := "ytfkmhdnapmicdaa", sum := "32799f24a0bb68f7287a6c1d1534bcb64973d446e729bc60bf8a7310ffa08697", func := "haymow/haymowlaw19.SparseWrites", spec := "sparseWrites", unfollowed := true, recurses := true, apart := false, narrowed := true }
def SparseWritesUptoSaid : Prop := sparseWritesUptoRow.holds Try.pinned (OpenSpec.upto sparseWritesSpec)

/-- 'haymowlaw19.SparseCuts', WHERE WHAT IT READS IS OF BULK AT MOST 1048576: true; the input reads as it did. -/
def sparseCutsUptoRow : OpenClaim := { program := "ytfkmhdnapmicdaa", sum := "32799f24a0bb68f7287a6c1d1534bcb64973d446e729bc60bf8a7310ffa08697", func := "haymow/haymowlaw19.SparseCuts", spec := "sparseCuts", unfollowed := true, recurses := true, apart := false, narrowed := true }
def SparseCutsUptoSaid : Prop := sparseCutsUptoRow.holds Try.pinned (OpenSpec.upto sparseCutsSpec)

/-- 'haymowlaw19.SparseBack', WHERE WHAT IT READS IS OF BULK AT MOST 1048576: true; the input reads as it did. -/
def sparseBackUptoRow : OpenClaim := { program := "ytfkmhdnapmicdaa", sum := "32799f24a0bb68f7287a6c1d1534bcb64973d446e729bc60bf8a7310ffa08697", func := "haymow/haymowlaw19.SparseBack", spec := "sparseBack", unfollowed := true, recurses := true, apart := false, narrowed := true }
def SparseBackUptoSaid : Prop := sparseBackUptoRow.holds Try.pinned (OpenSpec.upto sparseBackSpec)

/-- 'haymowlaw19.SparseTwice', WHERE WHAT IT READS IS OF BULK AT MOST 1048576: true; the input reads as it did. -/
def sparseTwiceUptoRow : OpenClaim := { program := "ytfkmhdnapmicdaa", sum := "32799f24a0bb68f7287a6c1d1534bcb64973d446e729bc60bf8a7310ffa08697", func := "haymow/haymowlaw19.SparseTwice", spec := "sparseTwice", unfollowed := true, recurses := true, apart := false, narrowed := true }
def SparseTwiceUptoSaid : Prop := sparseTwiceUptoRow.holds Try.pinned (OpenSpec.upto sparseTwiceSpec)

/-- 'haymowlaw19.SparseReads', WHERE WHAT IT READS IS OF BULK AT MOST 1048576: true; the input reads as it did. -/
def sparseReadsUptoRow : OpenClaim := { program := "ytfkmhdnapmicdaa", sum := "32799f24a0bb68f7287a6c1d1534bcb64973d446e729bc60bf8a7310ffa08697", func := "haymow/haymowlaw19.SparseReads", spec := "sparseReads", unfollowed := true, recurses := true, apart := false, narrowed := true }
def SparseReadsUptoSaid : Prop := sparseReadsUptoRow.holds Try.pinned (OpenSpec.upto sparseReadsSpec)

end Rows
end Go.Proofs.Ytfkmhdnapmicdaa
