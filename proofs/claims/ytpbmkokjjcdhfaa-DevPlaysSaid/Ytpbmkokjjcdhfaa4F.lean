/- The device: a write that waits is built. -/
import Derived.Test.Ytpbmkokjjcdhfaa4E
namespace Go.Proofs.Ytpbmkokjjcdhfaa
set_option linter.unusedSimpArgs false
set_option linter.unusedVariables false
open Go.RowKit

theorem foldl_splice : ∀ (vs : List Value) (off k : Nat) (cs : Array Value), (vs.zipIdx k).foldl (fun cs (p : Value × Nat) => cs.setIfInBounds (off + p.2) p.1) cs = splice cs (off + k) vs
  | [], _, _, _ => rfl
  | v :: r, off, k, cs => by
    rw [List.zipIdx_cons, List.foldl_cons, splice, foldl_splice r off (k + 1), Nat.add_assoc]
theorem fill_splice (vs : Array Value) (off : Nat) (cs : Array Value) : vs.zipIdx.foldl (fun cs (p : Value × Nat) => cs.setIfInBounds (off + p.2) p.1) cs = splice cs off vs.toList := by
  obtain ⟨l⟩ := vs
  have := foldl_splice l off 0 cs
  simpa using this
def wcells (i : Int) (l : List UInt8) : List Value := .int .i64 i :: bcells l
def zeroW : Array Value := #[.int .i64 0] ++ zeroB
theorem zero_write (w : World) : (zeroValue 67).run Try.prog w = .ok (.agg zeroW) w := by kernel_rfl
theorem wcells_len (i : Int) (l : List UInt8) (hl : l.length = 128) : (wcells i l).length = 129 := by rw [wcells, List.length_cons, bcells_len, hl]
theorem splice_write (i : Int) (l : List UInt8) (hl : l.length = 128) : splice (splice zeroW 0 [.int .i64 i]) 1 (bcells l) = (wcells i l).toArray := by
  have hz : zeroW.size = 129 := by simp [zeroW, zeroB]
  have hb := bcells_len l
  apply Array.ext_getElem?
  intro j
  rw [splice_at _ _ _ _ (by rw [splice_size]; omega), splice_at _ _ _ _ (by simp; omega)]
  rcases j with _ | j
  · rw [if_neg (by omega), if_pos (by simp)]; simp [wcells]
  · by_cases hj : j < 128
    · rw [if_pos (by omega), show j + 1 - 1 = j by omega]; simp [wcells]
    · rw [if_neg (by omega), if_neg (by simp), Array.getElem?_eq_none (by omega)]
      simp [wcells]; omega
theorem run_build_write (i : Int) (l : List UInt8) (hl : l.length = 128) (w : World) : (Instr.build 67 #[(0, .int .i64 i), (1, .agg (bcells l).toArray)]).run Try.prog w = .ok (.agg (wcells i l).toArray) w := by
  have hb := bcells_len l
  have hz : zeroW.size = 129 := by simp [zeroW, zeroB]
  have hpl : (Array.mapM (fun (f : Field) => do let s ← sizeOf f.type; pure (f.offset, s)) #[({ name := "at", type := 3, offset := 0, embedded := false, tag := "", pkgPath := "haymow/dev", byteOffset := 0 } : Field), { name := "b", type := 65, offset := 1, embedded := false, tag := "", pkgPath := "haymow/dev", byteOffset := 8 }] : Sem (Array (Nat × Nat))).run Try.prog w = .ok #[(0, 1), (1, 128)] w := by kernel_rfl
  have hfill : Instr.fill (fun x => (#[(0, 1), (1, 128)] : Array (Nat × Nat))[x]?) zeroW [(0, .int .i64 i), (1, .agg (bcells l).toArray)] = some (wcells i l).toArray := by
    have h1 : (Value.int IntKind.i64 i).cells = #[.int .i64 i] := rfl
    have h2 : (Value.agg (bcells l).toArray).cells = (bcells l).toArray := rfl
    have s1 : (splice zeroW 0 [Value.int .i64 i]).size = 129 := by rw [splice_size, hz]
    simp only [Instr.fill, List.getElem?_toArray, List.getElem?_cons_zero, List.getElem?_cons_succ, h1, h2, fill_splice, List.size_toArray, List.length_cons, List.length_nil, hb, hl, hz, s1]
    simp only [Nat.zero_add, ne_eq, not_true_eq_false, decide_false, Bool.false_or, Nat.reduceAdd, gt_iff_lt, Nat.lt_irrefl, Nat.reduceLT, if_false, Bool.false_eq_true]
    rw [splice_write i l hl]
  unfold Instr.build
  simp only [Sem.run_bind, zero_write, Result.andThen_ok, run_underlying Try.underlying67]
  rw [hpl]
  simp only [Result.andThen_ok]
  rw [show (Value.agg zeroW).cells = zeroW from rfl, hfill]
  rfl
theorem zeroW_size : zeroW.size = 129 := by simp [zeroW, zeroB]
theorem splice_same (l : List Value) (cs : Array Value) (h : cs.size = l.length) : splice cs 0 l = l.toArray := splice_all l cs h
theorem run_bslice_write (i : Int) (l : List UInt8) (hl : l.length = 128) (w : World) : (Instr.buildSlice 60 1 #[(0, .agg (wcells i l).toArray)]).run Try.prog w = .ok (.slice (some ⟨w.heap.size, 0, none⟩) 1 1) (w.alloc (.cells (wcells i l).toArray 67)) := by
  have hw := wcells_len i l hl
  have hsz : ∀ w, (sizeOf 67).run Try.prog w = .ok 129 w := fun w => by kernel_rfl
  have hfill : ∀ z : Array Value, z.size = 129 → Instr.fill (fun i => some (i * 129, 129)) z [(0, .agg (wcells i l).toArray)] = some (wcells i l).toArray := by
    intro z hz
    have h2 : (Value.agg (wcells i l).toArray).cells = (wcells i l).toArray := rfl
    simp only [Instr.fill, h2, fill_splice, List.size_toArray, hw, hz]
    simp only [Nat.zero_mul, Nat.zero_add, ne_eq, not_true_eq_false, decide_false, Bool.false_or, gt_iff_lt, Nat.lt_irrefl, if_false, Bool.false_eq_true]
    rw [splice_all _ _ (by rw [hz, hw])]
  unfold Instr.buildSlice
  simp only [Sem.run_bind, Result.andThen_ok, run_underlying Try.underlying60, hsz, zero_write]
  rw [if_neg (by decide), if_neg (by decide)]
  simp only [Sem.run_bind, Sem.run_pure, zero_write, Result.andThen_ok]
  rw [hfill _ (by simp)]
  simp only [newRow, Sem.run_bind, Sem.run_pure, Result.andThen_ok]
  rfl
theorem run_array_block (a : Option Addr) (c : Nat) (w : World) : (Instr.arrayAt 65 (.slice a 128 c)).run Try.prog w = .ok (.pointer a) w := run_arrayAt w 65 _ 128 _ 128 c Try.underlying65 (Nat.le_refl _)

section
variable {w : World} {B : Nat} {h : DH} {S : DS}
/-- a write that waits more: the map was turned, the slice has grown, the field is set -/
theorem DevAt.pushed (d : DevAt w B h S) (i : Nat) (l : List UInt8) (hi : i < S.n) (hl : l.length = 128) {w2 w3 : World} (hm : IMap w2 h.gN (S.pend.length + 1) (fun j => if j = (i : Int) then some (S.pend.length : Int) else nmF S.pend j)) (ht : w.mapTurned w2 h.gN)
    (v' : Value) (ho : w3.ownsRow B 67 129 v' (S.pend.length + 1) (pcells S.pend ++ wcells i l)) (tmp : Obj) (hg : (w2.alloc tmp).grownBy w3 h.vp.ownBlock) (hat : v'.ownBlock = h.vp.ownBlock ∨ v'.ownBlock = some (w2.heap.size + 1)) :
    DevAt (w3.setCell ⟨h.P, 1, none⟩ v') B { h with vp := v' } { S with pend := S.pend ++ [(i, l)] } ∧ Step h { h with vp := v' } w (w3.setCell ⟨h.P, 1, none⟩ v') := by
  have a := d.apart
  have k := ht.grown
  have hs2 := k.size
  have hs3 := hg.size
  rw [World.size_alloc] at hs3
  have hPl := (Array.getElem?_eq_some_iff.1 d.hP).1
  have e : ∀ q, q < w.heap.size → q ≠ h.gN → h.vp.ownBlock ≠ some q → w3.heap[q]? = w.heap[q]? := fun q hq h1 h2 =>
    ((hg.block q (by rw [World.size_alloc]; omega) (fun e => h2 e.symm)).trans (Below.heap_alloc w2 tmp q (by omega))).trans (k.block q hq (by simpa using h1))
  have eN : w3.heap[h.gN]? = w2.heap[h.gN]? := (hg.block _ (by rw [World.size_alloc]; have := hm.lt; omega) (fun e => a.vN e.symm)).trans (Below.heap_alloc w2 tmp _ hm.lt)
  have hP3 : w3.heap[h.P]? = some (.cells (devCells h S) 62 (0, 0)) := (e _ hPl a.PN a.vP).trans d.hP
  have vb : v'.ownBlock ≠ some h.P := by
    rcases hat with hh | hh
    · rw [hh]; exact a.vP
    · rw [hh]; intro e; injection e; omega
  refine ⟨⟨?_, ?_, ?_, ?_, ?_, d.lo, d.ne, ⟨d.ok.n1, d.ok.n2, d.ok.blk, ?_, d.ok.bud, d.ok.flt⟩⟩, ?_⟩
  · rw [heap_field hP3]; rfl
  · exact d.hB.of_heap ((Below.heap_setCell _ _ _ _ a.PB.symm).trans (e _ d.hB.lt a.BN a.vB))
  · dsimp only
    rw [List.length_append, pcells_snoc]
    exact ownsRow_setCell_other ho vb _
  · dsimp only
    rw [List.length_append, nmF_snoc]
    exact hm.of_heap ((Below.heap_setCell _ _ _ _ a.PN.symm).trans eN)
  · exact d.hF.of_heap ((Below.heap_setCell _ _ _ _ a.PF.symm).trans (e _ d.hF.lt a.NF.symm a.vF))
  · intro p hp
    rcases List.mem_append.1 hp with hp | hp
    · exact d.ok.pend p hp
    · obtain rfl : p = (i, l) := by simpa using hp
      exact ⟨hi, hl⟩
  · refine ⟨hg.os.trans k.os, hg.tape.trans k.tape, hg.output.trans k.output, by simp [World.setCell]; omega, fun q hq hf => ?_, fun q hq hf hf' => hf ?_, rfl⟩
    · exact (Below.heap_setCell _ _ _ _ (fun e => hf (.inl e))).trans (e q hq (fun e => hf (.inr (.inr (.inl e)))) (fun e => hf (.inr (.inr (.inr (.inr e))))))
    · rcases hf' with e | e | e | e | e
      · exact .inl e
      · exact .inr (.inl e)
      · exact .inr (.inr (.inl e))
      · exact .inr (.inr (.inr (.inl e)))
      · rcases hat with hh | hh
        · exact .inr (.inr (.inr (.inr (hh ▸ e))))
        · exfalso
          have : v'.ownBlock = some q := e
          rw [hh] at this; injection this; omega
end
end Go.Proofs.Ytpbmkokjjcdhfaa
