/- Sparse files in plain Lean: what the document's Write and Cut make is what the program's make. -/
import Derived.Test.Ytfkmhdnapmicdaa19W
namespace Go.Proofs.Ytfkmhdnapmicdaa
set_option linter.unusedSimpArgs false
set_option linter.unusedVariables false

theorem getD_range {α : Type} (g : Nat → α) (n t : Nat) (d : α) : ((List.range n).map g).getD t d = if t < n then g t else d := by
  rw [List.getD_eq_getElem?_getD, List.getElem?_map]
  by_cases h : t < n
  · rw [if_pos h, List.getElem?_range h]; rfl
  · rw [if_neg h, List.getElem?_eq_none (by simpa using h)]; rfl
theorem has_beyond {f : Fl} (hf : Valid f) (t : Nat) (h : needI f.size ≤ (t : Int)) : hasL f.L t = false := by
  rw [hasL]
  cases e : findL f.L (t : Int) with
  | none => rfl
  | some p =>
    obtain ⟨m1, m2⟩ := find_some e
    obtain ⟨a1, a2, -, -⟩ := hf.pc p m1
    exfalso
    unfold needI at h
    split at h <;> omega
theorem oct_beyond {f : Fl} (hf : Valid f) (k : Nat) (h : f.size ≤ (k : Int)) : octL f.L k = 0 := by
  rw [octL]
  cases e : findL f.L ((k / 128 : Nat) : Int) with
  | none => rfl
  | some p =>
    obtain ⟨m1, m2⟩ := find_some e
    obtain ⟨a1, a2, a3, a4⟩ := hf.pc p m1
    exact a4 (k % 128) (by omega) (by omega)
/-- the size after the document's Write -/
def rsz (s off : Nat) (b : List UInt8) : Nat := if b = [] then s else max s (off + b.length)
def rwB (B : List UInt8) (off : Nat) (b : List UInt8) : List UInt8 := (List.range (rsz B.length off b)).map (fun j => if off ≤ j ∧ j < off + b.length then b.getD (j - off) 0 else B.getD j 0)
def rwT (T : List Bool) (N off : Nat) (b : List UInt8) : List Bool := (List.range N).map (fun t => T.getD t false || decide (b ≠ [] ∧ off / 128 ≤ t ∧ t ≤ (off + b.length - 1) / 128))
def rcB (B : List UInt8) (size : Nat) : List UInt8 := (List.range size).map (fun j => B.getD j 0)
def rcT (T : List Bool) (N : Nat) : List Bool := (List.range N).map (fun t => T.getD t false)
/-- the flags of a file, and its octets -/
def flT (f : Fl) : List Bool := (List.range (needI f.size).toNat).map (hasL f.L)
def flB (f : Fl) : List UInt8 := rdB f.L 0 f.size.toNat
theorem flT_at {f : Fl} (hf : Valid f) (t : Nat) : (flT f).getD t false = hasL f.L t := by
  rw [flT, getD_range]
  split
  · rfl
  · exact (has_beyond hf t (by have := hf.s0; unfold needI at *; split <;> (split at * <;> omega))).symm
theorem flB_at {f : Fl} (hf : Valid f) (j : Nat) : (flB f).getD j 0 = octL f.L j := by
  rw [flB, rdB, getD_range]
  split
  · rw [Nat.zero_add]
  · exact (oct_beyond hf j (by omega)).symm
theorem flB_len {f : Fl} : (flB f).length = f.size.toNat := rdB_len _ _ _
theorem wr_is {f : Fl} (hf : Valid f) (off : Nat) (b : List UInt8) (h1 : (off : Int) + b.length ≤ 463488) (N : Nat) (hN : (N : Int) ≤ needI (wrF f off b).size) : isB (wrF f off b) (rwB (flB f) off b) (rwT (flT f) N off b) = true := by
  have hs : (wrF f off b).size = ((rsz (flB f).length off b : Nat) : Int) := by
    rw [flB_len, wrF, rsz]
    have := hf.s0
    split
    · omega
    · dsimp only; omega
  refine isB_iff.2 ⟨mayB_t (wr_valid hf off b (by omega) h1), by rw [hs, rwB]; simp, fun t ht => ?_, ?_⟩
  · have ht2 : t < N := by simpa [rwT] using ht
    rw [rwT, getD_range, if_pos ht2, flT_at hf]
    by_cases hb : b = []
    · subst hb; rw [wrF, if_pos rfl]; simp
    · rw [wr_has f off b hb]; simp [hb]
  · rw [rwB, rdB, hs, Int.toNat_natCast]
    apply List.map_congr_left
    intro j hj
    rw [Nat.zero_add, flB_at hf]
    by_cases hb : b = []
    · subst hb
      rw [wrF, if_pos rfl, if_neg (by simp)]
    · rw [wr_oct f off b hb]
theorem cut_is {f : Fl} (hf : Valid f) (size : Nat) (h1 : size ≤ 463488) (N : Nat) (hN : (N : Int) ≤ needI (size : Int)) : isB (cutF f size) (rcB (flB f) size) (rcT (flT f) N) = true := by
  refine isB_iff.2 ⟨mayB_t (cut_valid hf size (by omega) (by omega)), by rw [rcB, cutF]; simp, fun t ht => ?_, ?_⟩
  · have ht2 : t < N := by simpa [rcT] using ht
    rw [rcT, getD_range, if_pos ht2, flT_at hf, cut_has hf _ (by omega)]
    have : (t : Int) < needI (size : Int) := by omega
    simp [this]
  · have hs : (cutF f size).size = (size : Int) := rfl
    rw [rcB, rdB, hs, Int.toNat_natCast]
    apply List.map_congr_left
    intro j hj
    rw [Nat.zero_add, flB_at hf, cut_oct hf, if_pos (by simpa using hj)]
/-- the numbers that the document's Cut says -/
def rcW (T : List Bool) (n S : Nat) : List Int := if S < n ∧ S % 128 ≠ 0 ∧ T.getD (S / 128) false = true then [((S / 128 : Nat) : Int)] else []
theorem rcW_is {f : Fl} (hf : Valid f) (S : Nat) : rcW (flT f) f.size.toNat S = cutW f (S : Int) := by
  have hs := hf.s0
  rw [rcW, cutW, flT_at hf, hasL]
  have e : ((S / 128 : Nat) : Int) = (S : Int) / 128 := by omega
  rw [e]
  by_cases h1 : f.size ≤ (S : Int) ∨ (S : Int) % 128 = 0
  · rw [if_pos h1, if_neg (by omega)]
  · rw [if_neg h1]
    by_cases h2 : (findL f.L ((S : Int) / 128)).isSome = true
    · rw [if_pos h2, if_pos ⟨by omega, by omega, h2⟩]
    · rw [if_neg h2, if_neg (fun h => h2 h.2.2)]
end Go.Proofs.Ytfkmhdnapmicdaa
