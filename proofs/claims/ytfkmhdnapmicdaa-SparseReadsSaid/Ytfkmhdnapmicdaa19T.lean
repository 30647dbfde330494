/- haymowref19.Of: words for it. -/
import Derived.Test.Ytfkmhdnapmicdaa19S
namespace Go.Proofs.Ytfkmhdnapmicdaa
set_option linter.unusedSimpArgs false
set_option linter.unusedVariables false
open Go.RowKit

def tcells (T : List Bool) : List Value := T.map Value.bool
theorem tcells_len (T : List Bool) : (tcells T).length = T.length := by simp [tcells]
theorem tcells_at (T : List Bool) (i : Nat) (h : i < T.length) : (tcells T)[i]? = some (.bool (T.getD i false)) := by
  simp [tcells, List.getElem?_map, List.getElem?_eq_getElem h, List.getD_eq_getElem?_getD]
/-- a slice of flags that is read -/
def Bools (w : World) (v : Value) (T : List Bool) : Prop :=
  ∃ A c, v = .slice A T.length c ∧ T.length ≤ c ∧ c ≤ 9223372036854775807 ∧ (A = none → c = 0) ∧ (0 < T.length → ∃ b o, A = some ⟨b, o, none⟩ ∧ w.rangeAt b o (tcells T))
theorem Kept.bools {w w1 : World} {v : Value} {T : List Bool} (k : Kept w w1) (h : Bools w v T) : Bools w1 v T := by
  obtain ⟨A, c, hv, h1, h2, h3, h4⟩ := h
  refine ⟨A, c, hv, h1, h2, h3, fun hl => ?_⟩
  obtain ⟨b, o, hA, hr⟩ := h4 hl
  exact ⟨b, o, hA, k.range hr⟩
theorem Bools.shape {w : World} {v : Value} {T : List Bool} (h : Bools w v T) : ∃ A c, v = .slice A T.length c := by
  obtain ⟨A, c, hv, _⟩ := h; exact ⟨A, c, hv⟩
section
variable {w : World} {A : Option Addr} {n c : Nat} {T : List Bool}
theorem Bools.open_ (h : Bools w (.slice A n c) T) : T.length = n ∧ n ≤ c ∧ c ≤ 9223372036854775807 ∧ (A = none → c = 0) ∧ (0 < n → ∃ b o, A = some ⟨b, o, none⟩ ∧ w.rangeAt b o (tcells T)) := by
  obtain ⟨A', c', hv, h1, h2, h3, h4⟩ := h
  simp only [Value.slice.injEq] at hv
  obtain ⟨rfl, rfl, rfl⟩ := hv
  exact ⟨rfl, h1, h2, h3, h4⟩
theorem bools_mk {b o : Nat} (hl : T.length = n) (hc : n ≤ c) (hm : c ≤ 9223372036854775807) (h : w.rangeAt b o (tcells T)) : Bools w (.slice (some ⟨b, o, none⟩) n c) T := by
  subst hl
  exact ⟨_, c, rfl, hc, hm, by simp, fun _ => ⟨b, o, rfl, h⟩⟩
theorem Bools.cell (h : Bools w (.slice A n c) T) (j : Nat) (hj : j < n) : ∃ b o, A = some ⟨b, o, none⟩ ∧ w.cell? ⟨b, o + j, none⟩ = some (.bool (T.getD j false)) := by
  obtain ⟨h0, -, -, -, h4⟩ := h.open_
  obtain ⟨b, o, hA, hr⟩ := h4 (by omega)
  exact ⟨b, o, hA, hr j _ (tcells_at T j (by omega))⟩
end
theorem cb_range {w : World} {g : Nat} {t : TypeId} {cs : List Value} (h : CB w g t cs) : w.rangeAt g 0 cs := fun j v hv => by
  obtain ⟨hj, hv⟩ := List.getElem?_eq_some_iff.1 hv
  rw [Nat.zero_add, h.cell j hj, hv]
/-- a file of the document's that is read -/
def Rf (w : World) (v : Value) (B : List UInt8) (T : List Bool) : Prop := ∃ vB vT, v = .agg #[vB, vT] ∧ Byts w vB B ∧ Bools w vT T
theorem Kept.rf {w w1 : World} {v : Value} {B : List UInt8} {T : List Bool} (k : Kept w w1) (h : Rf w v B T) : Rf w1 v B T := by
  obtain ⟨a, b, h1, h2, h3⟩ := h; exact ⟨a, b, h1, k.byts h2, k.bools h3⟩
theorem info_bool : (Try.prog.info? 4).map (fun i => (i.zero, i.size, i.bytes)) = some (some (.bool false), 1, 1) := by kernel_rfl
theorem tcells_rep (n : Nat) (x : Bool) : tcells (List.replicate n x) = List.replicate n (.bool x) := by simp [tcells]
theorem make_bools (N : Nat) (hN : N ≤ 1000000) (w : World) : (Instr.makeSlice 34 (.int .i64 (N : Int)) (.int .i64 (N : Int))).run Try.prog w =
    .ok (.slice (some ⟨w.heap.size, 0, none⟩) N N) (w.alloc (.cells (tcells (List.replicate N false)).toArray 4)) := by
  obtain ⟨i, hi, hz, hsize, hbytes⟩ := info_parts info_bool
  have := run_makeSlice (P := Try.prog) w 34 4 i _ Try.underlying34 hi hz .i64 .i64 (N : Int) (N : Int) (by omega) (by omega) (by rw [hsize]; simp; omega) (by rw [hbytes]; omega) (by omega)
  rw [this, hsize]
  simp [Value.cells, madeCells_one, tcells_rep]
/-- block 'g' holds n cells of type t, as 'F' says, none frozen -/
def BlkT (w : World) (g : Nat) (t : TypeId) (n : Nat) (F : Nat → Value) : Prop :=
  ∃ cs, w.heap[g]? = some (.cells cs t (0, 0)) ∧ cs.size = n ∧ ∀ j, j < n → cs[j]? = some (F j)
section
variable {w w1 : World} {g n : Nat} {t : TypeId} {F : Nat → Value}
theorem BlkT.lt (h : BlkT w g t n F) : g < w.heap.size := by
  obtain ⟨cs, h, -⟩ := h
  exact (Array.getElem?_eq_some_iff.1 h).1
theorem BlkT.of_heap (h : BlkT w g t n F) (e : w1.heap[g]? = w.heap[g]?) : BlkT w1 g t n F := by
  obtain ⟨cs, hg, hr⟩ := h
  exact ⟨cs, e.trans hg, hr⟩
theorem Kept.blkT (k : Kept w w1) (h : BlkT w g t n F) : BlkT w1 g t n F := h.of_heap (k.block _ h.lt)
theorem BlkT.far (h : BlkT w g t n F) {p : Addr} (hp : g ≠ p.block) (v : Value) : BlkT (w.setCell p v) g t n F := h.of_heap (Below.heap_setCell _ _ _ _ hp)
theorem BlkT.drew (h : BlkT w g t n F) : BlkT w.drew g t n F := h
theorem BlkT.congr {F' : Nat → Value} (h : BlkT w g t n F) (e : ∀ j, j < n → F j = F' j) : BlkT w g t n F' := by
  obtain ⟨cs, hg, hs, hc⟩ := h
  exact ⟨cs, hg, hs, fun j hj => by rw [hc j hj, e j hj]⟩
theorem BlkT.cell (h : BlkT w g t n F) (j : Nat) (hj : j < n) : w.cell? ⟨g, j, none⟩ = some (F j) := by
  obtain ⟨cs, hg, hs, hc⟩ := h
  simp [World.cell?, hg, hc j hj]
theorem BlkT.frozen (h : BlkT w g t n F) (j : Nat) : w.frozen? ⟨g, j, none⟩ = false := by
  obtain ⟨cs, hg, hs, hc⟩ := h
  simp [World.frozen?, hg]
theorem BlkT.set1 (h : BlkT w g t n F) (j : Nat) (v : Value) : BlkT (w.setCell ⟨g, j, none⟩ v) g t n (fun i => if i = j then v else F i) := by
  obtain ⟨cs, hg, hs, hc⟩ := h
  refine ⟨cs.setIfInBounds j v, ?_, by simpa using hs, fun i hi => ?_⟩
  · simp [World.setCell, Array.getElem?_modify, hg]
  · rw [Array.getElem?_setIfInBounds]
    by_cases hij : j = i
    · subst hij
      simp [hs, hi]
    · have hij2 : ¬ i = j := fun e => hij e.symm
      simp [hij, hij2, hc i hi]
theorem BlkT.cb (h : BlkT w g t n F) (L : List Value) (hl : L.length = n) (e : ∀ j, j < n → L[j]? = some (F j)) : CB w g t L := by
  obtain ⟨cs, hg, hs, hc⟩ := h
  unfold CB
  rw [hg]
  congr 2
  apply Array.ext
  · simp [hs, hl]
  · intro i h1 h2
    have h3 := hc i (by omega)
    rw [Array.getElem?_eq_getElem h1] at h3
    have h4 := e i (by omega)
    rw [List.getElem?_eq_getElem (by omega)] at h4
    rw [List.getElem_toArray]
    exact (Option.some.inj h3).trans (Option.some.inj h4).symm
theorem CB.blkT {L : List Value} (h : CB w g t L) (n : Nat) (hn : L.length = n) (F : Nat → Value) (e : ∀ j, j < n → L[j]? = some (F j)) : BlkT w g t n F :=
  ⟨L.toArray, h, by simp [hn], fun j hj => by simpa using e j hj⟩
theorem BlkT.ne {g' : Nat} {n' : Nat} {t' : TypeId} {F' : Nat → Value} (h : BlkT w g t n F) (h' : BlkT w g' t' n' F') (hne : t ≠ t') : g ≠ g' := by
  rintro rfl
  obtain ⟨cs, hg, -⟩ := h
  obtain ⟨cs', hg', -⟩ := h'
  rw [hg] at hg'
  injection hg' with e
  injection e with _ e2
  exact hne e2
end
theorem tyUB : 5 ≠ 4 := by decide
theorem tyUF : 5 ≠ 36 := by decide
theorem tyBF : 4 ≠ 36 := by decide
end Go.Proofs.Ytfkmhdnapmicdaa
