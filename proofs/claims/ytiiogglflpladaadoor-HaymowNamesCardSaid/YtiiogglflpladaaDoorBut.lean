/- A block known whole; worlds that are alike but for one block. -/
import Derived.Test.YtiiogglflpladaaDoorInts
import Derived.Laws.Rows
namespace Go.Proofs.YtiiogglflpladaaDoor
set_option linter.unusedSimpArgs false
set_option linter.unusedVariables false
open Go.RowKit

/-- two blocks at once, three blocks at once: a discharge less each -/
theorem cell_alloc2_some {w : World} {o o' : Obj} {p : Addr} (h : (w.cell? p).isSome = true) : ((w.alloc o).alloc o').cell? p = w.cell? p := by
  rw [cell_alloc_some (by rw [cell_alloc_some h]; exact h), cell_alloc_some h]
theorem frozen_alloc2_some {w : World} {o o' : Obj} {p : Addr} (h : (w.cell? p).isSome = true) : ((w.alloc o).alloc o').frozen? p = w.frozen? p := by
  rw [frozen_alloc_some (by rw [cell_alloc_some h]; exact h), frozen_alloc_some h]
theorem cell_alloc3_some {w : World} {o o' o2 : Obj} {p : Addr} (h : (w.cell? p).isSome = true) : (((w.alloc o).alloc o').alloc o2).cell? p = w.cell? p := by
  rw [cell_alloc2_some (by rw [cell_alloc_some h]; exact h), cell_alloc_some h]
theorem frozen_alloc3_some {w : World} {o o' o2 : Obj} {p : Addr} (h : (w.cell? p).isSome = true) : (((w.alloc o).alloc o').alloc o2).frozen? p = w.frozen? p := by
  rw [frozen_alloc2_some (by rw [cell_alloc_some h]; exact h), frozen_alloc_some h]
attribute [go_sem] cell_alloc2_some frozen_alloc2_some cell_alloc3_some frozen_alloc3_some

/-- block 'g' holds n cells, as 'F' says, none frozen -/
def Blk (w : World) (g n : Nat) (F : Nat → Value) : Prop :=
  ∃ cs t, w.heap[g]? = some (.cells cs t (0, 0)) ∧ cs.size = n ∧ ∀ j, j < n → cs[j]? = some (F j)
section
variable {w w1 : World} {g n : Nat} {F : Nat → Value}
theorem Blk.lt (h : Blk w g n F) : g < w.heap.size := by
  obtain ⟨cs, t, h, -⟩ := h
  exact (Array.getElem?_eq_some_iff.1 h).1
theorem Kept.blk (hk : Kept w w1) (h : Blk w g n F) : Blk w1 g n F := by
  have hl := h.lt
  obtain ⟨cs, t, hg, hr⟩ := h
  exact ⟨cs, t, (hk.block g hl).trans hg, hr⟩
theorem Blk.cell (h : Blk w g n F) (j : Nat) (hj : j < n) : w.cell? ⟨g, j, none⟩ = some (F j) := by
  obtain ⟨cs, t, hg, hs, hc⟩ := h
  simp [World.cell?, hg, hc j hj]
theorem Blk.frozen (h : Blk w g n F) (j : Nat) : w.frozen? ⟨g, j, none⟩ = false := by
  obtain ⟨cs, t, hg, hs, hc⟩ := h
  simp [World.frozen?, hg]
theorem Blk.set (h : Blk w g n F) (j : Nat) (v : Value) : Blk (w.setCell ⟨g, j, none⟩ v) g n (fun i => if i = j then v else F i) := by
  obtain ⟨cs, t, hg, hs, hc⟩ := h
  refine ⟨cs.setIfInBounds j v, t, ?_, by simpa using hs, fun i hi => ?_⟩
  · simp [World.setCell, Array.getElem?_modify, hg]
  · rw [Array.getElem?_setIfInBounds]
    by_cases hij : j = i
    · subst hij
      simp [hs, hi]
    · have hij2 : ¬ i = j := fun e => hij e.symm
      simp [hij, hij2, hc i hi]
theorem Blk.congr {F' : Nat → Value} (h : Blk w g n F) (e : ∀ j, j < n → F j = F' j) : Blk w g n F' := by
  obtain ⟨cs, t, hg, hs, hc⟩ := h
  exact ⟨cs, t, hg, hs, fun j hj => by rw [hc j hj, e j hj]⟩
theorem Blk.drew (h : Blk w g n F) : Blk w.drew g n F := h
theorem Blk.drewN (h : Blk w g n F) (k : Nat) : Blk (w.drewN k) g n F := h
theorem Blk.alloc (h : Blk w g n F) (o : Obj) : Blk (w.alloc o) g n F := ((Kept.refl w).alloc o).blk h
end

/-- 'w1' is 'w' with nothing that was there turned, but for block a. -/
def But (a : Nat) (w w1 : World) : Prop := w.grownBy w1 (some a)
section
variable {a : Nat} {w w1 w2 : World}
theorem Kept.but (a : Nat) (h : Kept w w1) : But a w w1 := ⟨h.os, h.tape, h.output, h.size, fun k hk _ => h.block k hk⟩
theorem But.refl (a : Nat) (w : World) : But a w w := (Kept.refl w).but a
theorem But.size (h : But a w w1) : w.heap.size ≤ w1.heap.size := World.grownBy.size h
theorem But.trans (h : But a w w1) (h' : But a w1 w2) : But a w w2 :=
  ⟨h'.os.trans h.os, h'.tape.trans h.tape, h'.output.trans h.output, Nat.le_trans h.size h'.size, fun k hk hne => (h'.block k (Nat.lt_of_lt_of_le hk h.size) hne).trans (h.block k hk hne)⟩
theorem But.kept (h : But a w w1) (h' : Kept w1 w2) : But a w w2 := h.trans (h'.but a)
theorem But.setCell (h : But a w w1) {p : Addr} (hp : p.block = a ∨ w.heap.size ≤ p.block) (u : Value) : But a w (w1.setCell p u) :=
  ⟨h.os, h.tape, h.output, by simpa [World.setCell] using h.size, fun k hk hne => (Below.heap_setCell _ _ _ _ (by rintro rfl; rcases hp with hp | hp; exact hne (by rw [hp]); omega)).trans (h.block k hk hne)⟩
theorem But.alloc (h : But a w w1) (o : Obj) : But a w (w1.alloc o) := h.kept ((Kept.refl w1).alloc o)
theorem But.drew (h : But a w w1) : But a w w1.drew := h.kept (Kept.refl w1).drew
theorem But.drewN (h : But a w w1) (n : Nat) : But a w (w1.drewN n) := h.kept ((Kept.refl w1).drewN n)
theorem Kept.turned {W : World} (h : Kept W w) (h' : But a w w1) (ha : W.heap.size ≤ a) : Kept W w1 :=
  Below.grown h h' h.size (fun k hk => by cases hk; exact ha)
theorem But.blk {g n : Nat} {F : Nat → Value} (hk : But a w w1) (h : Blk w g n F) (hne : g ≠ a) : Blk w1 g n F := by
  have hl := h.lt
  obtain ⟨cs, t, hg, hr⟩ := h
  exact ⟨cs, t, (hk.block g hl (by simpa using hne)).trans hg, hr⟩
theorem But.keeps (hk : But a w w1) {b o : Nat} {s : Option Nat} {v : Value} (hc : w.cell? ⟨b, o, s⟩ = some v) (hne : b ≠ a) : w1.cell? ⟨b, o, s⟩ = some v :=
  World.grownBy.cell hk hc (by simpa using hne)
end
end Go.Proofs.YtiiogglflpladaaDoor
