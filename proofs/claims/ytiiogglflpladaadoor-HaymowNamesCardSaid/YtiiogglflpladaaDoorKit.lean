/- Small helpers for this seat's walks: what is kept behind a call that only makes memory; endings. -/
import Derived.Test.YtiiogglflpladaaDoorRows
import Derived.WalkKit
import Derived.WalkSpells
import Derived.WalkLawsBesides

import Derived.Deep.Draws
namespace Go.Proofs.YtiiogglflpladaaDoor
set_option linter.unusedSimpArgs false
set_option linter.unusedVariables false
open Go.RowKit

theorem hid {p : Prop} (h : p) : Hid p := h
theorem ret_bool {a b : Bool} (h : a = b) : Ending.returned (.bool a) = .returned (.bool b) := by rw [h]
theorem ret_int {k : IntKind} {a b : Int} (h : a = b) : Ending.returned (.int k a) = .returned (.int k b) := by rw [h]
theorem ret_int2 {k k' : IntKind} {a b c d : Int} (h : a = b) (h' : c = d) : Ending.returned (.tuple #[.int k a, .int k' c]) = .returned (.tuple #[.int k b, .int k' d]) := by rw [h, h']

/-- 'w1' is 'w' with nothing that was there turned. -/
def Kept (w w1 : World) : Prop := Below w.heap.size w w1

section
variable {w w1 w2 : World}
theorem Kept.refl (w : World) : Kept w w := Below.refl _ _
theorem Kept.trans (h : Kept w w1) (h' : Kept w1 w2) : Kept w w2 := Below.trans h (Below.mono h' (Below.size h))
theorem Kept.size (h : Kept w w1) : w.heap.size ≤ w1.heap.size := Below.size h
theorem Kept.alloc (h : Kept w w1) (o : Obj) : Kept w (w1.alloc o) := Below.alloc h (Below.size h) o
theorem Kept.drew (h : Kept w w1) : Kept w w1.drew := Below.drew h
theorem Kept.drewN (h : Kept w w1) (n : Nat) : Kept w (w1.drewN n) := by
  obtain ⟨h1, h2, h3, h4, h5⟩ := h
  exact ⟨h1, h2, h3, h4, h5⟩
theorem Kept.setCell (h : Kept w w1) {p : Addr} (hp : w.heap.size ≤ p.block) (u : Value) : Kept w (w1.setCell p u) := Below.setCell h hp u
theorem Kept.cell (h : Kept w w1) {b o : Nat} {s : Option Nat} (hb : b < w.heap.size) : w1.cell? ⟨b, o, s⟩ = w.cell? ⟨b, o, s⟩ := Below.cell (p := ⟨b, o, s⟩) h hb
theorem Kept.frozen (h : Kept w w1) {b o : Nat} {s : Option Nat} (hb : b < w.heap.size) : w1.frozen? ⟨b, o, s⟩ = w.frozen? ⟨b, o, s⟩ := Below.frozen (p := ⟨b, o, s⟩) h hb
theorem Kept.below (h : Kept w w1) : Below w.heap.size w w1 := h
end
theorem cell_lt {w : World} {b o : Nat} {s : Option Nat} {v : Value} (h : w.cell? ⟨b, o, s⟩ = some v) : b < w.heap.size := by
  rcases Nat.lt_or_ge b w.heap.size with hlt | hge
  · exact hlt
  · simp [World.cell?, Array.getElem?_eq_none hge] at h
/-- A cell that reads is read behind a new block, too: no arithmetic on blocks' numbers. -/
theorem cell_alloc_some {w : World} {o : Obj} {p : Addr} (h : (w.cell? p).isSome = true) : (w.alloc o).cell? p = w.cell? p := by
  obtain ⟨v, hv⟩ := Option.isSome_iff_exists.1 h
  obtain ⟨b, off, s⟩ := p
  exact World.cell?_alloc_lt _ _ _ (cell_lt hv)
attribute [go_sem] cell_alloc_some
/-- A cell that reads keeps what it holds. -/
theorem Kept.keeps {w w1 : World} (h : Kept w w1) {b o : Nat} {s : Option Nat} {v : Value} (hc : w.cell? ⟨b, o, s⟩ = some v) : w1.cell? ⟨b, o, s⟩ = some v := by
  rw [h.cell (cell_lt hc)]; exact hc
theorem Kept.free {w w1 : World} (h : Kept w w1) {b o : Nat} {s : Option Nat} {v : Value} (hc : w.cell? ⟨b, o, s⟩ = some v) (hf : w.frozen? ⟨b, o, s⟩ = false) : w1.frozen? ⟨b, o, s⟩ = false := by
  rw [h.frozen (cell_lt hc)]; exact hf
theorem frozen_alloc_some {w : World} {o : Obj} {p : Addr} (h : (w.cell? p).isSome = true) : (w.alloc o).frozen? p = w.frozen? p := by
  obtain ⟨v, hv⟩ := Option.isSome_iff_exists.1 h
  obtain ⟨b, off, s⟩ := p
  exact World.frozen?_of_block (Below.heap_alloc _ _ _ (cell_lt hv))
attribute [go_sem] frozen_alloc_some
end Go.Proofs.YtiiogglflpladaaDoor
