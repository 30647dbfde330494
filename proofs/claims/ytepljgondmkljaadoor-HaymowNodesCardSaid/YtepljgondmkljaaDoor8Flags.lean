/- A block of 258 flags of the call's own: what it holds, told by a function; stores into it; behind calls. -/
import Derived.Test.YtepljgondmkljaaDoorNA
import Derived.Test.YtepljgondmkljaaDoor8Num
import Derived.Laws.Rows
namespace Go.Proofs.YtepljgondmkljaaDoor
set_option linter.unusedSimpArgs false
set_option linter.unusedVariables false
open Go.RowKit

/-- block 'g' holds 258 flags, as 'f' says, none frozen -/
def Flags (w : World) (g : Nat) (f : Nat → Bool) : Prop :=
  ∃ cs t, w.heap[g]? = some (.cells cs t (0, 0)) ∧ cs.size = 258 ∧ ∀ j, j < 258 → cs[j]? = some (.bool (f j))
theorem Flags.lt {w : World} {g : Nat} {f : Nat → Bool} (h : Flags w g f) : g < w.heap.size := by
  obtain ⟨cs, t, h, -⟩ := h
  exact (Array.getElem?_eq_some_iff.1 h).1
theorem Kept.flags {w w1 : World} {g : Nat} {f : Nat → Bool} (hk : Kept w w1) (h : Flags w g f) : Flags w1 g f := by
  have hl := h.lt
  obtain ⟨cs, t, hg, hr⟩ := h
  exact ⟨cs, t, (hk.block g hl).trans hg, hr⟩
theorem Flags.cell {w : World} {g : Nat} {f : Nat → Bool} (h : Flags w g f) (j : Nat) (hj : j < 258) : w.cell? ⟨g, j, none⟩ = some (.bool (f j)) := by
  obtain ⟨cs, t, hg, hs, hc⟩ := h
  simp [World.cell?, hg, hc j hj]
theorem Flags.frozen {w : World} {g : Nat} {f : Nat → Bool} (h : Flags w g f) (j : Nat) : w.frozen? ⟨g, j, none⟩ = false := by
  obtain ⟨cs, t, hg, hs, hc⟩ := h
  simp [World.frozen?, hg]
theorem Flags.set {w : World} {g : Nat} {f : Nat → Bool} (h : Flags w g f) (j : Nat) : Flags (w.setCell ⟨g, j, none⟩ (.bool true)) g (fun i => i == j || f i) := by
  obtain ⟨cs, t, hg, hs, hc⟩ := h
  refine ⟨cs.setIfInBounds j (.bool true), t, ?_, by simpa using hs, fun i hi => ?_⟩
  · simp [World.setCell, Array.getElem?_modify, hg]
  · rw [Array.getElem?_setIfInBounds]
    by_cases hij : j = i
    · subst hij
      simp [hs, hi]
    · rw [if_neg hij, hc i hi]
      simp [show (i == j) = false by simp; omega]
theorem Flags.new (w : World) (t : TypeId) : Flags (w.alloc (.cells (Array.replicate 258 (.bool false)) t)) w.heap.size (fun _ => false) :=
  ⟨Array.replicate 258 (.bool false), t, heap_alloc_new w _, Array.size_replicate, fun j hj => by rw [Array.getElem?_replicate, if_pos hj]⟩
theorem Flags.drew {w : World} {g : Nat} {f : Nat → Bool} (h : Flags w g f) : Flags w.drew g f := h
theorem Flags.alloc {w : World} {g : Nat} {f : Nat → Bool} (h : Flags w g f) (o : Obj) : Flags (w.alloc o) g f := ((Kept.refl w).alloc o).flags h

/-- which flags are up: their numbers below 'k' -/
def upTo (f : Nat → Bool) (k : Nat) : List Int := ((List.range k).filter f).map Int.ofNat
theorem upTo_zero (f : Nat → Bool) : upTo f 0 = [] := rfl
theorem upTo_t (f : Nat → Bool) (k : Nat) (h : f k = true) : upTo f (k + 1) = upTo f k ++ [(k : Int)] := by
  simp [upTo, List.range_succ, h]
theorem upTo_f (f : Nat → Bool) (k : Nat) (h : f k = false) : upTo f (k + 1) = upTo f k := by
  simp [upTo, List.range_succ, h]
theorem upTo_congr (f g : Nat → Bool) (k : Nat) (h : ∀ j, j < k → f j = g j) : upTo f k = upTo g k := by
  unfold upTo
  congr 1
  exact List.filter_congr fun j hj => h j (List.mem_range.1 hj)
theorem upTo_len (f : Nat → Bool) (k : Nat) : (upTo f k).length ≤ k := by
  unfold upTo
  rw [List.length_map]
  exact Nat.le_trans (List.length_filter_le _ _) (by simp)

/-- which nodes are on the paths to blocks -/
def onAll (L : List Int) (j : Nat) : Bool := L.any fun n => (List.range (pathOf n.toNat).length).any fun k => decide (1 ≤ k) && decide (nodeOf j = (pathOf n.toNat).take k)
def onUp (P : List Int) (k : Nat) (j : Nat) : Bool := (List.range k).any fun i => decide (1 ≤ i) && decide (nodeOf j = P.take i)
theorem onUp_one (P : List Int) (j : Nat) : onUp P 1 j = false := by simp [onUp, List.range_succ]
theorem onUp_succ (P : List Int) (k j : Nat) (hk : 1 ≤ k) : onUp P (k + 1) j = (decide (nodeOf j = P.take k) || onUp P k j) := by
  simp [onUp, List.range_succ, hk, Bool.or_comm]
theorem onAll_snoc (L : List Int) (n : Int) (j : Nat) : onAll (L ++ [n]) j = (onUp (pathOf n.toNat) (pathOf n.toNat).length j || onAll L j) := by
  simp [onAll, onUp, Bool.or_comm]
/-- every beginning of a path that is not the whole of it is a node's name -/
theorem path_node (n : Nat) (hn : n < 3621) (k : Nat) (h1 : 1 ≤ k) (h2 : k < (pathOf n).length) : ∃ m : Nat, m < 258 ∧ numF ((pathOf n).take k) = some (m : Int) ∧ nodeOf m = (pathOf n).take k := by
  suffices h : ∃ x, numF ((pathOf n).take k) = some x by
    obtain ⟨x, hx⟩ := h
    obtain ⟨m, hm, hp, rfl⟩ := (numF_iff _ _).1 hx
    exact ⟨m, hm, hx, hp⟩
  by_cases a : n < 6
  · rw [path_a n a] at h2
    simp at h2
    omega
  · by_cases b : n < 21
    · rw [path_b n (by omega) b] at h2 ⊢
      simp at h2
      obtain rfl : k = 1 := by omega
      exact ⟨0, by simp [numF]⟩
    · by_cases c : n < 246
      · rw [path_c n (by omega) c] at h2 ⊢
        simp at h2
        obtain rfl | rfl : k = 1 ∨ k = 2 := by omega
        · exact ⟨1, by simp [numF]⟩
        · simp only [List.take_succ_cons, List.take_zero, numF]
          exact ⟨_, if_pos ⟨by omega, by omega, by omega, by omega⟩⟩
      · rw [path_d n (by omega)] at h2 ⊢
        simp at h2
        obtain rfl | rfl | rfl : k = 1 ∨ k = 2 ∨ k = 3 := by omega
        · exact ⟨2, by simp [numF]⟩
        · simp only [List.take_succ_cons, List.take_zero, numF]
          exact ⟨_, if_pos ⟨by omega, by omega, by omega, by omega⟩⟩
        · simp only [List.take_succ_cons, List.take_zero, numF]
          exact ⟨_, if_pos ⟨trivial, by omega, by omega, by omega, by omega⟩⟩
end Go.Proofs.YtepljgondmkljaaDoor
