/- Plain: how much lives does not hang on the order; the free from wherever one begins; the sum over the tiers. -/
import Derived.Test.Ytnpkoncflplpiaa15M
namespace Go.Proofs.Ytnpkoncflplpiaa
set_option linter.unusedSimpArgs false
set_option linter.unusedVariables false
open Go.RowKit

/-- as many noughts -/
def zs (n : Nat) : List Int := List.replicate n 0
theorem zs_len (n : Nat) : (zs n).length = n := by simp [zs]
theorem okT_zs (n : Nat) : okT (zs n) = true := by
  rw [okT_iff]; intro j hj; rw [zs_len] at hj
  simp [zs, List.getD_eq_getElem?_getD, List.getElem?_replicate, hj]
theorem tick_zs (L : List Int) (n : Nat) (s : Int) (k : Nat) : tickTo L (zs n) s k = 0 := by
  induction k with
  | zero => rfl
  | succ k ih =>
    rw [tickTo]
    have : (zs n).getD k 0 = 0 := by
      simp only [zs, List.getD_eq_getElem?_getD, List.getElem?_replicate]; split <;> rfl
    rw [this, ih]; simp
theorem live_take (L : List Int) (s : Int) (k : Nat) (hk : k ≤ L.length) : liveTo L s k = ((L.take k).countP (inSeg s) : Nat) := by
  induction k with
  | zero => simp [liveTo]
  | succ k ih =>
    have hlt : k < L.length := by omega
    rw [liveTo, List.take_succ_eq_append_getElem hlt, List.countP_append, ih (by omega)]
    have : L.getD k 0 = L[k] := by rw [List.getD_eq_getElem?_getD, List.getElem?_eq_getElem hlt]; rfl
    rw [this]
    by_cases h : inSeg s L[k] <;> simp [h]
theorem live_count (L : List Int) (s : Int) : liveTo L s L.length = (L.countP (inSeg s) : Nat) := by
  rw [live_take L s L.length (Nat.le_refl _), List.take_length]
theorem live_rev (L : List Int) (s : Int) : liveTo L.reverse s L.reverse.length = liveTo L s L.length := by
  rw [live_count, live_count, List.countP_reverse]
theorem okL_rev (n : Int) (L : List Int) : okL n L.reverse = okL n L := by unfold okL; exact List.all_reverse
theorem cntE_zs (d l v s : Int) (L : List Int) : cntE d l v s L (zs L.length) = if mayB d l v s = false then 1 else if okL (segsF d l v s) L = false then 4 else if L.Nodup then 0 else 7 := by
  unfold cntE
  rw [zs_len, okT_zs]
  simp
theorem cntE_rev (d l v s : Int) (L : List Int) : cntE d l v s L.reverse (zs L.length) = cntE d l v s L (zs L.length) := by
  have := cntE_zs d l v s L.reverse
  rw [List.length_reverse] at this
  rw [this, cntE_zs, okL_rev]
  have : L.reverse.Nodup ↔ L.Nodup := by
    unfold List.Nodup
    rw [List.pairwise_reverse]
    constructor <;> intro h <;> exact h.imp fun h => Ne.symm h
  simp only [this]
theorem cntN_rev (d l v s : Int) (L : List Int) : (if cntE d l v s L.reverse (zs L.length) = 0 then (segsF d l v s).toNat else 0) = (if cntE d l v s L (zs L.length) = 0 then (segsF d l v s).toNat else 0) := by rw [cntE_rev]

/-- the free ones -/
def freeL (f : Nat → Int) (n : Nat) : List Nat := (List.range n).filter fun k => decide (f k = 0)
theorem isFree_nil (f : Nat → Int) (k : Nat) : isFree f [] k = decide (f k = 0) := by simp [isFree]
theorem freeL_at (d l v s : Int) (n : Nat) (f : Nat → Int) (at' : Nat) (hm : mayB d l v s = true) (hn : (n : Int) = segsF d l v s) (h1 : (at' : Int) < d - l) :
    freeAns d l v s n f [] at' = ((freeL f (d - l).toNat).filter (fun k => decide (at' ≤ k)) ++ (freeL f (d - l).toNat).filter (fun k => decide (k < at'))).map (fun k : Nat => (k : Int)) := by
  have hok : freeOk d l v s n at' = true := by simp only [freeOk, hm, Bool.true_and, Bool.and_eq_true, decide_eq_true_eq]; omega
  rw [freeAns, if_pos hok, onL, beL, List.map_append, freeL, List.filter_filter, List.filter_filter]
  congr 2
  · apply List.filter_congr; intro k _; rw [isFree_nil, Bool.and_comm]; congr 1; rw [Bool.eq_iff_iff]; simp
  · apply List.filter_congr; intro k _; rw [isFree_nil, Bool.and_comm]; congr 1; rw [Bool.eq_iff_iff]; simp
theorem filter_ge_zero (l : List Nat) : l.filter (fun k => decide (0 ≤ k)) = l ∧ l.filter (fun k => decide (k < 0)) = [] := by
  constructor
  · rw [List.filter_eq_self]; simp
  · rw [List.filter_eq_nil_iff]; simp
theorem freeL_zero (d l v s : Int) (n : Nat) (f : Nat → Int) (hm : mayB d l v s = true) (hn : (n : Int) = segsF d l v s) (h1 : 0 < d - l) :
    freeAns d l v s n f [] 0 = (freeL f (d - l).toNat).map (fun k : Nat => (k : Int)) := by
  have := freeL_at d l v s n f 0 hm hn (by simpa using h1)
  rw [(filter_ge_zero _).1, (filter_ge_zero _).2, List.append_nil] at this
  exact this
theorem freeL_sorted (f : Nat → Int) (n : Nat) : (freeL f n).Pairwise (· < ·) := List.Pairwise.filter _ List.pairwise_lt_range
/-- a list that ascends, cut where it comes to x -/
theorem cut_sorted (l : List Nat) (x k : Nat) (hs : l.Pairwise (· < ·)) (hk : k ≤ l.length) (h1 : ∀ j, j < k → l.getD j 0 < x) (h2 : k < l.length → x ≤ l.getD k 0) :
    l.drop k = l.filter (fun j => decide (x ≤ j)) ∧ l.take k = l.filter (fun j => decide (j < x)) := by
  have ht : ∀ y ∈ l.take k, y < x := by
    intro y hy
    obtain ⟨j, hj, rfl⟩ := List.getElem_of_mem hy
    rw [List.length_take] at hj
    have := h1 j (by omega)
    rw [List.getD_eq_getElem?_getD, List.getElem?_eq_getElem (by omega)] at this
    rw [List.getElem_take]; exact this
  have hd : ∀ y ∈ l.drop k, x ≤ y := by
    intro y hy
    obtain ⟨j, hj, rfl⟩ := List.getElem_of_mem hy
    rw [List.length_drop] at hj
    have h0 := h2 (by omega)
    rw [List.getD_eq_getElem?_getD, List.getElem?_eq_getElem (by omega)] at h0
    rw [List.getElem_drop]
    rcases Nat.eq_zero_or_pos j with rfl | hj0
    · exact h0
    · have h3 := List.pairwise_iff_getElem.1 hs k (k + j) (by omega) (by omega) (by omega)
      exact Nat.le_of_lt (Nat.lt_of_le_of_lt h0 h3)
  have e := (List.take_append_drop k l).symm
  constructor
  · conv => rhs; rw [e, List.filter_append]
    rw [List.filter_eq_nil_iff.2 (fun y hy => by have := ht y hy; simp; omega), List.filter_eq_self.2 (fun y hy => by have := hd y hy; simpa using this), List.nil_append]
  · conv => rhs; rw [e, List.filter_append]
    rw [List.filter_eq_self.2 (fun y hy => by have := ht y hy; simpa using this), List.filter_eq_nil_iff.2 (fun y hy => by have := hd y hy; simp; omega), List.append_nil]
theorem round_ans (d l v s : Int) (n : Nat) (f : Nat → Int) (at' k : Nat) (hm : mayB d l v s = true) (hn : (n : Int) = segsF d l v s) (h1 : (at' : Int) < d - l)
    (hk : k ≤ (freeAns d l v s n f [] 0).length) (h2 : ∀ j, j < k → (freeAns d l v s n f [] 0).getD j 0 < at') (h3 : k < (freeAns d l v s n f [] 0).length → (at' : Int) ≤ (freeAns d l v s n f [] 0).getD k 0) :
    freeAns d l v s n f [] at' = (freeAns d l v s n f [] 0).drop k ++ (freeAns d l v s n f [] 0).take k := by
  rw [freeL_zero d l v s n f hm hn (by omega)] at *
  rw [freeL_at d l v s n f at' hm hn h1]
  rw [List.length_map] at hk h3
  have hg : ∀ j, j < (freeL f (d - l).toNat).length → ((freeL f (d - l).toNat).map (fun k : Nat => (k : Int))).getD j 0 = ((freeL f (d - l).toNat).getD j 0 : Nat) := by
    intro j hj
    simp only [List.getD_eq_getElem?_getD, List.getElem?_map, List.getElem?_eq_getElem hj]; rfl
  obtain ⟨c1, c2⟩ := cut_sorted (freeL f (d - l).toNat) at' k (freeL_sorted f _) hk (fun j hj => by have := h2 j hj; rw [hg j (by omega)] at this; omega) (fun hj => by have := h3 hj; rw [hg k hj] at this; omega)
  rw [← List.map_drop, ← List.map_take, c1, c2, List.map_append]
theorem round_len (d l v s : Int) (n : Nat) (f : Nat → Int) (at' : Nat) (hm : mayB d l v s = true) (hn : (n : Int) = segsF d l v s) (h1 : (at' : Int) < d - l) :
    (freeAns d l v s n f [] at').length = (freeAns d l v s n f [] 0).length := by
  rw [freeL_zero d l v s n f hm hn (by omega), freeL_at d l v s n f at' hm hn h1, List.length_map, List.length_map, List.length_append]
  have := List.length_eq_countP_add_countP (l := freeL f (d - l).toNat) (p := fun k => decide (at' ≤ k))
  rw [List.countP_eq_length_filter, List.countP_eq_length_filter] at this
  rw [this]
  congr 2
  apply List.filter_congr
  intro k _
  rw [Bool.eq_iff_iff]; simp
theorem free_len_le (d l v s : Int) (n : Nat) (f : Nat → Int) (B : List Int) (fr : Int) : (freeAns d l v s n f B fr).length ≤ 2 * (d - l).toNat := by
  unfold freeAns
  split
  · rw [List.length_append]
    have h1 := onL_len f B fr (List.range (d - l).toNat)
    have h2 := beL_len f B fr (List.range (d - l).toNat)
    rw [List.length_range] at h1 h2
    omega
  · simp
end Go.Proofs.Ytnpkoncflplpiaa
