/- Plain: all that live are counted once over all tiers; a free segment has none. -/
import Derived.Test.Ytnpkoncflplpiaa15T
namespace Go.Proofs.Ytnpkoncflplpiaa
set_option linter.unusedSimpArgs false
set_option linter.unusedVariables false
open Go.RowKit

def sumF (f : Nat → Int) (ks : List Nat) : Int := (ks.map f).sum
def usedF (f : Nat → Int) (ks : List Nat) : Nat := (ks.filter fun k => decide (0 < f k)).length
theorem sumF_snoc (f : Nat → Int) (ks : List Nat) (k : Nat) : sumF f (ks ++ [k]) = sumF f ks + f k := by simp [sumF, List.sum_append]
theorem usedF_yes {f : Nat → Int} {ks : List Nat} {k : Nat} (h : 0 < f k) : usedF f (ks ++ [k]) = usedF f ks + 1 := by simp [usedF, List.filter_append, h]
theorem usedF_no {f : Nat → Int} {ks : List Nat} {k : Nat} (h : ¬ 0 < f k) : usedF f (ks ++ [k]) = usedF f ks := by simp [usedF, List.filter_append, h]
theorem usedF_le (f : Nat → Int) (ks : List Nat) : usedF f ks ≤ ks.length := List.length_filter_le _ _
theorem sumF_bd (f : Nat → Int) (n : Nat) (hf : ∀ k, k < n → 0 ≤ f k ∧ f k ≤ 60) (ks : List Nat) (hk : ∀ k ∈ ks, k < n) : 0 ≤ sumF f ks ∧ sumF f ks ≤ 60 * ks.length := by
  induction ks with
  | nil => simp [sumF]
  | cons a r ih =>
    have h1 := ih (fun k h => hk k (List.mem_cons_of_mem _ h))
    have h2 := hf a (hk a (List.mem_cons_self ..))
    have : sumF f (a :: r) = f a + sumF f r := by simp [sumF]
    rw [this, List.length_cons]
    push_cast
    omega
theorem vals_mem {d l v s t : Int} {N : Nat} (pre : List (SegT d l v s t N)) : ∀ k ∈ vals pre, k < N := by
  intro k hk
  obtain ⟨x, -, rfl⟩ := List.mem_map.1 hk
  exact x.2.1
theorem vals_len_le {d l v s t : Int} {N : Nat} (pre : List (SegT d l v s t N)) (h : pre <+: segsTo d l v s t N N) : (vals pre).length ≤ N := by
  rw [vals_len]
  exact Nat.le_trans h.length_le (segsTo_len d l v s t N N)

/-- the tier of a segment is one of three -/
theorem tier_three (d l v s : Int) (hm : mayB d l v s = true) (N k : Nat) (hN : segsF d l v s = (N : Int)) (hk : k < N) :
    tierF d l v s ((k : Int) * 16 + 1) = 0 ∨ tierF d l v s ((k : Int) * 16 + 1) = 1 ∨ tierF d l v s ((k : Int) * 16 + 1) = 2 := by
  have hb : decide (1 ≤ (k : Int) * 16 + 1 ∧ (k : Int) * 16 + 1 ≤ segsF d l v s * 16) = true := by rw [hN]; simp; omega
  simp only [tierF, hm, hb, Bool.and_self, if_true]
  split
  · exact .inl rfl
  · split
    · exact .inr (.inl rfl)
    · exact .inr (.inr rfl)
theorem vals_segs_succ (d l v s t : Int) (N k : Nat) (f : Nat → Int) (hk : k < N) :
    sumF f (vals (segsTo d l v s t N (k + 1))) = sumF f (vals (segsTo d l v s t N k)) + if tierF d l v s ((k : Int) * 16 + 1) = t then f k else 0 := by
  rw [segsTo]
  by_cases h : tierF d l v s ((k : Int) * 16 + 1) = t
  · rw [dif_pos ⟨hk, h⟩, vals_snoc, sumF_snoc, if_pos h]
  · rw [dif_neg (fun hh => h hh.2), if_neg h]; omega
theorem sum_tiers (d l v s : Int) (hm : mayB d l v s = true) (N : Nat) (hN : segsF d l v s = (N : Int)) (f : Nat → Int) (k : Nat) (hk : k ≤ N) :
    sumF f (vals (segsTo d l v s 0 N k)) + sumF f (vals (segsTo d l v s 1 N k)) + sumF f (vals (segsTo d l v s 2 N k)) = sumF f (List.range k) := by
  induction k with
  | zero => simp [segsTo, vals, sumF]
  | succ k ih =>
    have h := ih (by omega)
    rw [vals_segs_succ _ _ _ _ _ _ _ _ (by omega), vals_segs_succ _ _ _ _ _ _ _ _ (by omega), vals_segs_succ _ _ _ _ _ _ _ _ (by omega), List.range_succ, sumF_snoc]
    rcases tier_three d l v s hm N k hN (by omega) with e | e | e <;> rw [e] <;> simp <;> omega
/-- each address is in one segment -/
theorem inSeg_sum (a : Int) (n : Nat) (h1 : 1 ≤ a) : sumF (fun j : Nat => if inSeg (j : Int) a then 1 else 0) (List.range n) = if a ≤ 16 * n then 1 else 0 := by
  induction n with
  | zero => simp [sumF]; omega
  | succ n ih =>
    rw [List.range_succ, sumF_snoc, ih]
    simp only [inSeg, Bool.and_eq_true, decide_eq_true_eq]
    push_cast
    split <;> split <;> split <;> omega
theorem sumF_add (f g h : Nat → Int) (ks : List Nat) (e : ∀ k, h k = f k + g k) : sumF h ks = sumF f ks + sumF g ks := by
  induction ks with
  | nil => simp [sumF]
  | cons a r ih =>
    have x : ∀ q : Nat → Int, sumF q (a :: r) = q a + sumF q r := fun q => by simp [sumF]
    rw [x, x, x, ih, e]; omega
theorem live_sum (L : List Int) (n : Nat) (hL : ∀ j, j < L.length → 1 ≤ L.getD j 0 ∧ L.getD j 0 ≤ 16 * (n : Int)) (m : Nat) (hm : m ≤ L.length) :
    sumF (fun j : Nat => liveTo L (j : Int) m) (List.range n) = m := by
  induction m with
  | zero =>
    have : ∀ ks : List Nat, sumF (fun j : Nat => liveTo L (j : Int) 0) ks = 0 := by
      intro ks
      induction ks with
      | nil => rfl
      | cons a r ih =>
        have : sumF (fun j : Nat => liveTo L (j : Int) 0) (a :: r) = liveTo L (a : Int) 0 + sumF (fun j : Nat => liveTo L (j : Int) 0) r := by simp [sumF]
        rw [this, ih]; rfl
    rw [this]; rfl
  | succ m ih =>
    have h := hL m (by omega)
    rw [sumF_add (fun j : Nat => liveTo L (j : Int) m) (fun j : Nat => if inSeg (j : Int) (L.getD m 0) then 1 else 0) _ _ (fun k => by rw [liveTo]; split <;> omega), ih (by omega), inSeg_sum _ _ h.1, if_pos h.2]
    omega
/-- a segment with a live address has some -/
theorem live_pos (L : List Int) (q i : Nat) (hi : i < L.length) (h1 : 1 ≤ L.getD i 0) (hq : (L.getD i 0 - 1) / 16 = (q : Int)) : 0 < liveTo L (q : Int) L.length := by
  have hin : inSeg (q : Int) (L.getD i 0) = true := by
    simp only [inSeg, Bool.and_eq_true, decide_eq_true_eq]; omega
  have : ∀ m, i < m → 0 < liveTo L (q : Int) m := by
    intro m
    induction m with
    | zero => omega
    | succ m ih =>
      intro hlt
      have hb := liveTo_bd L (q : Int) m
      rw [liveTo]
      rcases Nat.lt_or_ge i m with h | h
      · have := ih h; split <;> omega
      · obtain rfl : i = m := by omega
        rw [if_pos hin]; omega
  exact this _ hi
/-- each free one has nought -/
theorem free_nought (d l v s : Int) (n : Nat) (f : Nat → Int) (hm : mayB d l v s = true) (hn : (n : Int) = segsF d l v s) (h1 : 0 < d - l) (i : Nat) (hi : i < (freeAns d l v s n f [] 0).length) :
    ∃ q : Nat, (freeAns d l v s n f [] 0).getD i 0 = (q : Int) ∧ f q = 0 := by
  rw [freeL_zero d l v s n f hm hn h1] at hi ⊢
  rw [List.length_map] at hi
  refine ⟨(freeL f (d - l).toNat)[i], by simp only [List.getD_eq_getElem?_getD, List.getElem?_map, List.getElem?_eq_getElem hi]; rfl, ?_⟩
  have hmem : ∀ q ∈ freeL f (d - l).toNat, f q = 0 := fun q hq => by
    unfold freeL at hq
    simpa using (List.mem_filter.1 hq).2
  exact hmem _ (List.getElem_mem hi)
end Go.Proofs.Ytnpkoncflplpiaa
