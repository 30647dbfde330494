/- The plain law of HaymowNodes: nodes laid from below lead to each block again. -/
import Derived.Test.YtepljgondmkljaaDoorNI
import Derived.Test.YtepljgondmkljaaDoor8Nodes
set_option linter.unusedSimpArgs false
set_option linter.unusedVariables false
namespace Go.Proofs.YtepljgondmkljaaDoor
open Go.RowKit
theorem path_shape (n : Nat) (hn : n < 3621) : ∃ t r, pathOf n = t :: r ∧ 0 ≤ t ∧ ((t < 6 ∧ r.length = 0) ∨ (t = 6 ∧ r.length = 1) ∨ (t = 7 ∧ r.length = 2) ∨ (t = 8 ∧ r.length = 3)) ∧ ∀ x ∈ r, 0 ≤ x ∧ x ≤ 14 := by
  by_cases h6 : n < 6
  · exact ⟨_, _, path_a n h6, by omega, .inl ⟨by omega, rfl⟩, by simp⟩
  · by_cases h21 : n < 21
    · exact ⟨_, _, path_b n (by omega) h21, by omega, .inr (.inl ⟨rfl, rfl⟩), by simp; omega⟩
    · by_cases h246 : n < 246
      · exact ⟨_, _, path_c n (by omega) h246, by omega, .inr (.inr (.inl ⟨rfl, rfl⟩)), by simp; omega⟩
      · exact ⟨_, _, path_d n (by omega), by omega, .inr (.inr (.inr ⟨rfl, rfl⟩)), by simp; omega⟩
/-- no path of a block is the beginning of another's -/
theorem blk_short (n : Nat) (hn : n < 3621) (k : Nat) (hk : k < (pathOf n).length) : blkF ((pathOf n).take k) = none := by
  cases h : blkF ((pathOf n).take k) with
  | none => rfl
  | some x =>
    exfalso
    obtain ⟨n', hn', e, -⟩ := (blkF_iff _ _).1 h
    obtain ⟨t, r, e1, -, s1, -⟩ := path_shape n hn
    obtain ⟨t', r', e2, -, s2, -⟩ := path_shape n' hn'
    rw [e1] at hk
    rw [e1, e2] at e
    cases k with
    | zero => simp at e
    | succ k =>
      simp only [List.take_succ_cons, List.cons.injEq, List.length_cons] at e hk
      obtain ⟨rfl, rfl⟩ := e
      simp only [List.length_take] at s2
      omega
theorem kid_more (m k : Nat) (hm : m < 258) (x : Int) (h : numF (nodeOf m ++ [(k : Int)]) = some x) : (m : Int) < x := by
  obtain ⟨n, hn, e, rfl⟩ := (numF_iff _ _).1 h
  unfold nodeOf at e
  split at e <;> split at e <;> (try split at e) <;> (try split at e) <;> (try split at e) <;> (try split at e) <;> simp at e <;> omega
theorem mem_upTo (f : Nat → Bool) (k : Nat) (x : Int) : x ∈ upTo f k ↔ ∃ j, j < k ∧ f j = true ∧ x = (j : Int) := by
  simp only [upTo, List.mem_map, List.mem_filter, List.mem_range]
  constructor
  · rintro ⟨j, ⟨h1, h2⟩, rfl⟩; exact ⟨j, h1, h2, rfl⟩
  · rintro ⟨j, h1, h2, rfl⟩; exact ⟨j, ⟨h1, h2⟩, rfl⟩
theorem mem_nodes (L : List Int) (n : Nat) (hL : (n : Int) ∈ L) (k m : Nat) (h1 : 1 ≤ k) (h2 : k < (pathOf n).length) (hm : m < 258) (e : nodeOf m = (pathOf n).take k) : (m : Int) ∈ upTo (onAll L) 258 := by
  rw [mem_upTo]
  refine ⟨m, hm, ?_, rfl⟩
  simp only [onAll, List.any_eq_true, List.mem_range, Bool.and_eq_true, decide_eq_true_eq]
  exact ⟨_, hL, k, by simpa using h2, h1, by simpa using e⟩
theorem upTo_sorted (f : Nat → Bool) (k : Nat) : (upTo f k).Pairwise (· < ·) := by
  unfold upTo
  rw [List.pairwise_map]
  refine List.Pairwise.imp ?_ ((List.pairwise_lt_range (n := k)).filter f)
  intro a b h; exact Int.ofNat_lt.2 h
/-- the pointer to a kid -/
def kidP (H A : Int → Option (Nat × Nat)) (name : List Int) (k : Nat) : Nat × Nat :=
  match blkF (name ++ [(k : Int)]) with
  | some n => (H n).getD (0, 0)
  | none => match numF (name ++ [(k : Int)]) with
    | some m => (A m).getD (0, 0)
    | none => (0, 0)
def HOk (H : Int → Option (Nat × Nat)) (L : List Int) : Prop := (∀ n p, H n = some p → PtrOk p ∧ n ∈ L)
structure Done (w : World) (H : Int → Option (Nat × Nat)) (D : List Int) (A : Int → Option (Nat × Nat)) (B : Int → Option Nat) : Prop where
  of : ∀ m ∈ D, ∃ K g, K.length = 15 ∧ (∀ k, k < 15 → K[k]? = some (kidP H A (nodeOf m.toNat) k)) ∧ (∀ p ∈ K, PtrOk p) ∧ A m = some (1000 + m.toNat, (sumF (nodeB K)).toNat) ∧ B m = some g ∧ OBlk w g 5 (nodeB K)
  no : ∀ m, m ∉ D → A m = none ∧ B m = none
  rg : ∀ m ∈ D, 0 ≤ m ∧ m < 258
theorem done_nil (w : World) (H : Int → Option (Nat × Nat)) : Done w H [] (fun _ => none) (fun _ => none) := ⟨by simp, fun _ _ => ⟨rfl, rfl⟩, by simp⟩
theorem Done.more {w w1 : World} {H : Int → Option (Nat × Nat)} {D : List Int} {A : Int → Option (Nat × Nat)} {B : Int → Option Nat} (h : Done w H D A B) (f : ∀ g, ∀ l : List UInt8, OBlk w g 5 l → OBlk w1 g 5 l) : Done w1 H D A B :=
  ⟨fun m hm => by obtain ⟨K, g, h1, h2, h3, h4, h5, h6⟩ := h.of m hm; exact ⟨K, g, h1, h2, h3, h4, h5, f g _ h6⟩, h.no, h.rg⟩
theorem Done.ok {w : World} {H : Int → Option (Nat × Nat)} {D : List Int} {A : Int → Option (Nat × Nat)} {B : Int → Option Nat} (h : Done w H D A B) (m : Int) (p : Nat × Nat) (e : A m = some p) : PtrOk p ∧ 0 < p.1 := by
  by_cases hm : m ∈ D
  · obtain ⟨K, g, -, -, -, h4, -, -⟩ := h.of m hm
    have r := h.rg m hm
    rw [h4] at e; cases e
    have := sumF_range (nodeB K)
    refine ⟨⟨?_, ?_, ?_⟩, ?_⟩ <;> dsimp only <;> omega
  · rw [(h.no m hm).1] at e; cases e
theorem zero_ok : PtrOk (0, 0) := ⟨by decide, by decide, fun _ => rfl⟩
theorem kid_ok {w : World} {H : Int → Option (Nat × Nat)} {D L : List Int} {A : Int → Option (Nat × Nat)} {B : Int → Option Nat} (h : Done w H D A B) (hH : HOk H L) (name : List Int) (k : Nat) : PtrOk (kidP H A name k) := by
  unfold kidP
  split
  · rename_i n _
    cases e : H n with
    | none => exact zero_ok
    | some p => exact (hH n p e).1
  · split
    · rename_i m _
      cases e : A m with
      | none => exact zero_ok
      | some p => exact (h.ok m p e).1
    · exact zero_ok
/-- what is laid below does not touch a node above -/
theorem kid_upd (H A : Int → Option (Nat × Nat)) (m : Int) (h0 : 0 ≤ m) (hm : m < 258) (x : Int) (hx : x ≤ m) (u : Option (Nat × Nat)) (k : Nat) : kidP H (fun j => if j = x then u else A j) (nodeOf m.toNat) k = kidP H A (nodeOf m.toNat) k := by
  unfold kidP
  split
  · rfl
  · split
    · rename_i q e
      have := kid_more m.toNat k (by omega) q e
      dsimp only
      rw [if_neg (by omega)]
    · rfl
theorem Done.step {w : World} {H : Int → Option (Nat × Nat)} {D L : List Int} {A : Int → Option (Nat × Nat)} {B : Int → Option Nat} (h : Done w H D A B) (hH : HOk H L) (x : Int) (x0 : 0 ≤ x) (x1 : x < 258) (hlt : ∀ m ∈ D, x < m) (K : List (Nat × Nat)) (hK : K.length = 15) (hk : ∀ k, k < 15 → K[k]? = some (kidP H A (nodeOf x.toNat) k)) (g : Nat) (hg : OBlk w g 5 (nodeB K)) :
    Done w H (x :: D) (fun j => if j = x then some (1000 + x.toNat, (sumF (nodeB K)).toNat) else A j) (fun j => if j = x then some g else B j) := by
  refine ⟨fun m hm => ?_, fun m hm => ?_, fun m hm => ?_⟩
  · rw [List.mem_cons] at hm
    rcases hm with rfl | hm
    · refine ⟨K, g, hK, fun k hk' => ?_, fun p hp => ?_, by simp, by simp, hg⟩
      · rw [kid_upd H A m x0 x1 m (Int.le_refl _)]; exact hk k hk'
      · obtain ⟨i, hi⟩ := List.mem_iff_getElem?.1 hp
        have : i < 15 := by rw [← hK]; exact (List.getElem?_eq_some_iff.1 hi).1
        rw [hk i this] at hi; cases hi
        exact kid_ok h hH _ _
    · obtain ⟨K', g', h1, h2, h3, h4, h5, h6⟩ := h.of m hm
      have l := hlt m hm
      have r := h.rg m hm
      refine ⟨K', g', h1, fun k hk' => ?_, h3, by rw [if_neg (by omega)]; exact h4, by rw [if_neg (by omega)]; exact h5, h6⟩
      rw [kid_upd H A m r.1 r.2 x (by omega)]; exact h2 k hk'
  · simp only [List.mem_cons, not_or] at hm
    simp only [hm.1, if_false]
    exact h.no m hm.2
  · rw [List.mem_cons] at hm
    rcases hm with rfl | hm
    · exact ⟨x0, x1⟩
    · exact h.rg m hm
/-- where the way to block n leads, behind k steps -/
def folP (H A : Int → Option (Nat × Nat)) (n k : Nat) : Nat × Nat :=
  if k = (pathOf n).length then (H n).getD (0, 0) else match numF ((pathOf n).take k) with
    | some m => (A m).getD (0, 0)
    | none => (0, 0)
section
variable {w : World} {H A : Int → Option (Nat × Nat)} {B : Int → Option Nat} {L : List Int}
theorem fol_one (n : Nat) (h : (pathOf n).length = 1) : folP H A n 1 = (H n).getD (0, 0) := by rw [folP, if_pos h.symm]
theorem fol_first (n : Nat) (hn : n < 3621) (h : 1 < (pathOf n).length) : folP H A n 1 = (A ((pathOf n).getD 0 0 - 6)).getD (0, 0) := by
  obtain ⟨t, r, e, -, s, -⟩ := path_shape n hn
  rw [folP, if_neg (by omega), e]
  rw [e] at h
  simp only [List.length_cons] at h
  have : numF [t] = some (t - 6) := (numF_iff _ _).2 ⟨(t - 6).toNat, by omega, by rw [nodeOf, if_pos (by omega)]; simp; omega, by omega⟩
  simp [this]
theorem fol_step (h : Done w H (upTo (onAll L) 258) A B) (n : Nat) (hn : n < 3621) (k : Nat) (h1 : 1 ≤ k) (h2 : k < (pathOf n).length) (hp : 0 < (folP H A n k).1) :
    ∃ (m : Nat) (K : List (Nat × Nat)) (g q : Nat), m < 258 ∧ K.length = 15 ∧ (∀ p ∈ K, PtrOk p) ∧ folP H A n k = (1000 + m, (sumF (nodeB K)).toNat) ∧ B m = some g ∧ OBlk w g 5 (nodeB K) ∧ q < 15 ∧ (pathOf n).getD k 0 = (q : Int) ∧ K[q]? = some (folP H A n (k + 1)) := by
  obtain ⟨m, hm, hnum, hnode⟩ := path_node n hn k h1 h2
  have hf : folP H A n k = (A m).getD (0, 0) := by rw [folP, if_neg (by omega), hnum]
  rw [hf] at hp ⊢
  by_cases hD : (m : Int) ∈ upTo (onAll L) 258
  · obtain ⟨K, g, k1, k2, k3, k4, k5, k6⟩ := h.of m hD
    obtain ⟨t, r, e, -, s, rr⟩ := path_shape n hn
    have hq : 0 ≤ (pathOf n).getD k 0 ∧ (pathOf n).getD k 0 ≤ 14 := by
      rw [e] at h2 ⊢
      obtain ⟨k', rfl⟩ : ∃ k', k = k' + 1 := ⟨k - 1, by omega⟩
      simp only [List.length_cons] at h2
      have hk' : k' < r.length := by omega
      have := rr r[k'] (List.getElem_mem hk')
      simpa [List.getD_eq_getElem?_getD, List.getElem?_eq_getElem hk'] using this
    refine ⟨m, K, g, ((pathOf n).getD k 0).toNat, hm, k1, k3, by rw [k4]; simp, k5, k6, by omega, by omega, ?_⟩
    rw [k2 _ (by omega)]
    have hname : nodeOf (m : Int).toNat ++ [((((pathOf n).getD k 0).toNat : Nat) : Int)] = (pathOf n).take (k + 1) := by
      rw [Int.toNat_natCast, hnode, take_snoc_getD _ _ h2]
      congr 2
      omega
    congr 1
    unfold kidP folP
    rw [hname]
    by_cases hl : k + 1 = (pathOf n).length
    · rw [if_pos hl, hl, List.take_length, (blkF_iff _ _).2 ⟨n, hn, rfl, rfl⟩]
    · rw [if_neg hl, blk_short n hn (k + 1) (by omega)]
  · rw [(h.no m hD).1] at hp
    simp at hp
theorem fol_end (h : Done w H (upTo (onAll L) 258) A B) (hH : HOk H L) (n : Nat) (hn : n < 3621) (k : Nat) (h1 : 1 ≤ k) (h2 : k < (pathOf n).length) (hp : ¬ 0 < (folP H A n k).1) : folP H A n k = (H n).getD (0, 0) := by
  obtain ⟨m, hm, hnum, hnode⟩ := path_node n hn k h1 h2
  have hf : folP H A n k = (A m).getD (0, 0) := by rw [folP, if_neg (by omega), hnum]
  rw [hf] at hp ⊢
  cases e : A m with
  | some p =>
    have := (h.ok m p e).2
    rw [e] at hp
    exact absurd this hp
  | none =>
    have hD : ¬ (m : Int) ∈ upTo (onAll L) 258 := by
      intro hD
      obtain ⟨K, g, -, -, -, h4, -⟩ := h.of m hD
      rw [h4] at e; cases e
    cases e2 : H n with
    | none => rfl
    | some p =>
      exact absurd (mem_nodes L n (hH n p e2).2 k m h1 h2 hm hnode) hD
theorem fol_len (n k : Nat) (h : k = (pathOf n).length) : folP H A n k = (H n).getD (0, 0) := by rw [folP, if_pos h]
theorem fol_ok (h : Done w H (upTo (onAll L) 258) A B) (hH : HOk H L) (n k : Nat) : PtrOk (folP H A n k) := by
  unfold folP
  split
  · cases e : H n with
    | none => exact zero_ok
    | some p => exact (hH n p e).1
  · split
    · rename_i m _
      cases e : A m with
      | none => exact zero_ok
      | some p => exact (h.ok m p e).1
    · exact zero_ok
end
end Go.Proofs.YtepljgondmkljaaDoor
