/- Package reach: Number. -/
import Derived.Test.YtepljgondmkljaaDoor8Reach3
namespace Go.Proofs.YtepljgondmkljaaDoor
set_option linter.unusedSimpArgs false
set_option linter.unusedVariables false
open Go.RowKit

def isIx (i : Int) : Bool := decide (0 ≤ i ∧ i < 15)
def numF : List Int → Option Int
  | [] => none
  | [t] => if 6 ≤ t ∧ t ≤ 8 then some (t - 6) else none
  | [t, a] => if 7 ≤ t ∧ t ≤ 8 ∧ 0 ≤ a ∧ a < 15 then some (if t = 7 then 3 + a else 18 + a) else none
  | [t, a, b] => if t = 8 ∧ 0 ≤ a ∧ a < 15 ∧ 0 ≤ b ∧ b < 15 then some (33 + 15 * a + b) else none
  | _ => none

theorem numF_iff (L : List Int) (m : Int) : numF L = some m ↔ ∃ n : Nat, n < 258 ∧ nodeOf n = L ∧ m = n := by
  constructor
  · intro h
    match L, h with
    | [t], h =>
      simp only [numF] at h
      split at h
      · rename_i ht
        simp only [Option.some.injEq] at h
        exact ⟨(t - 6).toNat, by omega, by rw [nodeOf, if_pos (by omega)]; congr 1; omega, by omega⟩
      · cases h
    | [t, a], h =>
      simp only [numF] at h
      split at h
      · rename_i ht
        simp only [Option.some.injEq] at h
        by_cases h7 : t = 7
        · subst h7
          rw [if_pos rfl] at h
          exact ⟨(3 + a).toNat, by omega, by rw [nodeOf, if_neg (by omega), if_pos (by omega)]; congr 2; omega, by omega⟩
        · rw [if_neg h7] at h
          obtain rfl : t = 8 := by omega
          exact ⟨(18 + a).toNat, by omega, by rw [nodeOf, if_neg (by omega), if_neg (by omega), if_pos (by omega)]; congr 2; omega, by omega⟩
      · cases h
    | [t, a, b], h =>
      simp only [numF] at h
      split at h
      · rename_i ht
        obtain ⟨rfl, h1, h2, h3, h4⟩ := ht
        simp only [Option.some.injEq] at h
        refine ⟨(33 + 15 * a + b).toNat, by omega, ?_, by omega⟩
        rw [nodeOf, if_neg (by omega), if_neg (by omega), if_neg (by omega)]
        congr 2
        · omega
        · congr 1; omega
      · cases h
  · rintro ⟨n, hn, rfl, rfl⟩
    unfold nodeOf
    split
    · rw [numF]; rw [if_pos (by omega)]; congr 1; omega
    · split
      · rw [numF]; rw [if_pos (by omega), if_pos rfl]; congr 1; omega
      · split
        · rw [numF]; rw [if_pos (by omega), if_neg (by omega)]; congr 1; omega
        · rw [numF]; rw [if_pos (by omega)]; congr 1; omega

def NumberPost (L : List Int) (w : World) (e : Ending) (w' : World) : Prop :=
  (match numF L with | some n => e = .returned (.tuple #[.int .i64 n, .int .i64 0]) | none => e = .returned (.tuple #[.int .i64 0, .int .i64 4])) ∧ Kept w w'
theorem NumberPost.yes {L : List Int} {w w' : World} {n : Int} (h : numF L = some n) (hk : Kept w w') : NumberPost L w (.returned (.tuple #[.int .i64 n, .int .i64 0])) w' := by
  unfold NumberPost; rw [h]; exact ⟨rfl, hk⟩
theorem NumberPost.no {L : List Int} {w w' : World} (h : numF L = none) (hk : Kept w w') : NumberPost L w (.returned (.tuple #[.int .i64 0, .int .i64 4])) w' := by
  unfold NumberPost; rw [h]; exact ⟨rfl, hk⟩

theorem numF_long (t : Int) (r : List Int) (h : t - 6 < r.length) : numF (t :: r) = none := by
  match r, h with
  | [], h => simp only [numF]; rw [if_neg]; simp at h; omega
  | [a], h => simp only [numF]; rw [if_neg]; simp at h; omega
  | [a, b], h => simp only [numF]; rw [if_neg]; simp at h; omega
  | a :: b :: c :: d, h => rfl
theorem numF_top (t : Int) (r : List Int) (h : ¬ (6 ≤ t ∧ t ≤ 8)) : numF (t :: r) = none := by
  match r with
  | [] => simp only [numF]; rw [if_neg h]
  | [a] => simp only [numF]; rw [if_neg]; omega
  | [a, b] => simp only [numF]; rw [if_neg]; omega
  | a :: b :: c :: d => rfl

set_option maxRecDepth 100000 in
set_option maxHeartbeats 2000000 in
theorem number_1 (t : Int) (h6 : 6 ≤ t) (h8 : t ≤ 8) (v : Value) (w : World) (hL : Ints w v [t]) : Calls Tryd.prog 7 #[v] w (NumberPost [t] w) := by
  obtain ⟨A, c, rfl⟩ := hL.shape
  obtain ⟨-, hlc, hcm⟩ := hL.len
  obtain ⟨b, o, rfl, hcell⟩ := hL.cells (by simp)
  have c0 := hcell 0 (by simp)
  simp at c0 hlc
  clear hcell hL
  have hcp : (1 : Int) ≤ (c : Int) := by omega
  have HR : Hid (numF [t] = some (t - 6)) := by rw [Hid, numF]; rw [if_pos ⟨h6, h8⟩]
  by_cases hc1 : c = 1
  · subst hc1
    go_enter Tryd.func7, Tryd.ntmps7
    go_wp2
    refine wp_loop_rounds 1 ?_
    rw [rounds_succ]
    go_wp2
    go_ret2
    exact .yes HR.out (Kept.refl _)
  · go_enter Tryd.func7, Tryd.ntmps7
    go_wp2
    refine wp_loop_rounds 1 ?_
    rw [rounds_succ]
    go_wp2
    go_ret2
    exact .yes HR.out (Kept.refl _)

set_option maxRecDepth 100000 in
set_option maxHeartbeats 2000000 in
theorem number_2 (t a : Int) (h6 : 7 ≤ t) (h8 : t ≤ 8) (v : Value) (w : World) (hL : Ints w v [t, a]) : Calls Tryd.prog 7 #[v] w (NumberPost [t, a] w) := by
  obtain ⟨A, c, rfl⟩ := hL.shape
  obtain ⟨-, hlc, hcm⟩ := hL.len
  obtain ⟨b, o, rfl, hcell⟩ := hL.cells (by simp)
  have c0 := hcell 0 (by simp)
  have c1 := hcell 1 (by simp)
  simp at c0 c1 hlc
  clear hcell hL
  have hcp : (1 : Int) ≤ (c : Int) := by omega
  have hc1 : ¬ c = 1 := by omega
  by_cases hx : 0 ≤ a ∧ a < 15
  · obtain ⟨hx0, hx1⟩ := hx
    rcases (show t = 7 ∨ t = 8 by omega) with rfl | rfl
    · have HR : Hid (numF [7, a] = some (3 + a)) := by rw [Hid, numF]; rw [if_pos (by omega), if_pos rfl]
      go_enter Tryd.func7, Tryd.ntmps7
      go_wp2
      refine wp_loop_rounds 2 ?_
      rw [rounds_succ]
      go_wp2_with (go_at_call 14; refine (index_t _ hx0 hx1 _).mono ?_; rintro e wz ⟨rfl, rfl⟩)
      rw [rounds_succ]
      go_wp2
      go_ret2
      exact .yes HR.out (Kept.refl _)
    · have HR : Hid (numF [8, a] = some (18 + a)) := by rw [Hid, numF]; rw [if_pos (by omega), if_neg (by omega)]
      go_enter Tryd.func7, Tryd.ntmps7
      go_wp2
      refine wp_loop_rounds 2 ?_
      rw [rounds_succ]
      go_wp2_with (go_at_call 14; refine (index_t _ hx0 hx1 _).mono ?_; rintro e wz ⟨rfl, rfl⟩)
      rw [rounds_succ]
      go_wp2
      go_ret2
      exact .yes HR.out (Kept.refl _)
  · have HR : Hid (numF [t, a] = none) := by rw [Hid, numF]; rw [if_neg (by omega)]
    go_enter Tryd.func7, Tryd.ntmps7
    go_wp2
    refine wp_loop_rounds 1 ?_
    rw [rounds_succ]
    go_wp2_with (go_at_call 14; refine (index_f _ hx _).mono ?_; rintro e wz ⟨rfl, rfl⟩)
    go_ret2
    exact .no HR.out (Kept.refl _)

set_option maxRecDepth 100000 in
set_option maxHeartbeats 2000000 in
theorem number_3 (a b : Int) (v : Value) (w : World) (hL : Ints w v [8, a, b]) : Calls Tryd.prog 7 #[v] w (NumberPost [8, a, b] w) := by
  obtain ⟨A, c, rfl⟩ := hL.shape
  obtain ⟨-, hlc, hcm⟩ := hL.len
  obtain ⟨g, o, rfl, hcell⟩ := hL.cells (by simp)
  have c0 := hcell 0 (by simp)
  have c1 := hcell 1 (by simp)
  have c2 := hcell 2 (by simp)
  simp at c0 c1 c2 hlc
  have c2' : w.cell? ⟨g, o + 1 + 1, none⟩ = some (.int .i64 b) := c2
  clear hcell hL
  have hcp : (1 : Int) ≤ (c : Int) := by omega
  have hc1 : ¬ c = 1 := by omega
  by_cases hx : 0 ≤ a ∧ a < 15
  · obtain ⟨hx0, hx1⟩ := hx
    by_cases hy : 0 ≤ b ∧ b < 15
    · obtain ⟨hy0, hy1⟩ := hy
      have HR : Hid (numF [8, a, b] = some (33 + 15 * a + b)) := by rw [Hid, numF]; rw [if_pos (by omega)]
      go_enter Tryd.func7, Tryd.ntmps7
      go_wp2
      refine wp_loop_rounds 3 ?_
      rw [rounds_succ]
      go_wp2_with (go_at_call 14; refine (index_t _ hx0 hx1 _).mono ?_; rintro e wz ⟨rfl, rfl⟩)
      rw [rounds_succ]
      go_wp2_with (go_at_call 14; refine (index_t _ hy0 hy1 _).mono ?_; rintro e wz ⟨rfl, rfl⟩)
      rw [rounds_succ]
      have hw1 : IntKind.i64.wrap (15 * a) = 15 * a := IntWalk.i64_in _ (by omega)
      have hw2 : IntKind.i64.wrap (33 + 15 * a) = 33 + 15 * a := IntWalk.i64_in _ (by omega)
      have hw3 : IntKind.i64.wrap (33 + 15 * a + b) = 33 + 15 * a + b := IntWalk.i64_in _ (by omega)
      go_wp2
      go_quiet (fail)
      go_wp2
      go_ret2
      exact .yes HR.out (by repeat (first | exact Kept.refl _ | assumption | refine Kept.alloc ?_ _ | refine Kept.drew ?_ | refine Kept.drewN ?_ _ | refine Kept.setCell ?_ (by simp; try omega) _ | refine Kept.trans ?_ (by assumption)))
    · have HR : Hid (numF [8, a, b] = none) := by rw [Hid, numF]; rw [if_neg (by omega)]
      go_enter Tryd.func7, Tryd.ntmps7
      go_wp2
      refine wp_loop_rounds 2 ?_
      rw [rounds_succ]
      go_wp2_with (go_at_call 14; refine (index_t _ hx0 hx1 _).mono ?_; rintro e wz ⟨rfl, rfl⟩)
      rw [rounds_succ]
      go_wp2_with (go_at_call 14; refine (index_f _ hy _).mono ?_; rintro e wz ⟨rfl, rfl⟩)
      go_ret2
      exact .no HR.out (Kept.refl _)
  · have HR : Hid (numF [8, a, b] = none) := by rw [Hid, numF]; rw [if_neg (by omega)]
    go_enter Tryd.func7, Tryd.ntmps7
    go_wp2
    refine wp_loop_rounds 1 ?_
    rw [rounds_succ]
    go_wp2_with (go_at_call 14; refine (index_f _ hx _).mono ?_; rintro e wz ⟨rfl, rfl⟩)
    go_ret2
    exact .no HR.out (Kept.refl _)

set_option maxRecDepth 100000 in
set_option maxHeartbeats 1000000 in
theorem number_any (L : List Int) (v : Value) (w : World) (hL : Ints w v L) : Calls Tryd.prog 7 #[v] w (NumberPost L w) := by
  match L, hL with
  | [], hL =>
    obtain ⟨A, c, rfl⟩ := hL.shape
    clear hL
    go_enter Tryd.func7, Tryd.ntmps7
    go_wp2
    go_ret2
    exact .no rfl (Kept.refl _)
  | t :: r, hL =>
    by_cases ht : 6 ≤ t ∧ t ≤ 8
    · by_cases hl : t - 6 < (r.length : Int)
      · have HR := hid (numF_long t r hl)
        obtain ⟨A, c, rfl⟩ := hL.shape
        have hlen := hL.len
        obtain ⟨b, o, rfl, hcell⟩ := hL.cells (by simp)
        have c0 := hcell 0 (by simp)
        simp only [Nat.add_zero, List.getD_cons_zero] at c0
        have hl1 : (t :: r).length = r.length + 1 := by simp
        rw [hl1] at hlen ⊢
        obtain ⟨-, hlc, hcm⟩ := hlen
        clear hL hcell hl1
        generalize r.length = n at *
        obtain ⟨h6, h8⟩ := ht
        have hne : ((n : Int) + 1 == 0) = false := by simp; omega
        go_enter Tryd.func7, Tryd.ntmps7
        go_wp2
        go_ret2
        exact .no HR.out (Kept.refl _)
      · match r, hL, hl with
        | [], hL, hl => exact number_1 t ht.1 ht.2 v w hL
        | [a], hL, hl => exact number_2 t a (by simp at hl; omega) ht.2 v w hL
        | [a, b], hL, hl =>
          obtain rfl : t = 8 := by simp at hl; omega
          exact number_3 a b v w hL
        | a :: b :: c :: d, hL, hl => exfalso; simp at hl; omega
    · have HR := hid (numF_top t r ht)
      obtain ⟨A, c, rfl⟩ := hL.shape
      have hlen := hL.len
      obtain ⟨b, o, rfl, hcell⟩ := hL.cells (by simp)
      have c0 := hcell 0 (by simp)
      simp only [Nat.add_zero, List.getD_cons_zero] at c0
      have hl1 : (t :: r).length = r.length + 1 := by simp
      rw [hl1] at hlen ⊢
      obtain ⟨-, hlc, hcm⟩ := hlen
      clear hL hcell hl1
      generalize r.length = n at *
      have hne : ((n : Int) + 1 == 0) = false := by simp; omega
      by_cases h6 : 6 ≤ t
      · have h8 : 8 < t := by omega
        clear ht
        go_enter Tryd.func7, Tryd.ntmps7
        go_wp2
        go_ret2
        exact .no HR.out (Kept.refl _)
      · clear ht
        go_enter Tryd.func7, Tryd.ntmps7
        go_wp2
        go_ret2
        exact .no HR.out (Kept.refl _)
end Go.Proofs.YtepljgondmkljaaDoor
