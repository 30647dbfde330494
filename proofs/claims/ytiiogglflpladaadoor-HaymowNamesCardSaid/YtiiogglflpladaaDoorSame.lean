/- haymowref08.Same: are two slices of numbers the same? -/
import Derived.Test.YtiiogglflpladaaDoorInts
import Derived.Deep.QuietTactic
import Derived.BigQuiet
namespace Go.Proofs.YtiiogglflpladaaDoor
set_option linter.unusedSimpArgs false
set_option linter.unusedVariables false
open Go.RowKit

theorem list_same {A B : List Int} {n : Nat} (ha : A.length = n) (hb : B.length = n) (h : ∀ j, j < n → A.getD j 0 = B.getD j 0) : A = B := by
  apply List.ext_getElem (by omega)
  intro i h1 h2
  have := h i (by omega)
  simpa [List.getD_eq_getElem?_getD, List.getElem?_eq_getElem h1, List.getElem?_eq_getElem h2] using this

set_option maxHeartbeats 1000000 in
theorem same_any (va vb : Value) (A B : List Int) (w : World) (hA : Ints w va A) (hB : Ints w vb B) :
    Calls Tryd.prog 30 #[va, vb] w fun e w' => e = .returned (.bool (decide (A = B))) ∧ Kept w w' := by
  obtain ⟨a, c, rfl⟩ := hA.shape
  obtain ⟨a', c', rfl⟩ := hB.shape
  obtain ⟨-, hA1, hA2⟩ := hA.len
  obtain ⟨-, hB1, hB2⟩ := hB.len
  by_cases hl : A.length = B.length
  · obtain ⟨n, hn⟩ : ∃ n, n = A.length := ⟨_, rfl⟩
    rw [← hl] at hB hB1 ⊢
    rw [← hn] at hA hB hA1 hB1 ⊢
    have hn2 := hl.symm.trans hn.symm
    have HA := hid hA; have HB := hid hB; have HNA := hid hn; have HNB := hid hn2
    clear hA hB hn hn2 hl
    have hlen : ((n : Int) != n) = false := by simp
    go_enter Tryd.func30, Tryd.ntmps30
    go_wp2
    go_loopw [5] (fun i wr => ∃ k : Nat, k ≤ n ∧ i = .int .i64 k ∧ (∀ j, j < k → A.getD j 0 = B.getD j 0) ∧ Kept w wr) (fun i _ => n - (intOf i).toNat)
    case atStart => exact ⟨0, by omega, rfl, fun j hj => by omega, Kept.refl _⟩
    case round =>
      obtain ⟨k, hkn, rfl, heq, hkr⟩ := hrel
      have Heq := hid heq; clear heq
      by_cases hlt : k < n
      · obtain ⟨b, o, rfl, hc⟩ := HA.out.cells (by omega)
        obtain ⟨b', o', rfl, hc'⟩ := HB.out.cells (by omega)
        have ck := hkr.keeps (hc k hlt)
        have ck' := hkr.keeps (hc' k hlt)
        clear hc hc'
        have hi0 : (0 : Int) ≤ (k : Int) := by omega
        have hi1 : (k : Int) < (n : Int) := by omega
        obtain ⟨x, hx⟩ : ∃ x, x = A.getD k 0 := ⟨_, rfl⟩
        obtain ⟨y, hy⟩ : ∃ y, y = B.getD k 0 := ⟨_, rfl⟩
        rw [← hx] at ck
        rw [← hy] at ck'
        have Hx := hid hx; have Hy := hid hy; clear hx hy
        by_cases hxy : x = y
        · subst hxy
          have hne : (x != x) = false := by simp
          go_wp2
          go_quiet (fail)
          go_wp2
          go_roundw
          case rel => exact ⟨k + 1, by omega, by go_num, fun j hj => by
            by_cases e : j = k
            · subst e; exact Hx.out.symm.trans Hy.out
            · exact Heq.out j (by omega), (by repeat (first | exact Kept.refl _ | assumption | refine Kept.alloc ?_ _ | refine Kept.drew ?_ | refine Kept.drewN ?_ _ | refine Kept.setCell ?_ (by simp; try omega) _ | refine Kept.trans ?_ (by assumption)))⟩
          case measure => simp [intOf]; omega
        · have hne : (x != y) = true := by simpa using hxy
          go_wp2
          go_quiet (fail)
          go_wp2
          go_ret
          exact ⟨ret_bool (by symm; rw [decide_eq_false_iff_not]; rintro rfl; exact hxy (Hx.out.trans Hy.out.symm)), (by repeat (first | exact Kept.refl _ | assumption | refine Kept.alloc ?_ _ | refine Kept.drew ?_ | refine Kept.drewN ?_ _ | refine Kept.setCell ?_ (by simp; try omega) _ | refine Kept.trans ?_ (by assumption)))⟩
      · have : k = n := by omega
        subst this
        have hAB := list_same HNA.out.symm HNB.out Heq.out
        go_wp2
        go_ret
        exact ⟨ret_bool (by rw [hAB]; simp), (by repeat (first | exact Kept.refl _ | assumption | refine Kept.alloc ?_ _ | refine Kept.drew ?_ | refine Kept.drewN ?_ _ | refine Kept.setCell ?_ (by simp; try omega) _ | refine Kept.trans ?_ (by assumption)))⟩
  · have hne : ((A.length : Int) != (B.length : Int)) = true := by rw [bne_iff_ne]; omega
    have hAB : ¬ A = B := fun h => hl (by rw [h])
    have HAB := hid hAB; clear hAB
    clear hl
    generalize A.length = n at *
    generalize B.length = m at *
    clear hA hB
    go_enter Tryd.func30, Tryd.ntmps30
    go_wp2
    go_ret
    exact ⟨ret_bool (by symm; rw [decide_eq_false_iff_not]; exact HAB.out), Kept.refl _⟩
theorem same_t (va vb : Value) (A B : List Int) (w : World) (hA : Ints w va A) (hB : Ints w vb B) (h : A = B) :
    Calls Tryd.prog 30 #[va, vb] w fun e w' => e = .returned (.bool true) ∧ Kept w w' := by
  have := same_any va vb A B w hA hB
  rwa [decide_eq_true h] at this
theorem same_f (va vb : Value) (A B : List Int) (w : World) (hA : Ints w va A) (hB : Ints w vb B) (h : ¬ A = B) :
    Calls Tryd.prog 30 #[va, vb] w fun e w' => e = .returned (.bool false) ∧ Kept w w' := by
  have := same_any va vb A B w hA hB
  rwa [decide_eq_false h] at this
end Go.Proofs.YtiiogglflpladaaDoor
