/- haymowlaw19: octets, none. -/
import Derived.Test.Ytfkmhdnapmicdaa19V
namespace Go.Proofs.Ytfkmhdnapmicdaa
set_option linter.unusedSimpArgs false
set_option linter.unusedVariables false
open Go.RowKit

theorem byts_cutTo {A : Option Addr} {n c : Nat} (k : Nat) (hk : k ≤ n) (hc : n ≤ c) (w : World) : (Instr.sliceAt 25 (.slice A n c) none (some (.int .i64 (k : Int))) none).run Try.prog w = .ok (.slice A k c) w := by
  have h : Try.prog.underlying 25 = some (.slice (Try.prog.elem 25)) := by rw [elem_u8]; exact Try.underlying25
  rw [run_sliceAt_slice (h := h), run_slice_h (ht := h) (h0 := by omega) (h2 := by omega), elem_u8, size_u8]
  simp [sliced, Result.andThen]
  intro _
  simp [Addr.add]
theorem octets_any (b : List UInt8) (v : Value) (w : World) (h : Byts w v b) : Calls Try.prog 9 #[v] w fun e w' => ∃ u, e = .returned u ∧ (∀ W, Byts W v b → Byts W u (b.take 700)) ∧ w = w' := by
  obtain ⟨A, c, rfl⟩ := h.shape
  have HB := hid h
  obtain ⟨-, h1, -, -, -⟩ := h.open_
  obtain ⟨n, hn⟩ : ∃ n, b.length = n := ⟨_, rfl⟩
  rw [hn] at HB h1 ⊢
  clear h
  by_cases hl : 700 < n
  · have hl2 : (700 : Int) < (n : Int) := by omega
    have hc := byts_cutTo (A := A) (n := n) (c := c) 700 (by omega) h1
    have hT := hid (fun (W : World) (h : Byts W (.slice A n c) b) => h.take 700 (by omega))
    clear hn
    go_enter Try.func9, Try.ntmps9
    go_wp2
    go_ret
    exact ⟨_, rfl, hT.out, rfl⟩
  · have hl2 : ¬ (700 : Int) < (n : Int) := by omega
    have hT := hid (show b.take 700 = b from List.take_of_length_le (by omega))
    clear hn
    go_enter Try.func9, Try.ntmps9
    go_wp2
    go_ret
    exact ⟨_, rfl, fun W h => by rw [hT.out]; exact h, rfl⟩
theorem none_any (f : Fl) (v : Value) (w : World) (h : Sp w v f) : Calls Try.prog 14 #[v] w (BoolPost (decide (f.size = 0) && decide (f.L.length = 0)) w) := by
  obtain ⟨vl, rfl, hP⟩ := h
  obtain ⟨A, c, rfl⟩ := hP.shape
  obtain ⟨s, L⟩ := f
  dsimp only at *
  generalize L.length = m at *
  clear hP
  by_cases hs : s = 0
  · subst hs
    by_cases hm : m = 0
    · subst hm
      go_enter Try.func14, Try.ntmps14
      go_wp2
      go_ret
      exact ⟨rfl, (by repeat (first | exact Kept.refl _ | assumption | refine Kept.alloc ?_ _ | refine Kept.drew ?_ | refine Kept.drewN ?_ _ | refine Kept.setCell ?_ (by simp; try omega) _ | refine Kept.trans ?_ (by assumption)))⟩
    · have e1 : ((m : Int) == 0) = false := by simp; omega
      have e2 : decide (m = 0) = false := decide_eq_false hm
      rw [e2]
      go_enter Try.func14, Try.ntmps14
      go_wp2
      go_ret
      exact ⟨rfl, (by repeat (first | exact Kept.refl _ | assumption | refine Kept.alloc ?_ _ | refine Kept.drew ?_ | refine Kept.drewN ?_ _ | refine Kept.setCell ?_ (by simp; try omega) _ | refine Kept.trans ?_ (by assumption)))⟩
  · have e1 : (s == 0) = false := by simpa using hs
    have e2 : decide (s = 0) = false := decide_eq_false hs
    rw [e2]
    clear hs
    go_enter Try.func14, Try.ntmps14
    go_wp2
    go_ret
    exact ⟨rfl, (by repeat (first | exact Kept.refl _ | assumption | refine Kept.alloc ?_ _ | refine Kept.drew ?_ | refine Kept.drewN ?_ _ | refine Kept.setCell ?_ (by simp; try omega) _ | refine Kept.trans ?_ (by assumption)))⟩
end Go.Proofs.Ytfkmhdnapmicdaa
