/- haymowlaw15.uses. -/
import Derived.Test.Ytnpkoncflplpiaa15M
namespace Go.Proofs.Ytnpkoncflplpiaa
set_option linter.unusedSimpArgs false
set_option linter.unusedVariables false
open Go.RowKit

def clampU (x : Int) : Int := if 1099511627776 < x ∨ x < -1099511627776 then 16 else x
theorem Uses.take {w : World} {A : Option Addr} {n c : Nat} {f g : Nat → Int} (h : Uses w (.slice A n c) n f g) (m : Nat) (hm : m ≤ n) : Uses w (.slice A m c) m f g := by
  obtain ⟨h1, h2⟩ := h.len
  refine ⟨A, c, rfl, by omega, h2, fun h0 => ?_⟩
  obtain ⟨b, o, hA, hc⟩ := h.cells (by omega)
  exact ⟨b, o, hA, fun i hi => hc i (by omega)⟩

set_option maxRecDepth 100000 in
set_option maxHeartbeats 2000000 in
theorem uses_any (vu : Value) (n : Nat) (f g : Nat → Int) (w : World) (hU : Uses w vu n f g) :
    Calls Try.prog 12 #[vu] w fun e w' => ∃ v', e = .returned v' ∧ w'.ownsRow w.heap.size 54 2 v' (min n 2400) (useRow (fun k => clampU (f k)) g (min n 2400)) ∧ Kept w w' := by
  obtain ⟨A, c, rfl⟩ := hU.shape
  obtain ⟨hl1, hl2⟩ := hU.len
  have key : ∀ (m : Nat) (hm : m ≤ n) (hm2 : m ≤ 2400) (a : Act) (Q : Exit → Act → World → Prop), True := fun _ _ _ _ _ => trivial
  clear key
  have HU := hid (hU.take (min n 2400) (by omega))
  obtain ⟨m, hm⟩ : ∃ m, m = min n 2400 := ⟨_, rfl⟩
  rw [← hm] at HU ⊢
  have hm2 : m ≤ 2400 := by omega
  have hmn : m ≤ n := by omega
  clear hU
  by_cases hl : 2400 < n
  · obtain rfl : m = 2400 := by omega
    have hl' : (2400 : Int) < (n : Int) := by omega
    have hc' : 2400 ≤ c := by omega
    clear hm hl
    go_enter Try.func12, Try.ntmps12
    go_wp2
    go_loopw [3, 4] (fun vo i wr => ∃ k : Nat, k ≤ 2400 ∧ i = .int .i64 k ∧ wr.ownsRow w.heap.size 54 2 vo k (useRow (fun k => clampU (f k)) g k) ∧ Kept w wr) (fun _ i _ => 2400 - (intOf i).toNat)
    case atStart => exact ⟨0, by omega, rfl, World.ownsRow_nil _ _ _ _, Kept.refl _⟩
    case round =>
      obtain ⟨k, hk, rfl, hown, hkr⟩ := hrel
      have HO := hid hown; have HK := hid hkr
      clear hown hkr
      by_cases hlt : k < 2400
      · obtain ⟨b, o, rfl, hcl⟩ := HU.out.cells (by omega)
        have wc0 := HK.out.keeps (hcl k hlt).1
        have wc1 := HK.out.keeps (hcl k hlt).2
        clear hcl
        have HR := hid (show useRow (fun k => clampU (f k)) g (k + 1) = useRow (fun k => clampU (f k)) g k ++ [.int .i64 (clampU (f k)), .int .i64 (g k)] from rfl)
        generalize useRow (fun k => clampU (f k)) g k = row at *
        have hrow := HO.out
        by_cases h1 : 1099511627776 < f k
        · have HCL := hid (show clampU (f k) = 16 by simp [clampU, h1])
          clear hrow
          generalize f k = x at *
          generalize g k = y at *
          go_wp2_with (at_builtin; refine wpList_pushUse (W := w) rfl _ _ rfl u3 _ _ 16 y _ (wr.heap.size + 1) rfl (Kept.row (w := wr) (by repeat (first | exact Kept.refl _ | assumption | refine Kept.alloc ?_ _ | refine Kept.drew ?_ | refine Kept.drewN ?_ _ | refine Kept.setCell ?_ (by simp; try omega) _ | refine Kept.trans ?_ (by assumption))) HO.out) rfl (World.size_alloc _ _) (by omega) (Kept.trans HK.out (by repeat (first | exact Kept.refl _ | assumption | refine Kept.alloc ?_ _ | refine Kept.drew ?_ | refine Kept.drewN ?_ _ | refine Kept.setCell ?_ (by simp; try omega) _ | refine Kept.trans ?_ (by assumption)))) ?_; intro v' w3 ho3 hk3; have O3 := hid ho3; have K3 := hid hk3; clear ho3 hk3)
          go_roundw
          case rel => exact ⟨k + 1, by omega, by go_num, by rw [HR.out, HCL.out]; exact O3.out, K3.out⟩
          case measure => simp [intOf]; omega
        · by_cases h2 : f k < -1099511627776
          · have HCL := hid (show clampU (f k) = 16 by simp [clampU, h2])
            clear hrow
            generalize f k = x at *
            generalize g k = y at *
            go_wp2_with (at_builtin; refine wpList_pushUse (W := w) rfl _ _ rfl u3 _ _ 16 y _ (wr.heap.size + 1) rfl (Kept.row (w := wr) (by repeat (first | exact Kept.refl _ | assumption | refine Kept.alloc ?_ _ | refine Kept.drew ?_ | refine Kept.drewN ?_ _ | refine Kept.setCell ?_ (by simp; try omega) _ | refine Kept.trans ?_ (by assumption))) HO.out) rfl (World.size_alloc _ _) (by omega) (Kept.trans HK.out (by repeat (first | exact Kept.refl _ | assumption | refine Kept.alloc ?_ _ | refine Kept.drew ?_ | refine Kept.drewN ?_ _ | refine Kept.setCell ?_ (by simp; try omega) _ | refine Kept.trans ?_ (by assumption)))) ?_; intro v' w3 ho3 hk3; have O3 := hid ho3; have K3 := hid hk3; clear ho3 hk3)
            go_roundw
            case rel => exact ⟨k + 1, by omega, by go_num, by rw [HR.out, HCL.out]; exact O3.out, K3.out⟩
            case measure => simp [intOf]; omega
          · have HCL := hid (show clampU (f k) = f k by simp [clampU, h1, h2])
            clear hrow
            generalize f k = x at *
            generalize g k = y at *
            go_wp2_with (at_builtin; refine wpList_pushUse (W := w) rfl _ _ rfl u3 _ _ x y _ (wr.heap.size + 1) rfl (Kept.row (w := wr) (by repeat (first | exact Kept.refl _ | assumption | refine Kept.alloc ?_ _ | refine Kept.drew ?_ | refine Kept.drewN ?_ _ | refine Kept.setCell ?_ (by simp; try omega) _ | refine Kept.trans ?_ (by assumption))) HO.out) rfl (World.size_alloc _ _) (by omega) (Kept.trans HK.out (by repeat (first | exact Kept.refl _ | assumption | refine Kept.alloc ?_ _ | refine Kept.drew ?_ | refine Kept.drewN ?_ _ | refine Kept.setCell ?_ (by simp; try omega) _ | refine Kept.trans ?_ (by assumption)))) ?_; intro v' w3 ho3 hk3; have O3 := hid ho3; have K3 := hid hk3; clear ho3 hk3)
            go_roundw
            case rel => exact ⟨k + 1, by omega, by go_num, by rw [HR.out, HCL.out]; exact O3.out, K3.out⟩
            case measure => simp [intOf]; omega
      · obtain rfl : k = 2400 := by omega
        go_wp2
        go_ret
        exact ⟨_, rfl, HO.out, HK.out⟩
  · obtain rfl : m = n := by omega
    have hl' : ¬ (2400 : Int) < (m : Int) := by omega
    clear hm hl
    go_enter Try.func12, Try.ntmps12
    go_wp2
    go_loopw [3, 4] (fun vo i wr => ∃ k : Nat, k ≤ m ∧ i = .int .i64 k ∧ wr.ownsRow w.heap.size 54 2 vo k (useRow (fun k => clampU (f k)) g k) ∧ Kept w wr) (fun _ i _ => m - (intOf i).toNat)
    case atStart => exact ⟨0, by omega, rfl, World.ownsRow_nil _ _ _ _, Kept.refl _⟩
    case round =>
      obtain ⟨k, hk, rfl, hown, hkr⟩ := hrel
      have HO := hid hown; have HK := hid hkr
      clear hown hkr
      by_cases hlt : k < m
      · obtain ⟨b, o, rfl, hcl⟩ := HU.out.cells (by omega)
        have wc0 := HK.out.keeps (hcl k hlt).1
        have wc1 := HK.out.keeps (hcl k hlt).2
        clear hcl
        have HR := hid (show useRow (fun k => clampU (f k)) g (k + 1) = useRow (fun k => clampU (f k)) g k ++ [.int .i64 (clampU (f k)), .int .i64 (g k)] from rfl)
        generalize useRow (fun k => clampU (f k)) g k = row at *
        have hrow := HO.out
        by_cases h1 : 1099511627776 < f k
        · have HCL := hid (show clampU (f k) = 16 by simp [clampU, h1])
          clear hrow
          generalize f k = x at *
          generalize g k = y at *
          go_wp2_with (at_builtin; refine wpList_pushUse (W := w) rfl _ _ rfl u3 _ _ 16 y _ (wr.heap.size + 1) rfl (Kept.row (w := wr) (by repeat (first | exact Kept.refl _ | assumption | refine Kept.alloc ?_ _ | refine Kept.drew ?_ | refine Kept.drewN ?_ _ | refine Kept.setCell ?_ (by simp; try omega) _ | refine Kept.trans ?_ (by assumption))) HO.out) rfl (World.size_alloc _ _) (by omega) (Kept.trans HK.out (by repeat (first | exact Kept.refl _ | assumption | refine Kept.alloc ?_ _ | refine Kept.drew ?_ | refine Kept.drewN ?_ _ | refine Kept.setCell ?_ (by simp; try omega) _ | refine Kept.trans ?_ (by assumption)))) ?_; intro v' w3 ho3 hk3; have O3 := hid ho3; have K3 := hid hk3; clear ho3 hk3)
          go_roundw
          case rel => exact ⟨k + 1, by omega, by go_num, by rw [HR.out, HCL.out]; exact O3.out, K3.out⟩
          case measure => simp [intOf]; omega
        · by_cases h2 : f k < -1099511627776
          · have HCL := hid (show clampU (f k) = 16 by simp [clampU, h2])
            clear hrow
            generalize f k = x at *
            generalize g k = y at *
            go_wp2_with (at_builtin; refine wpList_pushUse (W := w) rfl _ _ rfl u3 _ _ 16 y _ (wr.heap.size + 1) rfl (Kept.row (w := wr) (by repeat (first | exact Kept.refl _ | assumption | refine Kept.alloc ?_ _ | refine Kept.drew ?_ | refine Kept.drewN ?_ _ | refine Kept.setCell ?_ (by simp; try omega) _ | refine Kept.trans ?_ (by assumption))) HO.out) rfl (World.size_alloc _ _) (by omega) (Kept.trans HK.out (by repeat (first | exact Kept.refl _ | assumption | refine Kept.alloc ?_ _ | refine Kept.drew ?_ | refine Kept.drewN ?_ _ | refine Kept.setCell ?_ (by simp; try omega) _ | refine Kept.trans ?_ (by assumption)))) ?_; intro v' w3 ho3 hk3; have O3 := hid ho3; have K3 := hid hk3; clear ho3 hk3)
            go_roundw
            case rel => exact ⟨k + 1, by omega, by go_num, by rw [HR.out, HCL.out]; exact O3.out, K3.out⟩
            case measure => simp [intOf]; omega
          · have HCL := hid (show clampU (f k) = f k by simp [clampU, h1, h2])
            clear hrow
            generalize f k = x at *
            generalize g k = y at *
            go_wp2_with (at_builtin; refine wpList_pushUse (W := w) rfl _ _ rfl u3 _ _ x y _ (wr.heap.size + 1) rfl (Kept.row (w := wr) (by repeat (first | exact Kept.refl _ | assumption | refine Kept.alloc ?_ _ | refine Kept.drew ?_ | refine Kept.drewN ?_ _ | refine Kept.setCell ?_ (by simp; try omega) _ | refine Kept.trans ?_ (by assumption))) HO.out) rfl (World.size_alloc _ _) (by omega) (Kept.trans HK.out (by repeat (first | exact Kept.refl _ | assumption | refine Kept.alloc ?_ _ | refine Kept.drew ?_ | refine Kept.drewN ?_ _ | refine Kept.setCell ?_ (by simp; try omega) _ | refine Kept.trans ?_ (by assumption)))) ?_; intro v' w3 ho3 hk3; have O3 := hid ho3; have K3 := hid hk3; clear ho3 hk3)
            go_roundw
            case rel => exact ⟨k + 1, by omega, by go_num, by rw [HR.out, HCL.out]; exact O3.out, K3.out⟩
            case measure => simp [intOf]; omega
      · obtain rfl : k = m := by omega
        go_wp2
        go_ret
        exact ⟨_, rfl, HO.out, HK.out⟩
end Go.Proofs.Ytnpkoncflplpiaa
