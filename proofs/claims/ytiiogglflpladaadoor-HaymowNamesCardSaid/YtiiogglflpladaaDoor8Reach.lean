/- Package reach: Path. -/
import Derived.Test.YtiiogglflpladaaDoor8Ref2
import Derived.WalkMore
namespace Go.Proofs.YtiiogglflpladaaDoor
set_option linter.unusedSimpArgs false
set_option linter.unusedVariables false
open Go.RowKit

/-- reach.reaches holds what the text says -/
def Tab (w : World) : Prop :=
  w.cell? ⟨0, 0, none⟩ = some (.int .i64 1) ∧ w.cell? ⟨0, 1, none⟩ = some (.int .i64 1) ∧ w.cell? ⟨0, 2, none⟩ = some (.int .i64 1) ∧ w.cell? ⟨0, 3, none⟩ = some (.int .i64 1) ∧ w.cell? ⟨0, 4, none⟩ = some (.int .i64 1) ∧
  w.cell? ⟨0, 5, none⟩ = some (.int .i64 1) ∧ w.cell? ⟨0, 6, none⟩ = some (.int .i64 15) ∧ w.cell? ⟨0, 7, none⟩ = some (.int .i64 225) ∧ w.cell? ⟨0, 8, none⟩ = some (.int .i64 3375)
theorem Kept.tab {w w1 : World} (h : Kept w w1) (t : Tab w) : Tab w1 := by
  obtain ⟨t0, t1, t2, t3, t4, t5, t6, t7, t8⟩ := t
  exact ⟨h.keeps t0, h.keeps t1, h.keeps t2, h.keeps t3, h.keeps t4, h.keeps t5, h.keeps t6, h.keeps t7, h.keeps t8⟩

def preOf (i : Int) : Int := if i ≤ 6 then i else if i = 7 then 21 else 246
theorem idx0 (W : World) : (Instr.index 94 (.agg #[.int .i64 1, .int .i64 1, .int .i64 1, .int .i64 1, .int .i64 1, .int .i64 1, .int .i64 15, .int .i64 225, .int .i64 3375]) (.int .i64 0)).run Tryd.prog W = .ok (.int .i64 1) W := by kernel_rfl
theorem idx1 (W : World) : (Instr.index 94 (.agg #[.int .i64 1, .int .i64 1, .int .i64 1, .int .i64 1, .int .i64 1, .int .i64 1, .int .i64 15, .int .i64 225, .int .i64 3375]) (.int .i64 1)).run Tryd.prog W = .ok (.int .i64 1) W := by kernel_rfl
theorem idx2 (W : World) : (Instr.index 94 (.agg #[.int .i64 1, .int .i64 1, .int .i64 1, .int .i64 1, .int .i64 1, .int .i64 1, .int .i64 15, .int .i64 225, .int .i64 3375]) (.int .i64 2)).run Tryd.prog W = .ok (.int .i64 1) W := by kernel_rfl
theorem idx3 (W : World) : (Instr.index 94 (.agg #[.int .i64 1, .int .i64 1, .int .i64 1, .int .i64 1, .int .i64 1, .int .i64 1, .int .i64 15, .int .i64 225, .int .i64 3375]) (.int .i64 3)).run Tryd.prog W = .ok (.int .i64 1) W := by kernel_rfl
theorem idx4 (W : World) : (Instr.index 94 (.agg #[.int .i64 1, .int .i64 1, .int .i64 1, .int .i64 1, .int .i64 1, .int .i64 1, .int .i64 15, .int .i64 225, .int .i64 3375]) (.int .i64 4)).run Tryd.prog W = .ok (.int .i64 1) W := by kernel_rfl
theorem idx5 (W : World) : (Instr.index 94 (.agg #[.int .i64 1, .int .i64 1, .int .i64 1, .int .i64 1, .int .i64 1, .int .i64 1, .int .i64 15, .int .i64 225, .int .i64 3375]) (.int .i64 5)).run Tryd.prog W = .ok (.int .i64 1) W := by kernel_rfl
theorem idx6 (W : World) : (Instr.index 94 (.agg #[.int .i64 1, .int .i64 1, .int .i64 1, .int .i64 1, .int .i64 1, .int .i64 1, .int .i64 15, .int .i64 225, .int .i64 3375]) (.int .i64 6)).run Tryd.prog W = .ok (.int .i64 15) W := by kernel_rfl
theorem idx7 (W : World) : (Instr.index 94 (.agg #[.int .i64 1, .int .i64 1, .int .i64 1, .int .i64 1, .int .i64 1, .int .i64 1, .int .i64 15, .int .i64 225, .int .i64 3375]) (.int .i64 7)).run Tryd.prog W = .ok (.int .i64 225) W := by kernel_rfl
theorem idx8 (W : World) : (Instr.index 94 (.agg #[.int .i64 1, .int .i64 1, .int .i64 1, .int .i64 1, .int .i64 1, .int .i64 1, .int .i64 15, .int .i64 225, .int .i64 3375]) (.int .i64 8)).run Tryd.prog W = .ok (.int .i64 3375) W := by kernel_rfl

set_option maxRecDepth 100000 in
set_option maxHeartbeats 2000000 in
theorem path_any (n : Int) (h0 : 0 ≤ n) (hn : n < 3621) (w : World) (ht : Tab w) : Calls Tryd.prog 28 #[.int .i64 n] w fun e w' => ∃ v, e = .returned (.tuple #[v, .int .i64 0]) ∧ Ints w' v (pathOf n.toNat) ∧ Kept w w' := by
  obtain ⟨t0, t1, t2, t3, t4, t5, t6, t7, t8⟩ := ht
  go_enter Tryd.func28, Tryd.ntmps28
  go_wp2
  go_step3
  go_wp2
  go_step3
  go_wp2
  go_loopw [0, 4, 14] (fun x p t wr => ∃ i m : Int, 0 ≤ i ∧ i ≤ 8 ∧ 0 ≤ m ∧ m ≤ 4000 ∧ t = .int .i64 i ∧ x = .int .i64 m ∧ n = m + preOf i ∧ p = .slice none 0 0 ∧ wr = w) (fun _ _ t _ => (9 - intOf t).toNat)
  case atStart => exact ⟨0, n, by omega, by omega, h0, by omega, rfl, rfl, by simp [preOf], rfl, rfl⟩
  case round =>
    obtain ⟨i, m, hi0, hi, hm, hm4, rfl, rfl, hnm, rfl, rfl⟩ := hrel
    have hown : wr.ownsRow wr.heap.size 3 1 (.slice none 0 0) 0 (([] : List Int).map (Value.int .i64)) := World.ownsRow_nil _ _ _ _
    have hk := Kept.refl wr
    rcases (show i = 0 ∨ i = 1 ∨ i = 2 ∨ i = 3 ∨ i = 4 ∨ i = 5 ∨ i = 6 ∨ i = 7 ∨ i = 8 from by omega) with rfl | rfl | rfl | rfl | rfl | rfl | rfl | rfl | rfl
    · have hix := idx0
      have hpre : preOf 0 = 0 := by decide
      by_cases hc : 1 ≤ m
      · have HN : Hid (n = m - 1 + preOf 1) := by rw [Hid, show preOf 1 = 1 from by decide]; rw [hpre] at hnm; omega
        clear hnm hpre
        go_wp2
        go_roundw
        case rel => exact ⟨1, m - 1, by omega, by omega, by omega, by omega, rfl, rfl, HN.out, rfl, (by first | rfl | trivial)⟩
        case measure => simp [intOf]
      · have HP : Hid (pathOf n.toNat = [0]) := by
          rw [hpre] at hnm; subst hnm
          rw [Hid, path_a _ (by omega)]; congr 1; omega
        clear hnm hpre
        go_wp2_with (first
        | (at_builtin; refine wpList_pushI (W := wr) rfl (.tmp 24) (.tmp 26) rfl _ _ _ _ _ _ rfl hown rfl (by simp) (by omega) hk ?_; intro v1 w1 hown hk)
        | (at_builtin; refine wpList_pushI (W := wr) rfl (.tmp 32) (.tmp 36) rfl _ _ _ _ _ _ rfl hown rfl (by simp) (by omega) hk ?_; intro v1 w1 hown hk))
        refine wp_loop_rounds 1 ?_
        rw [rounds_succ]
        go_wp2_with (first
        | (at_builtin; refine wpList_pushI (W := wr) rfl (.tmp 24) (.tmp 26) rfl _ _ _ _ _ _ rfl hown rfl (by simp) (by omega) hk ?_; intro v1 w1 hown hk)
        | (at_builtin; refine wpList_pushI (W := wr) rfl (.tmp 32) (.tmp 36) rfl _ _ _ _ _ _ rfl hown rfl (by simp) (by omega) hk ?_; intro v1 w1 hown hk))
        rw [Exit.noGoto_ret]
        go_ret2
        exact ⟨_, rfl, by rw [HP.out]; exact (ints_own hown).1, hk⟩
    · have hix := idx1
      have hpre : preOf 1 = 1 := by decide
      by_cases hc : 1 ≤ m
      · have HN : Hid (n = m - 1 + preOf 2) := by rw [Hid, show preOf 2 = 2 from by decide]; rw [hpre] at hnm; omega
        clear hnm hpre
        go_wp2
        go_roundw
        case rel => exact ⟨2, m - 1, by omega, by omega, by omega, by omega, rfl, rfl, HN.out, rfl, (by first | rfl | trivial)⟩
        case measure => simp [intOf]
      · have HP : Hid (pathOf n.toNat = [1]) := by
          rw [hpre] at hnm; subst hnm
          rw [Hid, path_a _ (by omega)]; congr 1; omega
        clear hnm hpre
        go_wp2_with (first
        | (at_builtin; refine wpList_pushI (W := wr) rfl (.tmp 24) (.tmp 26) rfl _ _ _ _ _ _ rfl hown rfl (by simp) (by omega) hk ?_; intro v1 w1 hown hk)
        | (at_builtin; refine wpList_pushI (W := wr) rfl (.tmp 32) (.tmp 36) rfl _ _ _ _ _ _ rfl hown rfl (by simp) (by omega) hk ?_; intro v1 w1 hown hk))
        refine wp_loop_rounds 1 ?_
        rw [rounds_succ]
        go_wp2_with (first
        | (at_builtin; refine wpList_pushI (W := wr) rfl (.tmp 24) (.tmp 26) rfl _ _ _ _ _ _ rfl hown rfl (by simp) (by omega) hk ?_; intro v1 w1 hown hk)
        | (at_builtin; refine wpList_pushI (W := wr) rfl (.tmp 32) (.tmp 36) rfl _ _ _ _ _ _ rfl hown rfl (by simp) (by omega) hk ?_; intro v1 w1 hown hk))
        rw [Exit.noGoto_ret]
        go_ret2
        exact ⟨_, rfl, by rw [HP.out]; exact (ints_own hown).1, hk⟩
    · have hix := idx2
      have hpre : preOf 2 = 2 := by decide
      by_cases hc : 1 ≤ m
      · have HN : Hid (n = m - 1 + preOf 3) := by rw [Hid, show preOf 3 = 3 from by decide]; rw [hpre] at hnm; omega
        clear hnm hpre
        go_wp2
        go_roundw
        case rel => exact ⟨3, m - 1, by omega, by omega, by omega, by omega, rfl, rfl, HN.out, rfl, (by first | rfl | trivial)⟩
        case measure => simp [intOf]
      · have HP : Hid (pathOf n.toNat = [2]) := by
          rw [hpre] at hnm; subst hnm
          rw [Hid, path_a _ (by omega)]; congr 1; omega
        clear hnm hpre
        go_wp2_with (first
        | (at_builtin; refine wpList_pushI (W := wr) rfl (.tmp 24) (.tmp 26) rfl _ _ _ _ _ _ rfl hown rfl (by simp) (by omega) hk ?_; intro v1 w1 hown hk)
        | (at_builtin; refine wpList_pushI (W := wr) rfl (.tmp 32) (.tmp 36) rfl _ _ _ _ _ _ rfl hown rfl (by simp) (by omega) hk ?_; intro v1 w1 hown hk))
        refine wp_loop_rounds 1 ?_
        rw [rounds_succ]
        go_wp2_with (first
        | (at_builtin; refine wpList_pushI (W := wr) rfl (.tmp 24) (.tmp 26) rfl _ _ _ _ _ _ rfl hown rfl (by simp) (by omega) hk ?_; intro v1 w1 hown hk)
        | (at_builtin; refine wpList_pushI (W := wr) rfl (.tmp 32) (.tmp 36) rfl _ _ _ _ _ _ rfl hown rfl (by simp) (by omega) hk ?_; intro v1 w1 hown hk))
        rw [Exit.noGoto_ret]
        go_ret2
        exact ⟨_, rfl, by rw [HP.out]; exact (ints_own hown).1, hk⟩
    · have hix := idx3
      have hpre : preOf 3 = 3 := by decide
      by_cases hc : 1 ≤ m
      · have HN : Hid (n = m - 1 + preOf 4) := by rw [Hid, show preOf 4 = 4 from by decide]; rw [hpre] at hnm; omega
        clear hnm hpre
        go_wp2
        go_roundw
        case rel => exact ⟨4, m - 1, by omega, by omega, by omega, by omega, rfl, rfl, HN.out, rfl, (by first | rfl | trivial)⟩
        case measure => simp [intOf]
      · have HP : Hid (pathOf n.toNat = [3]) := by
          rw [hpre] at hnm; subst hnm
          rw [Hid, path_a _ (by omega)]; congr 1; omega
        clear hnm hpre
        go_wp2_with (first
        | (at_builtin; refine wpList_pushI (W := wr) rfl (.tmp 24) (.tmp 26) rfl _ _ _ _ _ _ rfl hown rfl (by simp) (by omega) hk ?_; intro v1 w1 hown hk)
        | (at_builtin; refine wpList_pushI (W := wr) rfl (.tmp 32) (.tmp 36) rfl _ _ _ _ _ _ rfl hown rfl (by simp) (by omega) hk ?_; intro v1 w1 hown hk))
        refine wp_loop_rounds 1 ?_
        rw [rounds_succ]
        go_wp2_with (first
        | (at_builtin; refine wpList_pushI (W := wr) rfl (.tmp 24) (.tmp 26) rfl _ _ _ _ _ _ rfl hown rfl (by simp) (by omega) hk ?_; intro v1 w1 hown hk)
        | (at_builtin; refine wpList_pushI (W := wr) rfl (.tmp 32) (.tmp 36) rfl _ _ _ _ _ _ rfl hown rfl (by simp) (by omega) hk ?_; intro v1 w1 hown hk))
        rw [Exit.noGoto_ret]
        go_ret2
        exact ⟨_, rfl, by rw [HP.out]; exact (ints_own hown).1, hk⟩
    · have hix := idx4
      have hpre : preOf 4 = 4 := by decide
      by_cases hc : 1 ≤ m
      · have HN : Hid (n = m - 1 + preOf 5) := by rw [Hid, show preOf 5 = 5 from by decide]; rw [hpre] at hnm; omega
        clear hnm hpre
        go_wp2
        go_roundw
        case rel => exact ⟨5, m - 1, by omega, by omega, by omega, by omega, rfl, rfl, HN.out, rfl, (by first | rfl | trivial)⟩
        case measure => simp [intOf]
      · have HP : Hid (pathOf n.toNat = [4]) := by
          rw [hpre] at hnm; subst hnm
          rw [Hid, path_a _ (by omega)]; congr 1; omega
        clear hnm hpre
        go_wp2_with (first
        | (at_builtin; refine wpList_pushI (W := wr) rfl (.tmp 24) (.tmp 26) rfl _ _ _ _ _ _ rfl hown rfl (by simp) (by omega) hk ?_; intro v1 w1 hown hk)
        | (at_builtin; refine wpList_pushI (W := wr) rfl (.tmp 32) (.tmp 36) rfl _ _ _ _ _ _ rfl hown rfl (by simp) (by omega) hk ?_; intro v1 w1 hown hk))
        refine wp_loop_rounds 1 ?_
        rw [rounds_succ]
        go_wp2_with (first
        | (at_builtin; refine wpList_pushI (W := wr) rfl (.tmp 24) (.tmp 26) rfl _ _ _ _ _ _ rfl hown rfl (by simp) (by omega) hk ?_; intro v1 w1 hown hk)
        | (at_builtin; refine wpList_pushI (W := wr) rfl (.tmp 32) (.tmp 36) rfl _ _ _ _ _ _ rfl hown rfl (by simp) (by omega) hk ?_; intro v1 w1 hown hk))
        rw [Exit.noGoto_ret]
        go_ret2
        exact ⟨_, rfl, by rw [HP.out]; exact (ints_own hown).1, hk⟩
    · have hix := idx5
      have hpre : preOf 5 = 5 := by decide
      by_cases hc : 1 ≤ m
      · have HN : Hid (n = m - 1 + preOf 6) := by rw [Hid, show preOf 6 = 6 from by decide]; rw [hpre] at hnm; omega
        clear hnm hpre
        go_wp2
        go_roundw
        case rel => exact ⟨6, m - 1, by omega, by omega, by omega, by omega, rfl, rfl, HN.out, rfl, (by first | rfl | trivial)⟩
        case measure => simp [intOf]
      · have HP : Hid (pathOf n.toNat = [5]) := by
          rw [hpre] at hnm; subst hnm
          rw [Hid, path_a _ (by omega)]; congr 1; omega
        clear hnm hpre
        go_wp2_with (first
        | (at_builtin; refine wpList_pushI (W := wr) rfl (.tmp 24) (.tmp 26) rfl _ _ _ _ _ _ rfl hown rfl (by simp) (by omega) hk ?_; intro v1 w1 hown hk)
        | (at_builtin; refine wpList_pushI (W := wr) rfl (.tmp 32) (.tmp 36) rfl _ _ _ _ _ _ rfl hown rfl (by simp) (by omega) hk ?_; intro v1 w1 hown hk))
        refine wp_loop_rounds 1 ?_
        rw [rounds_succ]
        go_wp2_with (first
        | (at_builtin; refine wpList_pushI (W := wr) rfl (.tmp 24) (.tmp 26) rfl _ _ _ _ _ _ rfl hown rfl (by simp) (by omega) hk ?_; intro v1 w1 hown hk)
        | (at_builtin; refine wpList_pushI (W := wr) rfl (.tmp 32) (.tmp 36) rfl _ _ _ _ _ _ rfl hown rfl (by simp) (by omega) hk ?_; intro v1 w1 hown hk))
        rw [Exit.noGoto_ret]
        go_ret2
        exact ⟨_, rfl, by rw [HP.out]; exact (ints_own hown).1, hk⟩
    · have hix := idx6
      have hpre : preOf 6 = 6 := by decide
      by_cases hc : 15 ≤ m
      · have HN : Hid (n = m - 15 + preOf 7) := by rw [Hid, show preOf 7 = 21 from by decide]; rw [hpre] at hnm; omega
        clear hnm hpre
        go_wp2
        go_roundw
        case rel => exact ⟨7, m - 15, by omega, by omega, by omega, by omega, rfl, rfl, HN.out, rfl, (by first | rfl | trivial)⟩
        case measure => simp [intOf]
      · have HP : Hid (pathOf n.toNat = [6, m]) := by
          rw [hpre] at hnm; subst hnm
          rw [Hid, path_b _ (by omega) (by omega)]; congr 2; omega
        clear hnm hpre
        go_wp2_with (first
        | (at_builtin; refine wpList_pushI (W := wr) rfl (.tmp 24) (.tmp 26) rfl _ _ _ _ _ _ rfl hown rfl (by simp) (by omega) hk ?_; intro v1 w1 hown hk)
        | (at_builtin; refine wpList_pushI (W := wr) rfl (.tmp 32) (.tmp 36) rfl _ _ _ _ _ _ rfl hown rfl (by simp) (by omega) hk ?_; intro v1 w1 hown hk))
        refine wp_loop_rounds 2 ?_
        rw [rounds_succ]
        go_wp2_with (first
        | (at_builtin; refine wpList_pushI (W := wr) rfl (.tmp 24) (.tmp 26) rfl _ _ _ _ _ _ rfl hown rfl (by simp) (by omega) hk ?_; intro v1 w1 hown hk)
        | (at_builtin; refine wpList_pushI (W := wr) rfl (.tmp 32) (.tmp 36) rfl _ _ _ _ _ _ rfl hown rfl (by simp) (by omega) hk ?_; intro v1 w1 hown hk))
        rw [rounds_succ]
        go_wp2_with (first
        | (at_builtin; refine wpList_pushI (W := wr) rfl (.tmp 24) (.tmp 26) rfl _ _ _ _ _ _ rfl hown rfl (by simp) (by omega) hk ?_; intro v1 w1 hown hk)
        | (at_builtin; refine wpList_pushI (W := wr) rfl (.tmp 32) (.tmp 36) rfl _ _ _ _ _ _ rfl hown rfl (by simp) (by omega) hk ?_; intro v1 w1 hown hk))
        rw [Exit.noGoto_ret]
        go_ret2
        exact ⟨_, rfl, by rw [HP.out]; exact (ints_own hown).1, hk⟩
    · have hix := idx7
      have hpre : preOf 7 = 21 := by decide
      by_cases hc : 225 ≤ m
      · have HN : Hid (n = m - 225 + preOf 8) := by rw [Hid, show preOf 8 = 246 from by decide]; rw [hpre] at hnm; omega
        clear hnm hpre
        go_wp2
        go_roundw
        case rel => exact ⟨8, m - 225, by omega, by omega, by omega, by omega, rfl, rfl, HN.out, rfl, (by first | rfl | trivial)⟩
        case measure => simp [intOf]
      · have HP : Hid (pathOf n.toNat = [7, m / 15, m % 15]) := by
          rw [hpre] at hnm; subst hnm
          rw [Hid, path_c _ (by omega) (by omega), show (((m + 21).toNat - 21) / 15 : Nat) = (m / 15).toNat by omega, show (((m + 21).toNat - 21) % 15 : Nat) = (m % 15).toNat by omega]; congr 3 <;> omega
        clear hnm hpre
        go_wp2_with (first
        | (at_builtin; refine wpList_pushI (W := wr) rfl (.tmp 24) (.tmp 26) rfl _ _ _ _ _ _ rfl hown rfl (by simp) (by omega) hk ?_; intro v1 w1 hown hk)
        | (at_builtin; refine wpList_pushI (W := wr) rfl (.tmp 32) (.tmp 36) rfl _ _ _ _ _ _ rfl hown rfl (by simp) (by omega) hk ?_; intro v1 w1 hown hk))
        refine wp_loop_rounds 3 ?_
        rw [rounds_succ]
        go_wp2_with (first
        | (at_builtin; refine wpList_pushI (W := wr) rfl (.tmp 24) (.tmp 26) rfl _ _ _ _ _ _ rfl hown rfl (by simp) (by omega) hk ?_; intro v1 w1 hown hk)
        | (at_builtin; refine wpList_pushI (W := wr) rfl (.tmp 32) (.tmp 36) rfl _ _ _ _ _ _ rfl hown rfl (by simp) (by omega) hk ?_; intro v1 w1 hown hk))
        rw [rounds_succ]
        go_wp2_with (first
        | (at_builtin; refine wpList_pushI (W := wr) rfl (.tmp 24) (.tmp 26) rfl _ _ _ _ _ _ rfl hown rfl (by simp) (by omega) hk ?_; intro v1 w1 hown hk)
        | (at_builtin; refine wpList_pushI (W := wr) rfl (.tmp 32) (.tmp 36) rfl _ _ _ _ _ _ rfl hown rfl (by simp) (by omega) hk ?_; intro v1 w1 hown hk))
        rw [rounds_succ]
        go_wp2_with (first
        | (at_builtin; refine wpList_pushI (W := wr) rfl (.tmp 24) (.tmp 26) rfl _ _ _ _ _ _ rfl hown rfl (by simp) (by omega) hk ?_; intro v1 w1 hown hk)
        | (at_builtin; refine wpList_pushI (W := wr) rfl (.tmp 32) (.tmp 36) rfl _ _ _ _ _ _ rfl hown rfl (by simp) (by omega) hk ?_; intro v1 w1 hown hk))
        rw [Exit.noGoto_ret]
        go_ret2
        exact ⟨_, rfl, by rw [HP.out]; exact (ints_own hown).1, hk⟩
    · have hix := idx8
      have hpre : preOf 8 = 246 := by decide
      by_cases hc : 3375 ≤ m
      · exfalso; rw [hpre] at hnm; omega
      · have HP : Hid (pathOf n.toNat = [8, m / 225, m % 225 / 15, m % 15]) := by
          rw [hpre] at hnm; subst hnm
          rw [Hid, path_d _ (by omega)]; congr 3 <;> (try congr 2) <;> omega
        clear hnm hpre
        go_wp2_with (first
        | (at_builtin; refine wpList_pushI (W := wr) rfl (.tmp 24) (.tmp 26) rfl _ _ _ _ _ _ rfl hown rfl (by simp) (by omega) hk ?_; intro v1 w1 hown hk)
        | (at_builtin; refine wpList_pushI (W := wr) rfl (.tmp 32) (.tmp 36) rfl _ _ _ _ _ _ rfl hown rfl (by simp) (by omega) hk ?_; intro v1 w1 hown hk))
        refine wp_loop_rounds 4 ?_
        rw [rounds_succ]
        go_wp2_with (first
        | (at_builtin; refine wpList_pushI (W := wr) rfl (.tmp 24) (.tmp 26) rfl _ _ _ _ _ _ rfl hown rfl (by simp) (by omega) hk ?_; intro v1 w1 hown hk)
        | (at_builtin; refine wpList_pushI (W := wr) rfl (.tmp 32) (.tmp 36) rfl _ _ _ _ _ _ rfl hown rfl (by simp) (by omega) hk ?_; intro v1 w1 hown hk))
        rw [rounds_succ]
        go_wp2_with (first
        | (at_builtin; refine wpList_pushI (W := wr) rfl (.tmp 24) (.tmp 26) rfl _ _ _ _ _ _ rfl hown rfl (by simp) (by omega) hk ?_; intro v1 w1 hown hk)
        | (at_builtin; refine wpList_pushI (W := wr) rfl (.tmp 32) (.tmp 36) rfl _ _ _ _ _ _ rfl hown rfl (by simp) (by omega) hk ?_; intro v1 w1 hown hk))
        rw [rounds_succ]
        go_wp2_with (first
        | (at_builtin; refine wpList_pushI (W := wr) rfl (.tmp 24) (.tmp 26) rfl _ _ _ _ _ _ rfl hown rfl (by simp) (by omega) hk ?_; intro v1 w1 hown hk)
        | (at_builtin; refine wpList_pushI (W := wr) rfl (.tmp 32) (.tmp 36) rfl _ _ _ _ _ _ rfl hown rfl (by simp) (by omega) hk ?_; intro v1 w1 hown hk))
        rw [rounds_succ]
        go_wp2_with (first
        | (at_builtin; refine wpList_pushI (W := wr) rfl (.tmp 24) (.tmp 26) rfl _ _ _ _ _ _ rfl hown rfl (by simp) (by omega) hk ?_; intro v1 w1 hown hk)
        | (at_builtin; refine wpList_pushI (W := wr) rfl (.tmp 32) (.tmp 36) rfl _ _ _ _ _ _ rfl hown rfl (by simp) (by omega) hk ?_; intro v1 w1 hown hk))
        rw [Exit.noGoto_ret]
        go_ret2
        exact ⟨_, rfl, by rw [HP.out]; exact (ints_own hown).1, hk⟩
end Go.Proofs.YtiiogglflpladaaDoor
