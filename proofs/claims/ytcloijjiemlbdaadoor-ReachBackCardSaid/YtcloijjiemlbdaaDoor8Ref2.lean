/- haymowref08: Path, Block, Number. -/
import Derived.Test.YtcloijjiemlbdaaDoor8Ref
namespace Go.Proofs.YtcloijjiemlbdaaDoor
set_option linter.unusedSimpArgs false
set_option linter.unusedVariables false
open Go.RowKit

theorem ints_new1 (w : World) (a : Int) (H : Nat) (hH : w.heap.size = H) : Ints (w.alloc (.cells #[.int .i64 a] 3)) (.slice (some ⟨H, 0, none⟩) 1 1) [a] := by
  subst hH; exact ints_1 (by simp [go_sem])

theorem rpath_any (n : Nat) (hn : n < 3621) (w : World) : Calls Tryd.prog 20 #[.int .i64 n] w (NextPost (pathOf n) w) := by
  go_enter Tryd.func20, Tryd.ntmps20
  go_wp2
  go_loopw [3, 4] (fun v t wr => ∃ i : Nat, i ≤ n ∧ t = .int .i64 i ∧ Ints wr v (pathOf i) ∧ Kept w wr) (fun _ t _ => (n - intOf t).toNat)
  case atStart => exact ⟨0, by omega, rfl, ints_new1 _ _ _ rfl, (by repeat (first | exact Kept.refl _ | assumption | refine Kept.alloc ?_ _ | refine Kept.drew ?_ | refine Kept.drewN ?_ _ | refine Kept.setCell ?_ (by simp; try omega) _ | refine Kept.trans ?_ (by assumption)))⟩
  case round =>
    obtain ⟨i, hi, rfl, hv, hk⟩ := hrel
    have HV := hid hv; clear hv
    by_cases hlt : i < n
    · go_wp2_with (go_at_call 26; refine (next_path i (by omega) _ _ HV.out).mono ?_; rintro e w2 ⟨v2, rfl, hv2, hk2⟩)
      go_roundw
      case rel => exact ⟨i + 1, by omega, by go_num, by rw [nextOf, if_pos (by omega)] at hv2; exact hv2, (by repeat (first | exact Kept.refl _ | assumption | refine Kept.alloc ?_ _ | refine Kept.drew ?_ | refine Kept.drewN ?_ _ | refine Kept.setCell ?_ (by simp; try omega) _ | refine Kept.trans ?_ (by assumption)))⟩
      case measure => simp [intOf]; omega
    · obtain rfl : i = n := by omega
      go_wp2
      go_ret
      exact ⟨_, rfl, HV.out, hk⟩

theorem rpath_no (n : Int) (hn : n < 0 ∨ 3620 < n) (w : World) : Calls Tryd.prog 20 #[.int .i64 n] w fun e w' => e = .returned (.slice none 0 0) ∧ Kept w w' := by
  rcases hn with hn | hn
  · go_enter Tryd.func20, Tryd.ntmps20
    go_wp2
    go_ret
    exact ⟨rfl, Kept.refl _⟩
  · have : 0 ≤ n := by omega
    go_enter Tryd.func20, Tryd.ntmps20
    go_wp2
    go_ret
    exact ⟨rfl, Kept.refl _⟩

def BlkPost (L : List Int) (w : World) (e : Ending) (w' : World) : Prop :=
  ((∃ n : Nat, n < 3621 ∧ pathOf n = L ∧ e = .returned (.int .i64 n)) ∨ (∀ n, n < 3621 → pathOf n ≠ L) ∧ e = .returned (.int .i64 (-1))) ∧ Kept w w'

set_option maxRecDepth 100000 in
set_option maxHeartbeats 1000000 in
theorem rblock_any (L : List Int) (v : Value) (w : World) (hL : Ints w v L) : Calls Tryd.prog 22 #[v] w (BlkPost L w) := by
  have HL := hid hL; clear hL
  go_enter Tryd.func22, Tryd.ntmps22
  go_wp2
  go_loopw [3, 4] (fun p t wr => ∃ i : Nat, i ≤ 3621 ∧ t = .int .i64 i ∧ (i < 3621 → Ints wr p (pathOf i)) ∧ (∀ n, n < i → pathOf n ≠ L) ∧ Kept w wr) (fun _ t _ => (3621 - intOf t).toNat)
  case atStart => exact ⟨0, by omega, rfl, fun _ => ints_new1 _ _ _ rfl, fun n hn => by omega, (by repeat (first | exact Kept.refl _ | assumption | refine Kept.alloc ?_ _ | refine Kept.drew ?_ | refine Kept.drewN ?_ _ | refine Kept.setCell ?_ (by simp; try omega) _ | refine Kept.trans ?_ (by assumption)))⟩
  case round =>
    obtain ⟨i, hi, rfl, hv, hno, hk⟩ := hrel
    have HV := hid hv; clear hv
    have HN := hid hno; clear hno
    by_cases hlt : i < 3621
    · have HV2 := hid (HV.out hlt)
      have HL2 := hid (hk.ints HL.out)
      by_cases heq : pathOf i = L
      · have HE := hid heq; clear heq
        go_wp2_with (go_at_call 18; refine (same_t _ _ _ _ _ HV2.out HL2.out HE.out).mono ?_; rintro e w2 ⟨rfl, hk2⟩)
        go_ret
        exact ⟨.inl ⟨i, hlt, HE.out, rfl⟩, (by repeat (first | exact Kept.refl _ | assumption | refine Kept.alloc ?_ _ | refine Kept.drew ?_ | refine Kept.drewN ?_ _ | refine Kept.setCell ?_ (by simp; try omega) _ | refine Kept.trans ?_ (by assumption)))⟩
      · have HE := hid heq; clear heq
        go_wp2_with (first
          | (go_at_call 18; refine (same_f _ _ _ _ _ HV2.out HL2.out HE.out).mono ?_; rintro e w2 ⟨rfl, hk2⟩; have HV3 := hid (hk2.ints HV2.out))
          | (go_at_call 26; refine (next_path i hlt _ _ HV3.out).mono ?_; rintro e w3 ⟨v3, rfl, hv3, hk3⟩))
        go_roundw
        case rel => exact ⟨i + 1, by omega, by go_num, fun h => by rw [nextOf, if_pos (by omega)] at hv3; exact hv3, fun n hn => by
          by_cases e : n = i
          · subst e; exact HE.out
          · exact HN.out n (by omega), (by repeat (first | exact Kept.refl _ | assumption | refine Kept.alloc ?_ _ | refine Kept.drew ?_ | refine Kept.drewN ?_ _ | refine Kept.setCell ?_ (by simp; try omega) _ | refine Kept.trans ?_ (by assumption)))⟩
        case measure => simp [intOf]; omega
    · obtain rfl : i = 3621 := by omega
      go_wp2
      go_ret
      exact ⟨.inr ⟨HN.out, rfl⟩, hk⟩

def NumPost (L : List Int) (w : World) (e : Ending) (w' : World) : Prop :=
  ((∃ n : Nat, n < 258 ∧ nodeOf n = L ∧ e = .returned (.int .i64 n)) ∨ (∀ n, n < 258 → nodeOf n ≠ L) ∧ e = .returned (.int .i64 (-1))) ∧ Kept w w'

set_option maxRecDepth 100000 in
set_option maxHeartbeats 1000000 in
theorem rnumber_any (L : List Int) (v : Value) (w : World) (hL : Ints w v L) : Calls Tryd.prog 15 #[v] w (NumPost L w) := by
  have HL := hid hL; clear hL
  go_enter Tryd.func15, Tryd.ntmps15
  go_wp2
  go_loopw [3] (fun t wr => ∃ i : Nat, i ≤ 258 ∧ t = .int .i64 i ∧ (∀ n, n < i → nodeOf n ≠ L) ∧ Kept w wr) (fun t _ => (258 - intOf t).toNat)
  case atStart => exact ⟨0, by omega, rfl, fun n hn => by omega, Kept.refl _⟩
  case round =>
    obtain ⟨i, hi, rfl, hno, hk⟩ := hrel
    have HN := hid hno; clear hno
    by_cases hlt : i < 258
    · by_cases heq : nodeOf i = L
      · have HE := hid heq; clear heq
        go_wp2_with (first
          | (go_at_call 17; refine (rnode_any i hlt _).mono ?_; rintro e w1 ⟨v1, rfl, hv1, hk1⟩; have HV1 := hid hv1; clear hv1; have HL2 := hid (Kept.ints (by repeat (first | exact Kept.refl _ | assumption | refine Kept.alloc ?_ _ | refine Kept.drew ?_ | refine Kept.drewN ?_ _ | refine Kept.setCell ?_ (by simp; try omega) _ | refine Kept.trans ?_ (by assumption))) HL.out : Ints w1 _ L))
          | (go_at_call 18; refine (same_t _ _ _ _ _ HV1.out HL2.out HE.out).mono ?_; rintro e w2 ⟨rfl, hk2⟩))
        go_ret
        exact ⟨.inl ⟨i, hlt, HE.out, rfl⟩, (by repeat (first | exact Kept.refl _ | assumption | refine Kept.alloc ?_ _ | refine Kept.drew ?_ | refine Kept.drewN ?_ _ | refine Kept.setCell ?_ (by simp; try omega) _ | refine Kept.trans ?_ (by assumption)))⟩
      · have HE := hid heq; clear heq
        go_wp2_with (first
          | (go_at_call 17; refine (rnode_any i hlt _).mono ?_; rintro e w1 ⟨v1, rfl, hv1, hk1⟩; have HV1 := hid hv1; clear hv1; have HL2 := hid (Kept.ints (by repeat (first | exact Kept.refl _ | assumption | refine Kept.alloc ?_ _ | refine Kept.drew ?_ | refine Kept.drewN ?_ _ | refine Kept.setCell ?_ (by simp; try omega) _ | refine Kept.trans ?_ (by assumption))) HL.out : Ints w1 _ L))
          | (go_at_call 18; refine (same_f _ _ _ _ _ HV1.out HL2.out HE.out).mono ?_; rintro e w2 ⟨rfl, hk2⟩))
        go_roundw
        case rel => exact ⟨i + 1, by omega, by go_num, fun n hn => by
          by_cases e : n = i
          · subst e; exact HE.out
          · exact HN.out n (by omega), (by repeat (first | exact Kept.refl _ | assumption | refine Kept.alloc ?_ _ | refine Kept.drew ?_ | refine Kept.drewN ?_ _ | refine Kept.setCell ?_ (by simp; try omega) _ | refine Kept.trans ?_ (by assumption)))⟩
        case measure => simp [intOf]; omega
    · obtain rfl : i = 258 := by omega
      go_wp2
      go_ret
      exact ⟨.inr ⟨HN.out, rfl⟩, hk⟩
end Go.Proofs.YtcloijjiemlbdaaDoor
