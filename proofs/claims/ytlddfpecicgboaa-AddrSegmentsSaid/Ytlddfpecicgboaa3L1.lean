/- AddrSpaces: the walk. -/
import Derived.Test.Ytlddfpecicgboaa3Awake
import Derived.Deep.RegionHeld3
namespace Go.Proofs.Ytlddfpecicgboaa
open Go.RowKit

theorem blocks_16 (d l v s : Int) (w : World) :
    Calls Try.prog 13 #[.agg #[.int .i64 d, .int .i64 l, .int .i64 v, .int .i64 s]] w fun e w' => e = .returned (.int .i64 (16 * segsF d l v s)) ∧ Kept w w' := by
  rw [Int.mul_comm]; exact blocks_any d l v s w

set_option maxRecDepth 100000 in
set_option maxHeartbeats 1000000 in
theorem spaces_walk (d l v s : Int) (w : World) :
    Calls Try.prog 3 #[.agg #[.int .i64 d, .int .i64 l, .int .i64 v, .int .i64 s]] w fun e w' => e = .returned (.bool true) ∧ Kept w w' := by
  obtain ⟨hb1, hb2⟩ := segsF_bd d l v s
  rcases hm : mayB d l v s with _ | _
  · have hs : segsF d l v s = 0 := by simp [segsF, hm]
    have Hm := hid hm; clear hm
    have Hs := hid hs; clear hs hb1 hb2
    have h1 : ∀ w, Calls Try.prog 12 #[.agg #[.int .i64 d, .int .i64 l, .int .i64 v, .int .i64 s]] w fun e w' => e = .returned (.int .i64 0) ∧ Kept w w' := by
      intro w; have := segs_any d l v s w; rwa [Hs.out] at this
    have h2 : ∀ w, Calls Try.prog 13 #[.agg #[.int .i64 d, .int .i64 l, .int .i64 v, .int .i64 s]] w fun e w' => e = .returned (.int .i64 0) ∧ Kept w w' := by
      intro w; have := blocks_any d l v s w; rwa [Hs.out] at this
    have H1 := hid h1; have H2 := hid h2; clear h1 h2
    go_enter Try.func3, Try.ntmps3
    go_wp2_with (go_at_call 9; refine (rmay_f _ _ _ _ _ Hm.out).mono ?_; rintro e w2 ⟨rfl, hk⟩; have kk0 := hk.keeps (b := w.heap.size) (o := 0) (s := none) (v := .int .i64 d) (by simp [go_sem]); have kk1 := hk.keeps (b := w.heap.size) (o := 1) (s := none) (v := .int .i64 l) (by simp [go_sem]); have kk2 := hk.keeps (b := w.heap.size) (o := 2) (s := none) (v := .int .i64 v) (by simp [go_sem]); have kk3 := hk.keeps (b := w.heap.size) (o := 3) (s := none) (v := .int .i64 s) (by simp [go_sem]))
    have hw16 : IntKind.i64.wrap 0 = 0 := IntWalk.i64_in _ (by omega)
    go_region_held3 (fun w' => Kept w w' ∧ w'.cell? ⟨w.heap.size, 0, none⟩ = some (.int .i64 d) ∧ w'.cell? ⟨w.heap.size, 1, none⟩ = some (.int .i64 l) ∧ w'.cell? ⟨w.heap.size, 2, none⟩ = some (.int .i64 v) ∧ w'.cell? ⟨w.heap.size, 3, none⟩ = some (.int .i64 s)) (first | (go_split_ands; exact ⟨(by repeat (first | exact Kept.refl _ | assumption | refine Kept.alloc ?_ _ | refine Kept.drew ?_ | refine Kept.drewN ?_ _ | refine Kept.setCell ?_ (by simp; try omega) _ | refine Kept.trans ?_ (by assumption))), Kept.keeps (by assumption) (by assumption), Kept.keeps (by assumption) (by assumption), Kept.keeps (by assumption) (by assumption), Kept.keeps (by assumption) (by assumption)⟩) | exact ⟨(by repeat (first | exact Kept.refl _ | assumption | refine Kept.alloc ?_ _ | refine Kept.drew ?_ | refine Kept.drewN ?_ _ | refine Kept.setCell ?_ (by simp; try omega) _ | refine Kept.trans ?_ (by assumption))), by assumption, by assumption, by assumption, by assumption⟩ | (go_split_ands; exact ⟨(by repeat (first | exact Kept.refl _ | assumption | refine Kept.alloc ?_ _ | refine Kept.drew ?_ | refine Kept.drewN ?_ _ | refine Kept.setCell ?_ (by simp; try omega) _ | refine Kept.trans ?_ (by assumption))), by assumption, by assumption, by assumption, by assumption⟩))
      (first
        | (go_at_call 11; refine (may_f _ _ _ _ _ Hm.out).mono ?_; rintro e w2 ⟨rfl, hk2⟩)
        | (go_at_call 9; refine (rmay_f _ _ _ _ _ Hm.out).mono ?_; rintro e w2 ⟨rfl, hk2⟩)
        | (go_at_call 12; refine (H1.out _).mono ?_; rintro e w2 ⟨rfl, hk2⟩)
        | (go_at_call 13; refine (H2.out _).mono ?_; rintro e w2 ⟨rfl, hk2⟩)
        | (go_at_call 14; refine (awake_any _).mono ?_; rintro e w2 ⟨rfl, hk2⟩))
    go_wp2
    go_ret
    exact ⟨rfl, (by repeat (first | exact Kept.refl _ | assumption | refine Kept.alloc ?_ _ | refine Kept.drew ?_ | refine Kept.drewN ?_ _ | refine Kept.setCell ?_ (by simp; try omega) _ | refine Kept.trans ?_ (by assumption)))⟩
  · have Hm := hid hm; clear hm
    go_enter Try.func3, Try.ntmps3
    go_wp2_with (first
      | (go_at_call 9; refine (rmay_t _ _ _ _ _ Hm.out).mono ?_; rintro e w2 ⟨rfl, hk⟩; have kk0 := hk.keeps (b := w.heap.size) (o := 0) (s := none) (v := .int .i64 d) (by simp [go_sem]); have kk1 := hk.keeps (b := w.heap.size) (o := 1) (s := none) (v := .int .i64 l) (by simp [go_sem]); have kk2 := hk.keeps (b := w.heap.size) (o := 2) (s := none) (v := .int .i64 v) (by simp [go_sem]); have kk3 := hk.keeps (b := w.heap.size) (o := 3) (s := none) (v := .int .i64 s) (by simp [go_sem]))
      | (go_at_call 10; refine (rcount_any _ _ _ _ _ Hm.out).mono ?_; rintro e w3 ⟨rfl, hk3⟩; have k0 := hk3.keeps kk0; have k1 := hk3.keeps kk1; have k2 := hk3.keeps kk2; have k3 := hk3.keeps kk3))
    have hw16 : IntKind.i64.wrap (16 * segsF d l v s) = 16 * segsF d l v s := IntWalk.i64_in _ (by omega)
    go_region_held3 (fun w' => Kept w w' ∧ w'.cell? ⟨w.heap.size, 0, none⟩ = some (.int .i64 d) ∧ w'.cell? ⟨w.heap.size, 1, none⟩ = some (.int .i64 l) ∧ w'.cell? ⟨w.heap.size, 2, none⟩ = some (.int .i64 v) ∧ w'.cell? ⟨w.heap.size, 3, none⟩ = some (.int .i64 s)) (first | (go_split_ands; exact ⟨(by repeat (first | exact Kept.refl _ | assumption | refine Kept.alloc ?_ _ | refine Kept.drew ?_ | refine Kept.drewN ?_ _ | refine Kept.setCell ?_ (by simp; try omega) _ | refine Kept.trans ?_ (by assumption))), Kept.keeps (by assumption) (by assumption), Kept.keeps (by assumption) (by assumption), Kept.keeps (by assumption) (by assumption), Kept.keeps (by assumption) (by assumption)⟩) | exact ⟨(by repeat (first | exact Kept.refl _ | assumption | refine Kept.alloc ?_ _ | refine Kept.drew ?_ | refine Kept.drewN ?_ _ | refine Kept.setCell ?_ (by simp; try omega) _ | refine Kept.trans ?_ (by assumption))), by assumption, by assumption, by assumption, by assumption⟩ | (go_split_ands; exact ⟨(by repeat (first | exact Kept.refl _ | assumption | refine Kept.alloc ?_ _ | refine Kept.drew ?_ | refine Kept.drewN ?_ _ | refine Kept.setCell ?_ (by simp; try omega) _ | refine Kept.trans ?_ (by assumption))), by assumption, by assumption, by assumption, by assumption⟩))
      (first
        | (go_at_call 11; refine (may_t _ _ _ _ _ Hm.out).mono ?_; rintro e w2 ⟨rfl, hk2⟩)
        | (go_at_call 9; refine (rmay_t _ _ _ _ _ Hm.out).mono ?_; rintro e w2 ⟨rfl, hk2⟩)
        | (go_at_call 12; refine (segs_any _ _ _ _ _).mono ?_; rintro e w2 ⟨rfl, hk2⟩)
        | (go_at_call 13; refine (blocks_16 _ _ _ _ _).mono ?_; rintro e w2 ⟨rfl, hk2⟩)
        | (go_at_call 14; refine (awake_any _).mono ?_; rintro e w2 ⟨rfl, hk2⟩))
    go_wp2
    go_ret
    exact ⟨rfl, (by repeat (first | exact Kept.refl _ | assumption | refine Kept.alloc ?_ _ | refine Kept.drew ?_ | refine Kept.drewN ?_ _ | refine Kept.setCell ?_ (by simp; try omega) _ | refine Kept.trans ?_ (by assumption)))⟩
end Go.Proofs.Ytlddfpecicgboaa
