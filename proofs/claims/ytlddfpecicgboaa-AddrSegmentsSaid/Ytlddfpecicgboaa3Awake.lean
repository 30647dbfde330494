/- The chapter's examples (haymowlaw03.awake): true. -/
import Derived.Test.Ytlddfpecicgboaa3Ref2
namespace Go.Proofs.Ytlddfpecicgboaa
open Go.RowKit

theorem some_any (w : World) : Calls Try.prog 25 #[] w fun e w' => e = .returned (.agg #[.int .i64 10, .int .i64 2, .int .i64 2, .int .i64 3]) ∧ Kept w w' := by
  go_enter Try.func25, Try.ntmps25
  go_wp2
  refine bodyPost_ret (v := .agg #[.int .i64 10, .int .i64 2, .int .i64 2, .int .i64 3]) (by simp [results, Try.results25, go_sem]) rfl ⟨rfl, (by repeat (first | exact Kept.refl _ | assumption | refine Kept.alloc ?_ _ | refine Kept.drew ?_ | refine Kept.drewN ?_ _ | refine Kept.setCell ?_ (by simp; try omega) _ | refine Kept.trans ?_ (by assumption)))⟩

theorem of_at (d l v s pv ps po x y : Int) (w : World) (h1 : ofN d l v s pv ps po = x) (h2 : ofE d l v s pv ps po = y) :
    Calls Try.prog 19 #[.agg #[.int .i64 d, .int .i64 l, .int .i64 v, .int .i64 s], .agg #[.int .i64 pv, .int .i64 ps, .int .i64 po]] w fun e w' =>
      e = .returned (.tuple #[.int .i64 x, .int .i64 y]) ∧ Kept w w' := by
  have := of_any d l v s pv ps po w
  rwa [h1, h2] at this
theorem tier_at (d l v s a x : Int) (w : World) (h : tierF d l v s a = x) :
    Calls Try.prog 15 #[.agg #[.int .i64 d, .int .i64 l, .int .i64 v, .int .i64 s], .int .i64 a] w fun e w' => e = .returned (.int .i64 x) ∧ Kept w w' := by
  have := tier_any d l v s a w
  rwa [h] at this
theorem segs_at (d l v s x : Int) (w : World) (h : segsF d l v s = x) :
    Calls Try.prog 12 #[.agg #[.int .i64 d, .int .i64 l, .int .i64 v, .int .i64 s]] w fun e w' => e = .returned (.int .i64 x) ∧ Kept w w' := by
  have := segs_any d l v s w
  rwa [h] at this

theorem awake_any (w : World) : Calls Try.prog 14 #[] w fun e w' => e = .returned (.bool true) ∧ Kept w w' := by
  go_enter Try.func14, Try.ntmps14
  go_wp2_with (first
    | (go_at_call 25; refine (some_any _).mono ?_; rintro e w2 ⟨rfl, hk2⟩)
    | (go_at_call 19; (with_reducible refine (of_at 10 2 2 3 (-1) 0 0 1 0 _ (by decide) (by decide)).mono ?_); rintro e w2 ⟨rfl, hk2⟩)
    | (go_at_call 19; (with_reducible refine (of_at 10 2 2 3 0 0 0 161 0 _ (by decide) (by decide)).mono ?_); rintro e w2 ⟨rfl, hk2⟩)
    | (go_at_call 19; (with_reducible refine (of_at 10 2 2 3 1 2 15 256 0 _ (by decide) (by decide)).mono ?_); rintro e w2 ⟨rfl, hk2⟩)
    | (go_at_call 15; (with_reducible refine (tier_at 10 2 2 3 128 0 _ (by decide)).mono ?_); rintro e w2 ⟨rfl, hk2⟩)
    | (go_at_call 15; (with_reducible refine (tier_at 10 2 2 3 129 1 _ (by decide)).mono ?_); rintro e w2 ⟨rfl, hk2⟩)
    | (go_at_call 15; (with_reducible refine (tier_at 10 2 2 3 161 2 _ (by decide)).mono ?_); rintro e w2 ⟨rfl, hk2⟩)
    | (go_at_call 12; (with_reducible refine (segs_at 10 2 2 3 16 _ (by decide)).mono ?_); rintro e w2 ⟨rfl, hk2⟩))
  go_ret
  exact ⟨rfl, (by repeat (first | exact Kept.refl _ | assumption | refine Kept.alloc ?_ _ | refine Kept.drew ?_ | refine Kept.drewN ?_ _ | refine Kept.setCell ?_ (by simp; try omega) _ | refine Kept.trans ?_ (by assumption)))⟩
end Go.Proofs.Ytlddfpecicgboaa
