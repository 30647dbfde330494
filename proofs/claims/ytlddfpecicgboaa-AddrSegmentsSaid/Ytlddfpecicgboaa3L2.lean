/- AddrSegments: the walk. -/
import Derived.Test.Ytlddfpecicgboaa3L1
namespace Go.Proofs.Ytlddfpecicgboaa
open Go.RowKit

theorem segment_at (d l v s a N E : Int) (h1 : segN d l v s a = N) (h2 : segE d l v s a = E) (w : World) :
    Calls Try.prog 16 #[.agg #[.int .i64 d, .int .i64 l, .int .i64 v, .int .i64 s], .int .i64 a] w fun e w' => e = .returned (.tuple #[.int .i64 N, .int .i64 E]) ∧ Kept w w' := by
  have := segment_any d l v s a w; rwa [h1, h2] at this
theorem first_at (d l v s a N E : Int) (h1 : firstN d l v s a = N) (h2 : firstE d l v s a = E) (w : World) :
    Calls Try.prog 17 #[.agg #[.int .i64 d, .int .i64 l, .int .i64 v, .int .i64 s], .int .i64 a] w fun e w' => e = .returned (.tuple #[.int .i64 N, .int .i64 E]) ∧ Kept w w' := by
  have := first_any d l v s a w; rwa [h1, h2] at this
theorem where_at (d l v s a V S O E : Int) (h1 : whV d l v s a = V) (h2 : whS d l v s a = S) (h3 : whO d l v s a = O) (h4 : segE d l v s a = E) (w : World) :
    Calls Try.prog 20 #[.agg #[.int .i64 d, .int .i64 l, .int .i64 v, .int .i64 s], .int .i64 a] w fun e w' => e = .returned (.tuple #[.agg #[.int .i64 V, .int .i64 S, .int .i64 O], .int .i64 E]) ∧ Kept w w' := by
  have := where_any d l v s a w; rwa [h1, h2, h3, h4] at this

/-- what AddrSegments asks of its four numbers -/
def SegFits (n a g N E M F : Int) : Prop :=
  ((a < 1 ∨ 16 * n < a) ∧ N = 0 ∧ E = 4 ∨ (1 ≤ a ∧ a ≤ 16 * n) ∧ N = (a - 1) / 16 ∧ E = 0) ∧ ((g < 0 ∨ n ≤ g) ∧ M = 0 ∧ F = 4 ∨ (0 ≤ g ∧ g < n) ∧ M = 16 * g + 1 ∧ F = 0)

set_option maxRecDepth 100000 in
set_option maxHeartbeats 1000000 in
theorem segments_core (d l v s a g n N E M F t : Int) (w : World) (hn0 : 0 ≤ n) (hn1 : n ≤ 2304) (hf : SegFits n a g N E M F)
    (H1 : Hid (∀ w, Calls Try.prog 16 #[.agg #[.int .i64 d, .int .i64 l, .int .i64 v, .int .i64 s], .int .i64 a] w fun e w' => e = .returned (.tuple #[.int .i64 N, .int .i64 E]) ∧ Kept w w'))
    (H2 : Hid (∀ w, Calls Try.prog 17 #[.agg #[.int .i64 d, .int .i64 l, .int .i64 v, .int .i64 s], .int .i64 g] w fun e w' => e = .returned (.tuple #[.int .i64 M, .int .i64 F]) ∧ Kept w w'))
    (H3 : Hid (∀ w, Calls Try.prog 15 #[.agg #[.int .i64 d, .int .i64 l, .int .i64 v, .int .i64 s], .int .i64 a] w fun e w' => e = .returned (.int .i64 t) ∧ Kept w w'))
    (H4 : Hid (∀ w, Calls Try.prog 18 #[.agg #[.int .i64 d, .int .i64 l, .int .i64 v, .int .i64 s], .int .i64 a] w fun e w' => e = .returned (.int .i64 t) ∧ Kept w w'))
    (H5 : Hid (∀ w, Calls Try.prog 9 #[.agg #[.int .i64 d, .int .i64 l, .int .i64 v, .int .i64 s]] w fun e w' => e = .returned (.bool true) ∧ Kept w w'))
    (H6 : Hid (∀ w, Calls Try.prog 10 #[.agg #[.int .i64 d, .int .i64 l, .int .i64 v, .int .i64 s]] w fun e w' => e = .returned (.int .i64 n) ∧ Kept w w')) :
    Calls Try.prog 5 #[.agg #[.int .i64 d, .int .i64 l, .int .i64 v, .int .i64 s], .int .i64 a, .int .i64 g] w fun e w' => e = .returned (.bool true) ∧ Kept w w' := by
  obtain ⟨hf1, hf2⟩ := hf
  rcases hf1 with ⟨ha | ha, rfl, rfl⟩ | ⟨⟨ha, ha2⟩, rfl, rfl⟩ <;> rcases hf2 with ⟨hg | hg, rfl, rfl⟩ | ⟨⟨hg, hg2⟩, rfl, rfl⟩
  all_goals
    go_enter Try.func5, Try.ntmps5
    go_wp2_with (first
      | (go_at_call 16; refine (H1.out _).mono ?_; rintro e w2 ⟨rfl, hk2⟩; have hk : Kept (w.alloc (.cells #[.int .i64 d, .int .i64 l, .int .i64 v, .int .i64 s] 23)) w2 := (by repeat (first | exact Kept.refl _ | assumption | refine Kept.alloc ?_ _ | refine Kept.drew ?_ | refine Kept.drewN ?_ _ | refine Kept.setCell ?_ (by simp; try omega) _ | refine Kept.trans ?_ (by assumption))); have kk0 := hk.keeps (b := w.heap.size) (o := 0) (s := none) (v := .int .i64 d) (by simp [go_sem]); have kk1 := hk.keeps (b := w.heap.size) (o := 1) (s := none) (v := .int .i64 l) (by simp [go_sem]); have kk2 := hk.keeps (b := w.heap.size) (o := 2) (s := none) (v := .int .i64 v) (by simp [go_sem]); have kk3 := hk.keeps (b := w.heap.size) (o := 3) (s := none) (v := .int .i64 s) (by simp [go_sem]))
      | (go_at_call 17; refine (H2.out _).mono ?_; rintro e w2 ⟨rfl, hk2⟩; have hk : Kept (w.alloc (.cells #[.int .i64 d, .int .i64 l, .int .i64 v, .int .i64 s] 23)) w2 := (by repeat (first | exact Kept.refl _ | assumption | refine Kept.alloc ?_ _ | refine Kept.drew ?_ | refine Kept.drewN ?_ _ | refine Kept.setCell ?_ (by simp; try omega) _ | refine Kept.trans ?_ (by assumption))); have kk0 := hk.keeps (b := w.heap.size) (o := 0) (s := none) (v := .int .i64 d) (by simp [go_sem]); have kk1 := hk.keeps (b := w.heap.size) (o := 1) (s := none) (v := .int .i64 l) (by simp [go_sem]); have kk2 := hk.keeps (b := w.heap.size) (o := 2) (s := none) (v := .int .i64 v) (by simp [go_sem]); have kk3 := hk.keeps (b := w.heap.size) (o := 3) (s := none) (v := .int .i64 s) (by simp [go_sem]))
      | (go_at_call 15; refine (H3.out _).mono ?_; rintro e w2 ⟨rfl, hk2⟩; have hk : Kept (w.alloc (.cells #[.int .i64 d, .int .i64 l, .int .i64 v, .int .i64 s] 23)) w2 := (by repeat (first | exact Kept.refl _ | assumption | refine Kept.alloc ?_ _ | refine Kept.drew ?_ | refine Kept.drewN ?_ _ | refine Kept.setCell ?_ (by simp; try omega) _ | refine Kept.trans ?_ (by assumption))); have kk0 := hk.keeps (b := w.heap.size) (o := 0) (s := none) (v := .int .i64 d) (by simp [go_sem]); have kk1 := hk.keeps (b := w.heap.size) (o := 1) (s := none) (v := .int .i64 l) (by simp [go_sem]); have kk2 := hk.keeps (b := w.heap.size) (o := 2) (s := none) (v := .int .i64 v) (by simp [go_sem]); have kk3 := hk.keeps (b := w.heap.size) (o := 3) (s := none) (v := .int .i64 s) (by simp [go_sem]))
      | (go_at_call 9; refine (H5.out _).mono ?_; rintro e w2 ⟨rfl, hk2⟩; have hk : Kept (w.alloc (.cells #[.int .i64 d, .int .i64 l, .int .i64 v, .int .i64 s] 23)) w2 := (by repeat (first | exact Kept.refl _ | assumption | refine Kept.alloc ?_ _ | refine Kept.drew ?_ | refine Kept.drewN ?_ _ | refine Kept.setCell ?_ (by simp; try omega) _ | refine Kept.trans ?_ (by assumption))); have kk0 := hk.keeps (b := w.heap.size) (o := 0) (s := none) (v := .int .i64 d) (by simp [go_sem]); have kk1 := hk.keeps (b := w.heap.size) (o := 1) (s := none) (v := .int .i64 l) (by simp [go_sem]); have kk2 := hk.keeps (b := w.heap.size) (o := 2) (s := none) (v := .int .i64 v) (by simp [go_sem]); have kk3 := hk.keeps (b := w.heap.size) (o := 3) (s := none) (v := .int .i64 s) (by simp [go_sem]))
      | (go_at_call 10; refine (H6.out _).mono ?_; rintro e w2 ⟨rfl, hk2⟩; have hk : Kept (w.alloc (.cells #[.int .i64 d, .int .i64 l, .int .i64 v, .int .i64 s] 23)) w2 := (by repeat (first | exact Kept.refl _ | assumption | refine Kept.alloc ?_ _ | refine Kept.drew ?_ | refine Kept.drewN ?_ _ | refine Kept.setCell ?_ (by simp; try omega) _ | refine Kept.trans ?_ (by assumption))); have kk0 := hk.keeps (b := w.heap.size) (o := 0) (s := none) (v := .int .i64 d) (by simp [go_sem]); have kk1 := hk.keeps (b := w.heap.size) (o := 1) (s := none) (v := .int .i64 l) (by simp [go_sem]); have kk2 := hk.keeps (b := w.heap.size) (o := 2) (s := none) (v := .int .i64 v) (by simp [go_sem]); have kk3 := hk.keeps (b := w.heap.size) (o := 3) (s := none) (v := .int .i64 s) (by simp [go_sem]))
      | (go_at_call 18; refine (H4.out _).mono ?_; rintro e w2 ⟨rfl, hk2⟩; have hk : Kept (w.alloc (.cells #[.int .i64 d, .int .i64 l, .int .i64 v, .int .i64 s] 23)) w2 := (by repeat (first | exact Kept.refl _ | assumption | refine Kept.alloc ?_ _ | refine Kept.drew ?_ | refine Kept.drewN ?_ _ | refine Kept.setCell ?_ (by simp; try omega) _ | refine Kept.trans ?_ (by assumption))); have kk0 := hk.keeps (b := w.heap.size) (o := 0) (s := none) (v := .int .i64 d) (by simp [go_sem]); have kk1 := hk.keeps (b := w.heap.size) (o := 1) (s := none) (v := .int .i64 l) (by simp [go_sem]); have kk2 := hk.keeps (b := w.heap.size) (o := 2) (s := none) (v := .int .i64 v) (by simp [go_sem]); have kk3 := hk.keeps (b := w.heap.size) (o := 3) (s := none) (v := .int .i64 s) (by simp [go_sem]))
      | (go_at_call 14; refine (awake_any _).mono ?_; rintro e w2 ⟨rfl, hk2⟩))
    go_ret
    exact ⟨rfl, (by repeat (first | exact Kept.refl _ | assumption | refine Kept.alloc ?_ _ | refine Kept.drew ?_ | refine Kept.drewN ?_ _ | refine Kept.setCell ?_ (by simp; try omega) _ | refine Kept.trans ?_ (by assumption)))⟩

set_option maxRecDepth 100000 in
theorem segments_walk (d l v s a g : Int) (w : World) :
    Calls Try.prog 5 #[.agg #[.int .i64 d, .int .i64 l, .int .i64 v, .int .i64 s], .int .i64 a, .int .i64 g] w fun e w' => e = .returned (.bool true) ∧ Kept w w' := by
  obtain ⟨hb1, hb2⟩ := segsF_bd d l v s
  rcases hm : mayB d l v s with _ | _
  · have H1 := hid (segment_at d l v s a 0 1 (by simp [segN, hm]) (by simp [segE, hm]))
    have H2 := hid (first_at d l v s g 0 1 (by simp [firstN, hm]) (by simp [firstE, hm]))
    have H3 := hid (fun w => tier_at d l v s a (-1) w (by simp [tierF, hm]))
    have H5 := hid (fun w => rmay_f d l v s w hm)
    clear hm
    go_enter Try.func5, Try.ntmps5
    go_wp2_with (first
      | (go_at_call 16; refine (H1.out _).mono ?_; rintro e w2 ⟨rfl, hk2⟩; have hk : Kept (w.alloc (.cells #[.int .i64 d, .int .i64 l, .int .i64 v, .int .i64 s] 23)) w2 := (by repeat (first | exact Kept.refl _ | assumption | refine Kept.alloc ?_ _ | refine Kept.drew ?_ | refine Kept.drewN ?_ _ | refine Kept.setCell ?_ (by simp; try omega) _ | refine Kept.trans ?_ (by assumption))); have kk0 := hk.keeps (b := w.heap.size) (o := 0) (s := none) (v := .int .i64 d) (by simp [go_sem]); have kk1 := hk.keeps (b := w.heap.size) (o := 1) (s := none) (v := .int .i64 l) (by simp [go_sem]); have kk2 := hk.keeps (b := w.heap.size) (o := 2) (s := none) (v := .int .i64 v) (by simp [go_sem]); have kk3 := hk.keeps (b := w.heap.size) (o := 3) (s := none) (v := .int .i64 s) (by simp [go_sem]))
      | (go_at_call 17; refine (H2.out _).mono ?_; rintro e w2 ⟨rfl, hk2⟩; have hk : Kept (w.alloc (.cells #[.int .i64 d, .int .i64 l, .int .i64 v, .int .i64 s] 23)) w2 := (by repeat (first | exact Kept.refl _ | assumption | refine Kept.alloc ?_ _ | refine Kept.drew ?_ | refine Kept.drewN ?_ _ | refine Kept.setCell ?_ (by simp; try omega) _ | refine Kept.trans ?_ (by assumption))); have kk0 := hk.keeps (b := w.heap.size) (o := 0) (s := none) (v := .int .i64 d) (by simp [go_sem]); have kk1 := hk.keeps (b := w.heap.size) (o := 1) (s := none) (v := .int .i64 l) (by simp [go_sem]); have kk2 := hk.keeps (b := w.heap.size) (o := 2) (s := none) (v := .int .i64 v) (by simp [go_sem]); have kk3 := hk.keeps (b := w.heap.size) (o := 3) (s := none) (v := .int .i64 s) (by simp [go_sem]))
      | (go_at_call 15; refine (H3.out _).mono ?_; rintro e w2 ⟨rfl, hk2⟩; have hk : Kept (w.alloc (.cells #[.int .i64 d, .int .i64 l, .int .i64 v, .int .i64 s] 23)) w2 := (by repeat (first | exact Kept.refl _ | assumption | refine Kept.alloc ?_ _ | refine Kept.drew ?_ | refine Kept.drewN ?_ _ | refine Kept.setCell ?_ (by simp; try omega) _ | refine Kept.trans ?_ (by assumption))); have kk0 := hk.keeps (b := w.heap.size) (o := 0) (s := none) (v := .int .i64 d) (by simp [go_sem]); have kk1 := hk.keeps (b := w.heap.size) (o := 1) (s := none) (v := .int .i64 l) (by simp [go_sem]); have kk2 := hk.keeps (b := w.heap.size) (o := 2) (s := none) (v := .int .i64 v) (by simp [go_sem]); have kk3 := hk.keeps (b := w.heap.size) (o := 3) (s := none) (v := .int .i64 s) (by simp [go_sem]))
      | (go_at_call 9; refine (H5.out _).mono ?_; rintro e w2 ⟨rfl, hk2⟩; have hk : Kept (w.alloc (.cells #[.int .i64 d, .int .i64 l, .int .i64 v, .int .i64 s] 23)) w2 := (by repeat (first | exact Kept.refl _ | assumption | refine Kept.alloc ?_ _ | refine Kept.drew ?_ | refine Kept.drewN ?_ _ | refine Kept.setCell ?_ (by simp; try omega) _ | refine Kept.trans ?_ (by assumption))); have kk0 := hk.keeps (b := w.heap.size) (o := 0) (s := none) (v := .int .i64 d) (by simp [go_sem]); have kk1 := hk.keeps (b := w.heap.size) (o := 1) (s := none) (v := .int .i64 l) (by simp [go_sem]); have kk2 := hk.keeps (b := w.heap.size) (o := 2) (s := none) (v := .int .i64 v) (by simp [go_sem]); have kk3 := hk.keeps (b := w.heap.size) (o := 3) (s := none) (v := .int .i64 s) (by simp [go_sem]))
      | (go_at_call 14; refine (awake_any _).mono ?_; rintro e w2 ⟨rfl, hk2⟩))
    go_ret
    exact ⟨rfl, (by repeat (first | exact Kept.refl _ | assumption | refine Kept.alloc ?_ _ | refine Kept.drew ?_ | refine Kept.drewN ?_ _ | refine Kept.setCell ?_ (by simp; try omega) _ | refine Kept.trans ?_ (by assumption)))⟩
  · refine segments_core d l v s a g (segsF d l v s) (segN d l v s a) (segE d l v s a) (firstN d l v s g) (firstE d l v s g) (tierF d l v s a) w hb1 hb2 ⟨?_, ?_⟩
      (hid (segment_at d l v s a _ _ rfl rfl)) (hid (first_at d l v s g _ _ rfl rfl)) (hid (tier_any d l v s a)) (hid fun w => rtier_any d l v s a w hm) (hid fun w => rmay_t d l v s w hm) (hid fun w => rcount_any d l v s w hm)
    · by_cases ha : 1 ≤ a ∧ a ≤ segsF d l v s * 16
      · refine .inr ⟨by omega, by simp [segN, hm, ha], by simp [segE, hm, ha]⟩
      · refine .inl ⟨by omega, ?_, by simp [segE, hm, ha]⟩
        unfold segN; rw [hm, if_neg]; simpa using ha
    · by_cases hg : 0 ≤ g ∧ g ≤ segsF d l v s - 1
      · refine .inr ⟨by omega, ?_, by simp [firstE, hm, hg]⟩
        have : firstN d l v s g = g * 16 + 1 := by simp [firstN, hm, hg]
        omega
      · refine .inl ⟨by omega, ?_, by simp [firstE, hm, hg]⟩
        unfold firstN; rw [hm, if_neg]; simpa using hg
end Go.Proofs.Ytlddfpecicgboaa
