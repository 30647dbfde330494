/- AddrWithin, AddrPlaces: the walks. -/
import Derived.Test.Ytlddfpecicgboaa3L2
namespace Go.Proofs.Ytlddfpecicgboaa
open Go.RowKit

set_option maxRecDepth 100000 in
set_option maxHeartbeats 1000000 in
theorem within_walk (d l v s a : Int) (wf : (Lit.int .u16 a).wf = true) (w : World) :
    Calls Try.prog 8 #[.agg #[.int .i64 d, .int .i64 l, .int .i64 v, .int .i64 s], .int .u16 a] w fun e w' => e = .returned (.bool true) ∧ Kept w w' := by
  obtain ⟨hb1, hb2⟩ := segsF_bd d l v s
  have ha0 : 0 ≤ a ∧ a ≤ 65535 := by
    simp only [Lit.wf, Bool.and_eq_true, decide_eq_true_eq] at wf
    exact wf
  obtain ⟨ha1, ha2⟩ := ha0
  clear wf
  rcases hm : mayB d l v s with _ | _
  · have hs : segsF d l v s = 0 := by simp [segsF, hm]
    have h2 : ∀ w, Calls Try.prog 13 #[.agg #[.int .i64 d, .int .i64 l, .int .i64 v, .int .i64 s]] w fun e w' => e = .returned (.int .i64 0) ∧ Kept w w' := by
      intro w; have := blocks_any d l v s w; rwa [hs] at this
    have H2 := hid h2
    have H5 := hid (fun w => rmay_f d l v s w hm)
    clear h2 hs hm hb1 hb2
    go_enter Try.func8, Try.ntmps8
    go_wp2_with (first
      | (go_at_call 13; refine (H2.out _).mono ?_; rintro e w2 ⟨rfl, hk2⟩; have hk : Kept (w.alloc (.cells #[.int .i64 d, .int .i64 l, .int .i64 v, .int .i64 s] 23)) w2 := (by repeat (first | exact Kept.refl _ | assumption | refine Kept.alloc ?_ _ | refine Kept.drew ?_ | refine Kept.drewN ?_ _ | refine Kept.setCell ?_ (by simp; try omega) _ | refine Kept.trans ?_ (by assumption))); have kk0 := hk.keeps (b := w.heap.size) (o := 0) (s := none) (v := .int .i64 d) (by simp [go_sem]); have kk1 := hk.keeps (b := w.heap.size) (o := 1) (s := none) (v := .int .i64 l) (by simp [go_sem]); have kk2 := hk.keeps (b := w.heap.size) (o := 2) (s := none) (v := .int .i64 v) (by simp [go_sem]); have kk3 := hk.keeps (b := w.heap.size) (o := 3) (s := none) (v := .int .i64 s) (by simp [go_sem]))
      | (go_at_call 9; refine (H5.out _).mono ?_; rintro e w2 ⟨rfl, hk2⟩; have hk : Kept (w.alloc (.cells #[.int .i64 d, .int .i64 l, .int .i64 v, .int .i64 s] 23)) w2 := (by repeat (first | exact Kept.refl _ | assumption | refine Kept.alloc ?_ _ | refine Kept.drew ?_ | refine Kept.drewN ?_ _ | refine Kept.setCell ?_ (by simp; try omega) _ | refine Kept.trans ?_ (by assumption))); have kk0 := hk.keeps (b := w.heap.size) (o := 0) (s := none) (v := .int .i64 d) (by simp [go_sem]); have kk1 := hk.keeps (b := w.heap.size) (o := 1) (s := none) (v := .int .i64 l) (by simp [go_sem]); have kk2 := hk.keeps (b := w.heap.size) (o := 2) (s := none) (v := .int .i64 v) (by simp [go_sem]); have kk3 := hk.keeps (b := w.heap.size) (o := 3) (s := none) (v := .int .i64 s) (by simp [go_sem]))
      | (go_at_call 14; refine (awake_any _).mono ?_; rintro e w2 ⟨rfl, hk2⟩))
    go_ret
    exact ⟨rfl, (by repeat (first | exact Kept.refl _ | assumption | refine Kept.alloc ?_ _ | refine Kept.drew ?_ | refine Kept.drewN ?_ _ | refine Kept.setCell ?_ (by simp; try omega) _ | refine Kept.trans ?_ (by assumption)))⟩
  · have hs : segsF d l v s = d + v * s := by simp [segsF, hm]
    obtain ⟨b1, b2, b3, b4, b5, b6, b7, b8⟩ := mayB_of hm
    have hn1 : 8 ≤ segsF d l v s := by have := mul_bd v s b3 b4 b5 b6; omega
    have hq0 : 0 ≤ a % (segsF d l v s * 16) := Int.emod_nonneg _ (by omega)
    have hq1 : a % (segsF d l v s * 16) < segsF d l v s * 16 := Int.emod_lt_of_pos _ (by omega)
    have hq2 : 1 + a % (segsF d l v s * 16) ≤ segsF d l v s * 16 := by omega
    have hq3 : 1 ≤ 1 + a % (segsF d l v s * 16) := by omega
    have H0 := hid (blocks_any d l v s)
    have H1 := hid (segment_at d l v s (1 + a % (segsF d l v s * 16)) ((a % (segsF d l v s * 16)) / 16) 0 (by simp [segN, hm, hq2, hq3]; omega) (by simp [segE, hm, hq2, hq3]))
    have hg : 0 ≤ (a % (segsF d l v s * 16)) / 16 ∧ (a % (segsF d l v s * 16)) / 16 ≤ segsF d l v s - 1 := by omega
    have H2 := hid (first_at d l v s ((a % (segsF d l v s * 16)) / 16) ((a % (segsF d l v s * 16)) / 16 * 16 + 1) 0 (by simp [firstN, hm, hg]) (by simp [firstE, hm, hg]))
    have hB : whB d l v s (1 + a % (segsF d l v s * 16)) = true := by simp [whB, hm, hq2, hq3]
    have H3 := hid (where_at d l v s (1 + a % (segsF d l v s * 16)) _ _ (a % (segsF d l v s * 16) % 16) 0 rfl rfl (by simp only [whO, hB, if_true]; omega) (by simp [segE, hm, hq2, hq3]))
    generalize whV d l v s _ = V at *
    generalize whS d l v s _ = S at *
    clear hs hm hB hg
    generalize segsF d l v s = n at *
    generalize hq : a % (n * 16) = q at *
    have hq5 : q ≤ 100000 := by omega
    have hq6 : 0 ≤ q / 16 := by omega
    have hq7 : q / 16 ≤ 10000 := by omega
    go_enter Try.func8, Try.ntmps8
    go_wp2_with (first
      | (go_at_call 13; refine (H0.out _).mono ?_; rintro e w2 ⟨rfl, hk2⟩; have hk : Kept (w.alloc (.cells #[.int .i64 d, .int .i64 l, .int .i64 v, .int .i64 s] 23)) w2 := (by repeat (first | exact Kept.refl _ | assumption | refine Kept.alloc ?_ _ | refine Kept.drew ?_ | refine Kept.drewN ?_ _ | refine Kept.setCell ?_ (by simp; try omega) _ | refine Kept.trans ?_ (by assumption))); have kk0 := hk.keeps (b := w.heap.size) (o := 0) (s := none) (v := .int .i64 d) (by simp [go_sem]); have kk1 := hk.keeps (b := w.heap.size) (o := 1) (s := none) (v := .int .i64 l) (by simp [go_sem]); have kk2 := hk.keeps (b := w.heap.size) (o := 2) (s := none) (v := .int .i64 v) (by simp [go_sem]); have kk3 := hk.keeps (b := w.heap.size) (o := 3) (s := none) (v := .int .i64 s) (by simp [go_sem]))
      | (go_at_call 16; refine (H1.out _).mono ?_; rintro e w2 ⟨rfl, hk2⟩; have hk : Kept (w.alloc (.cells #[.int .i64 d, .int .i64 l, .int .i64 v, .int .i64 s] 23)) w2 := (by repeat (first | exact Kept.refl _ | assumption | refine Kept.alloc ?_ _ | refine Kept.drew ?_ | refine Kept.drewN ?_ _ | refine Kept.setCell ?_ (by simp; try omega) _ | refine Kept.trans ?_ (by assumption))); have kk0 := hk.keeps (b := w.heap.size) (o := 0) (s := none) (v := .int .i64 d) (by simp [go_sem]); have kk1 := hk.keeps (b := w.heap.size) (o := 1) (s := none) (v := .int .i64 l) (by simp [go_sem]); have kk2 := hk.keeps (b := w.heap.size) (o := 2) (s := none) (v := .int .i64 v) (by simp [go_sem]); have kk3 := hk.keeps (b := w.heap.size) (o := 3) (s := none) (v := .int .i64 s) (by simp [go_sem]))
      | (go_at_call 17; refine (H2.out _).mono ?_; rintro e w2 ⟨rfl, hk2⟩; have hk : Kept (w.alloc (.cells #[.int .i64 d, .int .i64 l, .int .i64 v, .int .i64 s] 23)) w2 := (by repeat (first | exact Kept.refl _ | assumption | refine Kept.alloc ?_ _ | refine Kept.drew ?_ | refine Kept.drewN ?_ _ | refine Kept.setCell ?_ (by simp; try omega) _ | refine Kept.trans ?_ (by assumption))); have kk0 := hk.keeps (b := w.heap.size) (o := 0) (s := none) (v := .int .i64 d) (by simp [go_sem]); have kk1 := hk.keeps (b := w.heap.size) (o := 1) (s := none) (v := .int .i64 l) (by simp [go_sem]); have kk2 := hk.keeps (b := w.heap.size) (o := 2) (s := none) (v := .int .i64 v) (by simp [go_sem]); have kk3 := hk.keeps (b := w.heap.size) (o := 3) (s := none) (v := .int .i64 s) (by simp [go_sem]))
      | (go_at_call 20; refine (H3.out _).mono ?_; rintro e w2 ⟨rfl, hk2⟩; have hk : Kept (w.alloc (.cells #[.int .i64 d, .int .i64 l, .int .i64 v, .int .i64 s] 23)) w2 := (by repeat (first | exact Kept.refl _ | assumption | refine Kept.alloc ?_ _ | refine Kept.drew ?_ | refine Kept.drewN ?_ _ | refine Kept.setCell ?_ (by simp; try omega) _ | refine Kept.trans ?_ (by assumption))); have kk0 := hk.keeps (b := w.heap.size) (o := 0) (s := none) (v := .int .i64 d) (by simp [go_sem]); have kk1 := hk.keeps (b := w.heap.size) (o := 1) (s := none) (v := .int .i64 l) (by simp [go_sem]); have kk2 := hk.keeps (b := w.heap.size) (o := 2) (s := none) (v := .int .i64 v) (by simp [go_sem]); have kk3 := hk.keeps (b := w.heap.size) (o := 3) (s := none) (v := .int .i64 s) (by simp [go_sem]))
      | (go_at_call 14; refine (awake_any _).mono ?_; rintro e w2 ⟨rfl, hk2⟩))
    go_ret
    exact ⟨rfl, (by repeat (first | exact Kept.refl _ | assumption | refine Kept.alloc ?_ _ | refine Kept.drew ?_ | refine Kept.drewN ?_ _ | refine Kept.setCell ?_ (by simp; try omega) _ | refine Kept.trans ?_ (by assumption)))⟩
end Go.Proofs.Ytlddfpecicgboaa
