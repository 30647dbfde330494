/- The functions of package haymowref03, the second part: Where, Tier. -/
import Derived.Test.Ytlddfpecicgboaa3Ref
namespace Go.Proofs.Ytlddfpecicgboaa
open Go.RowKit

theorem where_math (d s a k n : Int) (hs : 1 ≤ s) (h0 : 0 ≤ n) (h1 : n < 16 * s) (hn : n = a - 1 - 16 * d - 16 * (k * s)) :
    ((a - 1) / 16 - d) / s = k ∧ ((a - 1) / 16 - d) % s = n / 16 ∧ (a - 1) % 16 = n % 16 := by
  have e : (a - 1) / 16 - d = n / 16 + k * s := by omega
  have hq0 : 0 ≤ n / 16 := by omega
  have hq1 : n / 16 < s := by omega
  refine ⟨?_, ?_, by omega⟩
  · rw [e, Int.add_mul_ediv_right _ _ (by omega), Int.ediv_eq_zero_of_lt hq0 hq1]; omega
  · rw [e, Int.add_mul_emod_self_right, Int.emod_eq_of_lt hq0 hq1]

theorem rwhere_no (d l v s a : Int) (w : World) (hm : mayB d l v s = true) (hB : ¬ (1 ≤ a ∧ a ≤ segsF d l v s * 16)) :
    Calls Try.prog 22 #[.agg #[.int .i64 d, .int .i64 l, .int .i64 v, .int .i64 s], .int .i64 a] w fun e w' =>
      e = .returned (.tuple #[.agg #[.int .i64 0, .int .i64 0, .int .i64 0], .bool false]) ∧ Kept w w' := by
  obtain ⟨hb1, hb2⟩ := segsF_bd d l v s
  have Hm := hid hm; clear hm
  by_cases ha : 1 ≤ a
  · have ha2 : segsF d l v s * 16 < a := by omega
    clear hB
    go_enter Try.func22, Try.ntmps22
    go_wp2_with (go_at_call 10; refine (rcount_any d l v s _ Hm.out).mono ?_; rintro e w1 ⟨rfl, hk⟩; have pk0 := hk.keeps (b := w.heap.size + 1) (o := 0) (s := none) (v := .int .i64 0) (by simp [go_sem]); have pk1 := hk.keeps (b := w.heap.size + 1) (o := 1) (s := none) (v := .int .i64 0) (by simp [go_sem]); have pk2 := hk.keeps (b := w.heap.size + 1) (o := 2) (s := none) (v := .int .i64 0) (by simp [go_sem]); have pf0 := hk.free (b := w.heap.size + 1) (o := 0) (s := none) (v := .int .i64 0) (by simp [go_sem]) (by simp [go_sem]); have pf1 := hk.free (b := w.heap.size + 1) (o := 1) (s := none) (v := .int .i64 0) (by simp [go_sem]) (by simp [go_sem]); have pf2 := hk.free (b := w.heap.size + 1) (o := 2) (s := none) (v := .int .i64 0) (by simp [go_sem]) (by simp [go_sem]))
    refine bodyPost_ret (v := .tuple #[.agg #[.int .i64 0, .int .i64 0, .int .i64 0], .bool false]) (by simp [results, Try.results22, go_sem, pk0, pk1, pk2]) rfl ⟨rfl, (by repeat (first | exact Kept.refl _ | assumption | refine Kept.alloc ?_ _ | refine Kept.drew ?_ | refine Kept.drewN ?_ _ | refine Kept.setCell ?_ (by simp; try omega) _ | refine Kept.trans ?_ (by assumption)))⟩
  · clear hB
    go_enter Try.func22, Try.ntmps22
    go_wp2
    refine bodyPost_ret (v := .tuple #[.agg #[.int .i64 0, .int .i64 0, .int .i64 0], .bool false]) (by simp [results, Try.results22, go_sem]) rfl ⟨rfl, (by repeat (first | exact Kept.refl _ | assumption | refine Kept.alloc ?_ _ | refine Kept.drew ?_ | refine Kept.drewN ?_ _ | refine Kept.setCell ?_ (by simp; try omega) _ | refine Kept.trans ?_ (by assumption)))⟩

set_option maxHeartbeats 1000000 in
theorem rwhere_yes (d l v s a : Int) (w : World) (hm : mayB d l v s = true) (ha1 : 1 ≤ a) (ha2 : a ≤ segsF d l v s * 16) :
    Calls Try.prog 22 #[.agg #[.int .i64 d, .int .i64 l, .int .i64 v, .int .i64 s], .int .i64 a] w fun e w' =>
      e = .returned (.tuple #[.agg #[.int .i64 (if (a - 1) / 16 < d then -1 else ((a - 1) / 16 - d) / s), .int .i64 (if (a - 1) / 16 < d then (a - 1) / 16 else ((a - 1) / 16 - d) % s), .int .i64 ((a - 1) % 16)], .bool true]) ∧ Kept w w' := by
  obtain ⟨hb1, hb2⟩ := segsF_bd d l v s
  obtain ⟨b1, b2, b3, b4, b5, b6, b7, b8⟩ := mayB_of hm
  have hvs : segsF d l v s = d + v * s := by simp [segsF, hm]
  have hvb := mul_bd v s b3 b4 b5 b6
  have ha3 : a ≤ (d + v * s) * 16 := by omega
  have Hm := hid hm; clear hm
  have Hvs := hid hvs; clear hvs
  by_cases hd : (a - 1) / 16 < d
  · rw [if_pos hd, if_pos hd]
    have hd2 : a - 1 < 16 * d := by omega
    go_enter Try.func22, Try.ntmps22
    go_wp2_with (go_at_call 10; refine (rcount_any d l v s _ Hm.out).mono ?_; rintro e w1 ⟨rfl, hk⟩; have kk0 := hk.keeps (b := w.heap.size) (o := 0) (s := none) (v := .int .i64 d) (by simp [go_sem]); have kk1 := hk.keeps (b := w.heap.size) (o := 1) (s := none) (v := .int .i64 l) (by simp [go_sem]); have kk2 := hk.keeps (b := w.heap.size) (o := 2) (s := none) (v := .int .i64 v) (by simp [go_sem]); have kk3 := hk.keeps (b := w.heap.size) (o := 3) (s := none) (v := .int .i64 s) (by simp [go_sem]); have pk0 := hk.keeps (b := w.heap.size + 1) (o := 0) (s := none) (v := .int .i64 0) (by simp [go_sem]); have pk1 := hk.keeps (b := w.heap.size + 1) (o := 1) (s := none) (v := .int .i64 0) (by simp [go_sem]); have pk2 := hk.keeps (b := w.heap.size + 1) (o := 2) (s := none) (v := .int .i64 0) (by simp [go_sem]); have pf0 := hk.free (b := w.heap.size + 1) (o := 0) (s := none) (v := .int .i64 0) (by simp [go_sem]) (by simp [go_sem]); have pf1 := hk.free (b := w.heap.size + 1) (o := 1) (s := none) (v := .int .i64 0) (by simp [go_sem]) (by simp [go_sem]); have pf2 := hk.free (b := w.heap.size + 1) (o := 2) (s := none) (v := .int .i64 0) (by simp [go_sem]) (by simp [go_sem]))
    refine bodyPost_ret (v := .tuple #[.agg #[.int .i64 (-1), .int .i64 ((a - 1) / 16), .int .i64 ((a - 1) % 16)], .bool true]) (by simp [results, Try.results22, go_sem, pk0, pk1, pk2]) rfl ⟨rfl, (by repeat (first | exact Kept.refl _ | assumption | refine Kept.alloc ?_ _ | refine Kept.drew ?_ | refine Kept.drewN ?_ _ | refine Kept.setCell ?_ (by simp; try omega) _ | refine Kept.trans ?_ (by assumption)))⟩
  · rw [if_neg hd, if_neg hd]
    have hd2 : 16 * d ≤ a - 1 := by omega
    go_enter Try.func22, Try.ntmps22
    go_wp2_with (go_at_call 10; refine (rcount_any d l v s _ Hm.out).mono ?_; rintro e w1 ⟨rfl, hk⟩; have kk0 := hk.keeps (b := w.heap.size) (o := 0) (s := none) (v := .int .i64 d) (by simp [go_sem]); have kk1 := hk.keeps (b := w.heap.size) (o := 1) (s := none) (v := .int .i64 l) (by simp [go_sem]); have kk2 := hk.keeps (b := w.heap.size) (o := 2) (s := none) (v := .int .i64 v) (by simp [go_sem]); have kk3 := hk.keeps (b := w.heap.size) (o := 3) (s := none) (v := .int .i64 s) (by simp [go_sem]); have pk0 := hk.keeps (b := w.heap.size + 1) (o := 0) (s := none) (v := .int .i64 0) (by simp [go_sem]); have pk1 := hk.keeps (b := w.heap.size + 1) (o := 1) (s := none) (v := .int .i64 0) (by simp [go_sem]); have pk2 := hk.keeps (b := w.heap.size + 1) (o := 2) (s := none) (v := .int .i64 0) (by simp [go_sem]); have pf0 := hk.free (b := w.heap.size + 1) (o := 0) (s := none) (v := .int .i64 0) (by simp [go_sem]) (by simp [go_sem]); have pf1 := hk.free (b := w.heap.size + 1) (o := 1) (s := none) (v := .int .i64 0) (by simp [go_sem]) (by simp [go_sem]); have pf2 := hk.free (b := w.heap.size + 1) (o := 2) (s := none) (v := .int .i64 0) (by simp [go_sem]) (by simp [go_sem]))
    go_loop [6, 7] (fun n i => ∃ k m : Int, 0 ≤ k ∧ k ≤ v ∧ i = .int .i64 k ∧ n = .int .i64 m ∧ 0 ≤ m ∧ m = a - 1 - 16 * d - 16 * (k * s)) (fun n _ => (intOf n).toNat)
    case atStart => exact ⟨0, a - 1 - 16 * d, by omega, by omega, rfl, by go_num, by omega, by omega⟩
    case round =>
      obtain ⟨k, m, hk0, hk1, rfl, rfl, hm0, hm1⟩ := hrel
      have hks := mul_bd k s hk0 (by omega) b5 b6
      have Hm1 := hid hm1
      by_cases hlt : m < 16 * s
      · have hmth := where_math d s a k m b5 hm0 hlt hm1
        clear hm1
        have hm2 : m ≤ 100000 := by omega
        have Hmth := hid hmth; clear hmth
        go_wp2
        refine bodyPost_ret (v := .tuple #[.agg #[.int .i64 (((a - 1) / 16 - d) / s), .int .i64 (((a - 1) / 16 - d) % s), .int .i64 ((a - 1) % 16)], .bool true]) (by rw [Hmth.out.1, Hmth.out.2.1, Hmth.out.2.2]; simp [results, Try.results22, go_sem, pk0, pk1, pk2]) rfl ⟨rfl, (by repeat (first | exact Kept.refl _ | assumption | refine Kept.alloc ?_ _ | refine Kept.drew ?_ | refine Kept.drewN ?_ _ | refine Kept.setCell ?_ (by simp; try omega) _ | refine Kept.trans ?_ (by assumption)))⟩
      · have hkv : k < v := by
          by_cases e : k = v
          · subst e; omega
          · omega
        have HE : Hid ((k + 1) * s = k * s + s) := by rw [Hid, Int.add_mul]; omega
        have hm2 : m ≤ 100000 := by omega
        clear hm1
        go_wp2
        go_round
        case rel => exact ⟨k + 1, m - 16 * s, by omega, by omega, rfl, rfl, by omega, by rw [HE.out]; have := Hm1.out; omega⟩
        case measure => simp [intOf]; omega

/-- ref.Where, of a geometry that may be -/
theorem rwhere_any (d l v s a : Int) (w : World) (hm : mayB d l v s = true) :
    Calls Try.prog 22 #[.agg #[.int .i64 d, .int .i64 l, .int .i64 v, .int .i64 s], .int .i64 a] w fun e w' =>
      e = .returned (.tuple #[.agg #[.int .i64 (whV d l v s a), .int .i64 (whS d l v s a), .int .i64 (whO d l v s a)], .bool (whB d l v s a)]) ∧ Kept w w' := by
  by_cases h : 1 ≤ a ∧ a ≤ segsF d l v s * 16
  · have hB : whB d l v s a = true := by simp [whB, hm, h]
    have := rwhere_yes d l v s a w hm h.1 h.2
    simpa [whV, whS, whO, hB] using this
  · have hB : whB d l v s a = false := by unfold whB; rw [hm]; simpa using h
    have := rwhere_no d l v s a w hm h
    simpa [whV, whS, whO, hB] using this

set_option maxHeartbeats 1000000 in
/-- ref.Tier, of a geometry that may be -/
theorem rtier_any (d l v s a : Int) (w : World) (hm : mayB d l v s = true) :
    Calls Try.prog 18 #[.agg #[.int .i64 d, .int .i64 l, .int .i64 v, .int .i64 s], .int .i64 a] w fun e w' =>
      e = .returned (.int .i64 (tierF d l v s a)) ∧ Kept w w' := by
  obtain ⟨b1, b2, b3, b4, b5, b6, b7, b8⟩ := mayB_of hm
  have hb := segsF_bd d l v s
  by_cases h : 1 ≤ a ∧ a ≤ segsF d l v s * 16
  · have ht : tierF d l v s a = if (a - 1) / 16 < d - l then 0 else if (a - 1) / 16 < d then 1 else 2 := by simp [tierF, hm, h]
    have hw := fun w => rwhere_yes d l v s a w hm h.1 h.2
    rw [ht]; clear ht
    have hq0 : 0 ≤ (a - 1) / 16 := by omega
    have hq1 : (a - 1) / 16 < 3000 := by omega
    generalize (a - 1) / 16 = q at *
    by_cases c1 : q < d
    · simp only [if_pos c1] at hw ⊢
      have Hw := hid hw; clear hw hm h
      by_cases c2 : q < d - l
      · rw [if_pos c2]
        go_enter Try.func18, Try.ntmps18
        go_wp2_with (go_at_call 22; refine (Hw.out _).mono ?_; rintro e w1 ⟨rfl, hk⟩; have kk0 := hk.keeps (b := w.heap.size) (o := 0) (s := none) (v := .int .i64 d) (by simp [go_sem]); have kk1 := hk.keeps (b := w.heap.size) (o := 1) (s := none) (v := .int .i64 l) (by simp [go_sem]); have kk2 := hk.keeps (b := w.heap.size) (o := 2) (s := none) (v := .int .i64 v) (by simp [go_sem]); have kk3 := hk.keeps (b := w.heap.size) (o := 3) (s := none) (v := .int .i64 s) (by simp [go_sem]))
        go_ret
        exact ⟨rfl, (by repeat (first | exact Kept.refl _ | assumption | refine Kept.alloc ?_ _ | refine Kept.drew ?_ | refine Kept.drewN ?_ _ | refine Kept.setCell ?_ (by simp; try omega) _ | refine Kept.trans ?_ (by assumption)))⟩
      · rw [if_neg c2]
        go_enter Try.func18, Try.ntmps18
        go_wp2_with (go_at_call 22; refine (Hw.out _).mono ?_; rintro e w1 ⟨rfl, hk⟩; have kk0 := hk.keeps (b := w.heap.size) (o := 0) (s := none) (v := .int .i64 d) (by simp [go_sem]); have kk1 := hk.keeps (b := w.heap.size) (o := 1) (s := none) (v := .int .i64 l) (by simp [go_sem]); have kk2 := hk.keeps (b := w.heap.size) (o := 2) (s := none) (v := .int .i64 v) (by simp [go_sem]); have kk3 := hk.keeps (b := w.heap.size) (o := 3) (s := none) (v := .int .i64 s) (by simp [go_sem]))
        go_ret
        exact ⟨rfl, (by repeat (first | exact Kept.refl _ | assumption | refine Kept.alloc ?_ _ | refine Kept.drew ?_ | refine Kept.drewN ?_ _ | refine Kept.setCell ?_ (by simp; try omega) _ | refine Kept.trans ?_ (by assumption)))⟩
    · have c3 : ¬ q < d - l := by omega
      simp only [if_neg c1, if_neg c3] at hw ⊢
      have hr0 : 0 ≤ (q - d) / s := Int.ediv_nonneg (by omega) (by omega)
      have Hw := hid hw; clear hw hm h
      generalize (q - d) / s = V at *
      generalize (q - d) % s = S at *
      go_enter Try.func18, Try.ntmps18
      go_wp2_with (go_at_call 22; refine (Hw.out _).mono ?_; rintro e w1 ⟨rfl, hk⟩; have kk0 := hk.keeps (b := w.heap.size) (o := 0) (s := none) (v := .int .i64 d) (by simp [go_sem]); have kk1 := hk.keeps (b := w.heap.size) (o := 1) (s := none) (v := .int .i64 l) (by simp [go_sem]); have kk2 := hk.keeps (b := w.heap.size) (o := 2) (s := none) (v := .int .i64 v) (by simp [go_sem]); have kk3 := hk.keeps (b := w.heap.size) (o := 3) (s := none) (v := .int .i64 s) (by simp [go_sem]))
      go_ret
      exact ⟨rfl, (by repeat (first | exact Kept.refl _ | assumption | refine Kept.alloc ?_ _ | refine Kept.drew ?_ | refine Kept.drewN ?_ _ | refine Kept.setCell ?_ (by simp; try omega) _ | refine Kept.trans ?_ (by assumption)))⟩
  · have ht : tierF d l v s a = -1 := by unfold tierF; rw [hm, if_neg]; simpa using h
    have hw := fun w => rwhere_no d l v s a w hm h
    rw [ht]; have Hw := hid hw; clear hw hm h ht
    go_enter Try.func18, Try.ntmps18
    go_wp2_with (go_at_call 22; refine (Hw.out _).mono ?_; rintro e w1 ⟨rfl, hk⟩)
    go_ret
    exact ⟨rfl, (by repeat (first | exact Kept.refl _ | assumption | refine Kept.alloc ?_ _ | refine Kept.drew ?_ | refine Kept.drewN ?_ _ | refine Kept.setCell ?_ (by simp; try omega) _ | refine Kept.trans ?_ (by assumption)))⟩
end Go.Proofs.Ytlddfpecicgboaa
