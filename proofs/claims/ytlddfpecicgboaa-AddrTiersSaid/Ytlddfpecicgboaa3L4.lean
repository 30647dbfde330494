/- AddrPlaces: the walk. -/
import Derived.Test.Ytlddfpecicgboaa3L3
namespace Go.Proofs.Ytlddfpecicgboaa
open Go.RowKit

set_option maxRecDepth 100000 in
set_option maxHeartbeats 1000000 in
theorem places_core (d l v s pv ps po a x E V S O F : Int) (is : Bool) (w : World)
    (hx : 0 < x ∧ E = 0 ∨ x = 0 ∧ E = 4) (hi : is = true ∧ F = 0 ∨ is = false ∧ F = 4)
    (H1 : Hid (∀ w, Calls Try.prog 19 #[.agg #[.int .i64 d, .int .i64 l, .int .i64 v, .int .i64 s], .agg #[.int .i64 pv, .int .i64 ps, .int .i64 po]] w fun e w' => e = .returned (.tuple #[.int .i64 x, .int .i64 E]) ∧ Kept w w'))
    (H2 : Hid (∀ w, Calls Try.prog 20 #[.agg #[.int .i64 d, .int .i64 l, .int .i64 v, .int .i64 s], .int .i64 a] w fun e w' => e = .returned (.tuple #[.agg #[.int .i64 V, .int .i64 S, .int .i64 O], .int .i64 F]) ∧ Kept w w'))
    (H3 : Hid (∀ w, Calls Try.prog 9 #[.agg #[.int .i64 d, .int .i64 l, .int .i64 v, .int .i64 s]] w fun e w' => e = .returned (.bool true) ∧ Kept w w'))
    (H4 : Hid (∀ w, Calls Try.prog 21 #[.agg #[.int .i64 d, .int .i64 l, .int .i64 v, .int .i64 s], .agg #[.int .i64 pv, .int .i64 ps, .int .i64 po]] w fun e w' => e = .returned (.int .i64 x) ∧ Kept w w'))
    (H5 : Hid (∀ w, Calls Try.prog 22 #[.agg #[.int .i64 d, .int .i64 l, .int .i64 v, .int .i64 s], .int .i64 a] w fun e w' => e = .returned (.tuple #[.agg #[.int .i64 V, .int .i64 S, .int .i64 O], .bool is]) ∧ Kept w w')) :
    Calls Try.prog 6 #[.agg #[.int .i64 d, .int .i64 l, .int .i64 v, .int .i64 s], .agg #[.int .i64 pv, .int .i64 ps, .int .i64 po], .int .i64 a] w fun e w' => e = .returned (.bool true) ∧ Kept w w' := by
  rcases hx with ⟨hx, rfl⟩ | ⟨rfl, rfl⟩ <;> rcases hi with ⟨rfl, rfl⟩ | ⟨rfl, rfl⟩
  all_goals
    go_enter Try.func6, Try.ntmps6
    go_wp2_with (first
      | (go_at_call 19; refine (H1.out _).mono ?_; rintro e wa ⟨rfl, hwa⟩; have hk : Kept ((w.alloc (.cells #[.int .i64 d, .int .i64 l, .int .i64 v, .int .i64 s] 23)).alloc (.cells #[.int .i64 pv, .int .i64 ps, .int .i64 po] 34)) wa := (by repeat (first | exact Kept.refl _ | assumption | refine Kept.alloc ?_ _ | refine Kept.drew ?_ | refine Kept.drewN ?_ _ | refine Kept.setCell ?_ (by simp; try omega) _ | refine Kept.trans ?_ (by assumption))); have kk0 := hk.keeps (b := w.heap.size) (o := 0) (s := none) (v := .int .i64 d) (by simp [go_sem]); have kk1 := hk.keeps (b := w.heap.size) (o := 1) (s := none) (v := .int .i64 l) (by simp [go_sem]); have kk2 := hk.keeps (b := w.heap.size) (o := 2) (s := none) (v := .int .i64 v) (by simp [go_sem]); have kk3 := hk.keeps (b := w.heap.size) (o := 3) (s := none) (v := .int .i64 s) (by simp [go_sem]); have pk0 := hk.keeps (b := w.heap.size + 1) (o := 0) (s := none) (v := .int .i64 pv) (by simp [go_sem]); have pk1 := hk.keeps (b := w.heap.size + 1) (o := 1) (s := none) (v := .int .i64 ps) (by simp [go_sem]); have pk2 := hk.keeps (b := w.heap.size + 1) (o := 2) (s := none) (v := .int .i64 po) (by simp [go_sem]))
      | (go_at_call 20; refine (H2.out _).mono ?_; rintro e wb ⟨rfl, hwb⟩; have hk : Kept ((w.alloc (.cells #[.int .i64 d, .int .i64 l, .int .i64 v, .int .i64 s] 23)).alloc (.cells #[.int .i64 pv, .int .i64 ps, .int .i64 po] 34)) wb := (by repeat (first | exact Kept.refl _ | assumption | refine Kept.alloc ?_ _ | refine Kept.drew ?_ | refine Kept.drewN ?_ _ | refine Kept.setCell ?_ (by simp; try omega) _ | refine Kept.trans ?_ (by assumption))); have kk0 := hk.keeps (b := w.heap.size) (o := 0) (s := none) (v := .int .i64 d) (by simp [go_sem]); have kk1 := hk.keeps (b := w.heap.size) (o := 1) (s := none) (v := .int .i64 l) (by simp [go_sem]); have kk2 := hk.keeps (b := w.heap.size) (o := 2) (s := none) (v := .int .i64 v) (by simp [go_sem]); have kk3 := hk.keeps (b := w.heap.size) (o := 3) (s := none) (v := .int .i64 s) (by simp [go_sem]); have pk0 := hk.keeps (b := w.heap.size + 1) (o := 0) (s := none) (v := .int .i64 pv) (by simp [go_sem]); have pk1 := hk.keeps (b := w.heap.size + 1) (o := 1) (s := none) (v := .int .i64 ps) (by simp [go_sem]); have pk2 := hk.keeps (b := w.heap.size + 1) (o := 2) (s := none) (v := .int .i64 po) (by simp [go_sem]))
      | (go_at_call 9; refine (H3.out _).mono ?_; rintro e wc ⟨rfl, hwc⟩; have hk : Kept ((w.alloc (.cells #[.int .i64 d, .int .i64 l, .int .i64 v, .int .i64 s] 23)).alloc (.cells #[.int .i64 pv, .int .i64 ps, .int .i64 po] 34)) wc := (by repeat (first | exact Kept.refl _ | assumption | refine Kept.alloc ?_ _ | refine Kept.drew ?_ | refine Kept.drewN ?_ _ | refine Kept.setCell ?_ (by simp; try omega) _ | refine Kept.trans ?_ (by assumption))); have kk0 := hk.keeps (b := w.heap.size) (o := 0) (s := none) (v := .int .i64 d) (by simp [go_sem]); have kk1 := hk.keeps (b := w.heap.size) (o := 1) (s := none) (v := .int .i64 l) (by simp [go_sem]); have kk2 := hk.keeps (b := w.heap.size) (o := 2) (s := none) (v := .int .i64 v) (by simp [go_sem]); have kk3 := hk.keeps (b := w.heap.size) (o := 3) (s := none) (v := .int .i64 s) (by simp [go_sem]); have pk0 := hk.keeps (b := w.heap.size + 1) (o := 0) (s := none) (v := .int .i64 pv) (by simp [go_sem]); have pk1 := hk.keeps (b := w.heap.size + 1) (o := 1) (s := none) (v := .int .i64 ps) (by simp [go_sem]); have pk2 := hk.keeps (b := w.heap.size + 1) (o := 2) (s := none) (v := .int .i64 po) (by simp [go_sem]); have yk0 := hwc.keeps (b := wb.heap.size) (o := 0) (s := none) (v := .int .i64 V) (by simp [go_sem]); have yk1 := hwc.keeps (b := wb.heap.size) (o := 1) (s := none) (v := .int .i64 S) (by simp [go_sem]); have yk2 := hwc.keeps (b := wb.heap.size) (o := 2) (s := none) (v := .int .i64 O) (by simp [go_sem]))
      | (go_at_call 21; refine (H4.out _).mono ?_; rintro e wd ⟨rfl, hwd⟩; have hk : Kept ((w.alloc (.cells #[.int .i64 d, .int .i64 l, .int .i64 v, .int .i64 s] 23)).alloc (.cells #[.int .i64 pv, .int .i64 ps, .int .i64 po] 34)) wd := (by repeat (first | exact Kept.refl _ | assumption | refine Kept.alloc ?_ _ | refine Kept.drew ?_ | refine Kept.drewN ?_ _ | refine Kept.setCell ?_ (by simp; try omega) _ | refine Kept.trans ?_ (by assumption))); have kk0 := hk.keeps (b := w.heap.size) (o := 0) (s := none) (v := .int .i64 d) (by simp [go_sem]); have kk1 := hk.keeps (b := w.heap.size) (o := 1) (s := none) (v := .int .i64 l) (by simp [go_sem]); have kk2 := hk.keeps (b := w.heap.size) (o := 2) (s := none) (v := .int .i64 v) (by simp [go_sem]); have kk3 := hk.keeps (b := w.heap.size) (o := 3) (s := none) (v := .int .i64 s) (by simp [go_sem]); have pk0 := hk.keeps (b := w.heap.size + 1) (o := 0) (s := none) (v := .int .i64 pv) (by simp [go_sem]); have pk1 := hk.keeps (b := w.heap.size + 1) (o := 1) (s := none) (v := .int .i64 ps) (by simp [go_sem]); have pk2 := hk.keeps (b := w.heap.size + 1) (o := 2) (s := none) (v := .int .i64 po) (by simp [go_sem]); have yk0 := hwd.keeps yk0; have yk1 := hwd.keeps yk1; have yk2 := hwd.keeps yk2)
      | (go_at_call 22; refine (H5.out _).mono ?_; rintro e we ⟨rfl, hwe⟩; have yk0 := hwe.keeps yk0; have yk1 := hwe.keeps yk1; have yk2 := hwe.keeps yk2)
      | (go_at_call 14; refine (awake_any _).mono ?_; rintro e w2 ⟨rfl, hk2⟩))
    go_ret
    exact ⟨rfl, (by repeat (first | exact Kept.refl _ | assumption | refine Kept.alloc ?_ _ | refine Kept.drew ?_ | refine Kept.drewN ?_ _ | refine Kept.setCell ?_ (by simp; try omega) _ | refine Kept.trans ?_ (by assumption)))⟩

theorem ofA_pos (d l v s pv ps po : Int) (hm : mayB d l v s = true) (h : ofB d l v s pv ps po = true) : 0 < ofA d s pv ps po := by
  obtain ⟨b1, b2, b3, b4, b5, b6, b7, b8⟩ := mayB_of hm
  obtain ⟨c1, c2, c3, c4, c5, c6, c7⟩ := (ofB_iff d l v s pv ps po).1 h
  unfold ofA
  by_cases c : pv = -1
  · rw [if_pos c]; omega
  · rw [if_neg c]
    have := Int.mul_nonneg (show 0 ≤ pv by omega) (show 0 ≤ s by omega)
    omega

set_option maxRecDepth 100000 in
set_option maxHeartbeats 1000000 in
theorem places_walk (d l v s pv ps po a : Int) (w : World) :
    Calls Try.prog 6 #[.agg #[.int .i64 d, .int .i64 l, .int .i64 v, .int .i64 s], .agg #[.int .i64 pv, .int .i64 ps, .int .i64 po], .int .i64 a] w fun e w' => e = .returned (.bool true) ∧ Kept w w' := by
  rcases hm : mayB d l v s with _ | _
  · have hB : whB d l v s a = false := by simp [whB, hm]
    have H1 := hid (fun w => of_at d l v s pv ps po 0 1 w (by simp [ofN, hm]) (by simp [ofE, hm]))
    have H2 := hid (where_at d l v s a 0 0 0 1 (by simp [whV, hB]) (by simp [whS, hB]) (by simp [whO, hB]) (by simp [segE, hm]))
    have H3 := hid (fun w => rmay_f d l v s w hm)
    clear hm hB
    go_enter Try.func6, Try.ntmps6
    go_wp2_with (first
      | (go_at_call 19; refine (H1.out _).mono ?_; rintro e wa ⟨rfl, hwa⟩; have hk : Kept ((w.alloc (.cells #[.int .i64 d, .int .i64 l, .int .i64 v, .int .i64 s] 23)).alloc (.cells #[.int .i64 pv, .int .i64 ps, .int .i64 po] 34)) wa := (by repeat (first | exact Kept.refl _ | assumption | refine Kept.alloc ?_ _ | refine Kept.drew ?_ | refine Kept.drewN ?_ _ | refine Kept.setCell ?_ (by simp; try omega) _ | refine Kept.trans ?_ (by assumption))); have kk0 := hk.keeps (b := w.heap.size) (o := 0) (s := none) (v := .int .i64 d) (by simp [go_sem]); have kk1 := hk.keeps (b := w.heap.size) (o := 1) (s := none) (v := .int .i64 l) (by simp [go_sem]); have kk2 := hk.keeps (b := w.heap.size) (o := 2) (s := none) (v := .int .i64 v) (by simp [go_sem]); have kk3 := hk.keeps (b := w.heap.size) (o := 3) (s := none) (v := .int .i64 s) (by simp [go_sem]); have pk0 := hk.keeps (b := w.heap.size + 1) (o := 0) (s := none) (v := .int .i64 pv) (by simp [go_sem]); have pk1 := hk.keeps (b := w.heap.size + 1) (o := 1) (s := none) (v := .int .i64 ps) (by simp [go_sem]); have pk2 := hk.keeps (b := w.heap.size + 1) (o := 2) (s := none) (v := .int .i64 po) (by simp [go_sem]))
      | (go_at_call 20; refine (H2.out _).mono ?_; rintro e wb ⟨rfl, hwb⟩; have hk : Kept ((w.alloc (.cells #[.int .i64 d, .int .i64 l, .int .i64 v, .int .i64 s] 23)).alloc (.cells #[.int .i64 pv, .int .i64 ps, .int .i64 po] 34)) wb := (by repeat (first | exact Kept.refl _ | assumption | refine Kept.alloc ?_ _ | refine Kept.drew ?_ | refine Kept.drewN ?_ _ | refine Kept.setCell ?_ (by simp; try omega) _ | refine Kept.trans ?_ (by assumption))); have kk0 := hk.keeps (b := w.heap.size) (o := 0) (s := none) (v := .int .i64 d) (by simp [go_sem]); have kk1 := hk.keeps (b := w.heap.size) (o := 1) (s := none) (v := .int .i64 l) (by simp [go_sem]); have kk2 := hk.keeps (b := w.heap.size) (o := 2) (s := none) (v := .int .i64 v) (by simp [go_sem]); have kk3 := hk.keeps (b := w.heap.size) (o := 3) (s := none) (v := .int .i64 s) (by simp [go_sem]); have pk0 := hk.keeps (b := w.heap.size + 1) (o := 0) (s := none) (v := .int .i64 pv) (by simp [go_sem]); have pk1 := hk.keeps (b := w.heap.size + 1) (o := 1) (s := none) (v := .int .i64 ps) (by simp [go_sem]); have pk2 := hk.keeps (b := w.heap.size + 1) (o := 2) (s := none) (v := .int .i64 po) (by simp [go_sem]))
      | (go_at_call 9; refine (H3.out _).mono ?_; rintro e wc ⟨rfl, hwc⟩; have hk : Kept ((w.alloc (.cells #[.int .i64 d, .int .i64 l, .int .i64 v, .int .i64 s] 23)).alloc (.cells #[.int .i64 pv, .int .i64 ps, .int .i64 po] 34)) wc := (by repeat (first | exact Kept.refl _ | assumption | refine Kept.alloc ?_ _ | refine Kept.drew ?_ | refine Kept.drewN ?_ _ | refine Kept.setCell ?_ (by simp; try omega) _ | refine Kept.trans ?_ (by assumption))); have kk0 := hk.keeps (b := w.heap.size) (o := 0) (s := none) (v := .int .i64 d) (by simp [go_sem]); have kk1 := hk.keeps (b := w.heap.size) (o := 1) (s := none) (v := .int .i64 l) (by simp [go_sem]); have kk2 := hk.keeps (b := w.heap.size) (o := 2) (s := none) (v := .int .i64 v) (by simp [go_sem]); have kk3 := hk.keeps (b := w.heap.size) (o := 3) (s := none) (v := .int .i64 s) (by simp [go_sem]); have pk0 := hk.keeps (b := w.heap.size + 1) (o := 0) (s := none) (v := .int .i64 pv) (by simp [go_sem]); have pk1 := hk.keeps (b := w.heap.size + 1) (o := 1) (s := none) (v := .int .i64 ps) (by simp [go_sem]); have pk2 := hk.keeps (b := w.heap.size + 1) (o := 2) (s := none) (v := .int .i64 po) (by simp [go_sem]); have yk0 := hwc.keeps (b := wb.heap.size) (o := 0) (s := none) (v := .int .i64 0) (by simp [go_sem]); have yk1 := hwc.keeps (b := wb.heap.size) (o := 1) (s := none) (v := .int .i64 0) (by simp [go_sem]); have yk2 := hwc.keeps (b := wb.heap.size) (o := 2) (s := none) (v := .int .i64 0) (by simp [go_sem]))
      | (go_at_call 14; refine (awake_any _).mono ?_; rintro e w2 ⟨rfl, hk2⟩))
    go_ret
    exact ⟨rfl, (by repeat (first | exact Kept.refl _ | assumption | refine Kept.alloc ?_ _ | refine Kept.drew ?_ | refine Kept.drewN ?_ _ | refine Kept.setCell ?_ (by simp; try omega) _ | refine Kept.trans ?_ (by assumption)))⟩
  · refine places_core d l v s pv ps po a (ofN d l v s pv ps po) (ofE d l v s pv ps po) (whV d l v s a) (whS d l v s a) (whO d l v s a) (segE d l v s a) (whB d l v s a) w ?_ ?_
      (hid (of_any d l v s pv ps po)) (hid (where_any d l v s a)) (hid fun w => rmay_t d l v s w hm) (hid fun w => ?_) (hid fun w => rwhere_any d l v s a w hm)
    · rcases hB : ofB d l v s pv ps po with _ | _
      · exact .inr ⟨by simp [ofN, hm, hB], by simp [ofE, hm, hB]⟩
      · exact .inl ⟨by simp only [ofN, hm, hB, Bool.and_self, if_true]; exact ofA_pos d l v s pv ps po hm hB, by simp [ofE, hm, hB]⟩
    · by_cases h : 1 ≤ a ∧ a ≤ segsF d l v s * 16
      · exact .inl ⟨by simp [whB, hm, h], by simp [segE, hm, h]⟩
      · exact .inr ⟨by unfold whB; rw [hm]; simpa using h, by simp [segE, hm, h]⟩
    · rcases hB : ofB d l v s pv ps po with _ | _
      · have : ofN d l v s pv ps po = 0 := by simp [ofN, hm, hB]
        rw [this]; exact rof_no d l v s pv ps po w hm hB
      · have : ofN d l v s pv ps po = ofA d s pv ps po := by simp [ofN, hm, hB]
        rw [this]; exact rof_yes d l v s pv ps po w hm hB
end Go.Proofs.Ytlddfpecicgboaa
