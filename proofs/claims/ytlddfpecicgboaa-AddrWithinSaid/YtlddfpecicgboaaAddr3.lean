/- The functions of package addr, the third part: Of in one word, Where. -/
import Derived.Test.YtlddfpecicgboaaAddr2
namespace Go.Proofs.Ytlddfpecicgboaa
open Go.RowKit

/-- Of, in one word. -/
theorem of_any (d l v s pv ps po : Int) (w : World) :
    Calls Try.prog 19 #[.agg #[.int .i64 d, .int .i64 l, .int .i64 v, .int .i64 s], .agg #[.int .i64 pv, .int .i64 ps, .int .i64 po]] w fun e w' =>
      e = .returned (.tuple #[.int .i64 (ofN d l v s pv ps po), .int .i64 (ofE d l v s pv ps po)]) ∧ Kept w w' := by
  rcases hm : mayB d l v s with _ | _
  · have h1 : ofN d l v s pv ps po = 0 := by simp [ofN, hm]
    have h2 : ofE d l v s pv ps po = 1 := by simp [ofE, hm]
    rw [h1, h2]
    have Hm := hid hm; clear hm h1 h2
    go_enter Try.func19, Try.ntmps19
    go_wp2_with (go_at_call 11; refine (may_f _ _ _ _ _ Hm.out).mono ?_; rintro e w1 ⟨rfl, hk⟩)
    go_ret2
    exact ⟨rfl, (by repeat (first | exact Kept.refl _ | assumption | refine Kept.alloc ?_ _ | refine Kept.drew ?_ | refine Kept.drewN ?_ _ | refine Kept.setCell ?_ (by simp; try omega) _ | refine Kept.trans ?_ (by assumption)))⟩
  · by_cases c1 : -1 ≤ pv ∧ pv ≤ v - 1
    · rcases hB : ofB d l v s pv ps po with _ | _
      · have h1 : ofN d l v s pv ps po = 0 := by simp [ofN, hm, hB]
        have h2 : ofE d l v s pv ps po = 4 := by simp [ofE, hm, hB]
        rw [h1, h2]
        simp only [ofB, decide_eq_false_iff_not] at hB
        by_cases c0 : pv = -1
        · subst c0
          by_cases c2 : 0 ≤ ps ∧ ps ≤ d - 1
          · exact of_disk_nooff d l v s ps po w hm c2.1 c2.2 (by simp at hB; omega)
          · exact of_disk_noseg d l v s ps po w hm c2
        · by_cases c2 : 0 ≤ ps ∧ ps ≤ s - 1
          · exact of_vol_nooff d l v s pv ps po w hm (by omega) c1.2 c2.1 c2.2 (by rw [if_neg c0] at hB; omega)
          · exact of_vol_noseg d l v s pv ps po w hm (by omega) c1.2 c2
      · have h1 : ofN d l v s pv ps po = ofA d s pv ps po := by simp [ofN, hm, hB]
        have h2 : ofE d l v s pv ps po = 0 := by simp [ofE, hm, hB]
        rw [h1, h2]
        simp only [ofB, decide_eq_true_eq] at hB
        by_cases c0 : pv = -1
        · subst c0
          simp only [if_true] at hB
          have := of_disk_yes d l v s ps po w hm (by omega) (by omega) (by omega) (by omega)
          simpa [ofA] using this
        · rw [if_neg c0] at hB
          have := of_vol_yes d l v s pv ps po w hm (by omega) (by omega) (by omega) (by omega) (by omega) (by omega)
          simpa [ofA, c0] using this
    · have hB : ofB d l v s pv ps po = false := by simp [ofB]; omega
      have h1 : ofN d l v s pv ps po = 0 := by simp [ofN, hm, hB]
      have h2 : ofE d l v s pv ps po = 4 := by simp [ofE, hm, hB]
      rw [h1, h2]
      exact of_novol d l v s pv ps po w hm c1

/-- is there a place of an address, and which -/
def whB (d l v s a : Int) : Bool := mayB d l v s && decide (1 ≤ a ∧ a ≤ segsF d l v s * 16)
def whV (d l v s a : Int) : Int := if whB d l v s a then if (a - 1) / 16 < d then -1 else ((a - 1) / 16 - d) / s else 0
def whS (d l v s a : Int) : Int := if whB d l v s a then if (a - 1) / 16 < d then (a - 1) / 16 else ((a - 1) / 16 - d) % s else 0
def whO (d l v s a : Int) : Int := if whB d l v s a then (a - 1) % 16 else 0

theorem ret_place {x y z e x' y' z' e' : Int} (hx : x = x') (hy : y = y') (hz : z = z') (he : e = e') :
    Ending.returned (.tuple #[.agg #[.int .i64 x, .int .i64 y, .int .i64 z], .int .i64 e]) = .returned (.tuple #[.agg #[.int .i64 x', .int .i64 y', .int .i64 z'], .int .i64 e']) := by
  rw [hx, hy, hz, he]

set_option maxHeartbeats 1000000 in
theorem where_any (d l v s a : Int) (w : World) :
    Calls Try.prog 20 #[.agg #[.int .i64 d, .int .i64 l, .int .i64 v, .int .i64 s], .int .i64 a] w fun e w' =>
      e = .returned (.tuple #[.agg #[.int .i64 (whV d l v s a), .int .i64 (whS d l v s a), .int .i64 (whO d l v s a)], .int .i64 (segE d l v s a)]) ∧ Kept w w' := by
  obtain ⟨hb1, hb2⟩ := segsF_bd d l v s
  by_cases h : mayB d l v s = true ∧ 1 ≤ a ∧ a ≤ segsF d l v s * 16
  · obtain ⟨hm, ha1, ha2⟩ := h
    have hwh : whB d l v s a = true := by simp [whB, hm, ha1, ha2]
    have hs : segN d l v s a = (a - 1) / 16 := by simp [segN, hm, ha1, ha2]
    have he : segE d l v s a = 0 := by simp [segE, hm, ha1, ha2]
    have hc : ∀ w, Calls Try.prog 16 #[.agg #[.int .i64 d, .int .i64 l, .int .i64 v, .int .i64 s], .int .i64 a] w fun e w' =>
      e = .returned (.tuple #[.int .i64 ((a - 1) / 16), .int .i64 0]) ∧ Kept w w' := by
        intro w; have := segment_any d l v s a w; rwa [hs, he] at this
    have Hc := hid hc
    obtain ⟨b1, b2, b3, b4, b5, b6, b7, b8⟩ := mayB_of hm
    have hvs : segsF d l v s = d + v * s := by simp [segsF, hm]
    have ho : whO d l v s a = (a - 1) % 16 := by simp [whO, hwh]
    have hV : whV d l v s a = if (a - 1) / 16 < d then -1 else ((a - 1) / 16 - d) / s := by simp [whV, hwh]
    have hS : whS d l v s a = if (a - 1) / 16 < d then (a - 1) / 16 else ((a - 1) / 16 - d) % s := by simp [whS, hwh]
    rw [ho, hV, hS, he]
    clear hc hs he ho hV hS hm hvs hwh
    generalize hq : (a - 1) / 16 = q at *
    have hq0 : 0 ≤ q := by omega
    have hq1 : q < segsF d l v s := by omega
    clear hq
    by_cases hd : q < d
    · have V1 : Hid ((if q < d then (-1 : Int) else (q - d) / s) = -1) := if_pos hd
      have V2 : Hid ((if q < d then q else (q - d) % s) = q) := if_pos hd
      rw [V1.out, V2.out]; clear V1 V2
      go_enter Try.func20, Try.ntmps20
      go_wp2_with (first | (go_at_call 16; refine (Hc.out _).mono ?_; rintro e w1 ⟨rfl, hk⟩; have kk0 := hk.keeps (b := w.heap.size) (o := 0) (s := none) (v := .int .i64 d) (by simp [go_sem]); have kk1 := hk.keeps (b := w.heap.size) (o := 1) (s := none) (v := .int .i64 l) (by simp [go_sem]); have kk2 := hk.keeps (b := w.heap.size) (o := 2) (s := none) (v := .int .i64 v) (by simp [go_sem]); have kk3 := hk.keeps (b := w.heap.size) (o := 3) (s := none) (v := .int .i64 s) (by simp [go_sem]); have pk0 := hk.keeps (b := w.heap.size + 1) (o := 0) (s := none) (v := .int .i64 0) (by simp [go_sem]); have pk1 := hk.keeps (b := w.heap.size + 1) (o := 1) (s := none) (v := .int .i64 0) (by simp [go_sem]); have pk2 := hk.keeps (b := w.heap.size + 1) (o := 2) (s := none) (v := .int .i64 0) (by simp [go_sem]); have pf0 := hk.free (b := w.heap.size + 1) (o := 0) (s := none) (v := .int .i64 0) (by simp [go_sem]) (by simp [go_sem]); have pf1 := hk.free (b := w.heap.size + 1) (o := 1) (s := none) (v := .int .i64 0) (by simp [go_sem]) (by simp [go_sem]); have pf2 := hk.free (b := w.heap.size + 1) (o := 2) (s := none) (v := .int .i64 0) (by simp [go_sem]) (by simp [go_sem])) | go_quiet (fail))
      refine bodyPost_ret (v := .tuple #[.agg #[.int .i64 (-1), .int .i64 q, .int .i64 ((a - 1) % 16)], .int .i64 0]) (by simp [results, Try.results20, go_sem, pk0, pk1, pk2]) rfl ⟨rfl, (by repeat (first | exact Kept.refl _ | assumption | refine Kept.alloc ?_ _ | refine Kept.drew ?_ | refine Kept.drewN ?_ _ | refine Kept.setCell ?_ (by simp; try omega) _ | refine Kept.trans ?_ (by assumption)))⟩
    · have V1 : Hid ((if q < d then (-1 : Int) else (q - d) / s) = (q - d) / s) := if_neg hd
      have V2 : Hid ((if q < d then q else (q - d) % s) = (q - d) % s) := if_neg hd
      rw [V1.out, V2.out]; clear V1 V2
      go_enter Try.func20, Try.ntmps20
      go_wp2_with (first | (go_at_call 16; refine (Hc.out _).mono ?_; rintro e w1 ⟨rfl, hk⟩; have kk0 := hk.keeps (b := w.heap.size) (o := 0) (s := none) (v := .int .i64 d) (by simp [go_sem]); have kk1 := hk.keeps (b := w.heap.size) (o := 1) (s := none) (v := .int .i64 l) (by simp [go_sem]); have kk2 := hk.keeps (b := w.heap.size) (o := 2) (s := none) (v := .int .i64 v) (by simp [go_sem]); have kk3 := hk.keeps (b := w.heap.size) (o := 3) (s := none) (v := .int .i64 s) (by simp [go_sem]); have pk0 := hk.keeps (b := w.heap.size + 1) (o := 0) (s := none) (v := .int .i64 0) (by simp [go_sem]); have pk1 := hk.keeps (b := w.heap.size + 1) (o := 1) (s := none) (v := .int .i64 0) (by simp [go_sem]); have pk2 := hk.keeps (b := w.heap.size + 1) (o := 2) (s := none) (v := .int .i64 0) (by simp [go_sem]); have pf0 := hk.free (b := w.heap.size + 1) (o := 0) (s := none) (v := .int .i64 0) (by simp [go_sem]) (by simp [go_sem]); have pf1 := hk.free (b := w.heap.size + 1) (o := 1) (s := none) (v := .int .i64 0) (by simp [go_sem]) (by simp [go_sem]); have pf2 := hk.free (b := w.heap.size + 1) (o := 2) (s := none) (v := .int .i64 0) (by simp [go_sem]) (by simp [go_sem])) | go_quiet (fail))
      go_region
      all_goals
        go_wp2
        refine bodyPost_ret (v := .tuple #[.agg #[.int .i64 ((q - d) / s), .int .i64 ((q - d) % s), .int .i64 ((a - 1) % 16)], .int .i64 0]) (by simp [results, Try.results20, go_sem, pk0, pk1, pk2]) rfl ⟨rfl, (by repeat (first | exact Kept.refl _ | assumption | refine Kept.alloc ?_ _ | refine Kept.drew ?_ | refine Kept.drewN ?_ _ | refine Kept.setCell ?_ (by simp; try omega) _ | refine Kept.trans ?_ (by assumption)))⟩
  · have hwh : whB d l v s a = false := by
      unfold whB; simpa using h
    have ho : whO d l v s a = 0 := by simp [whO, hwh]
    have hV : whV d l v s a = 0 := by simp [whV, hwh]
    have hS : whS d l v s a = 0 := by simp [whS, hwh]
    have he : segE d l v s a = 1 ∨ segE d l v s a = 4 := by
      unfold segE
      by_cases hm : mayB d l v s = true
      · right; rw [if_pos hm, if_neg (fun h' => h ⟨hm, h'⟩)]
      · left; rw [if_neg hm]
    have hc : ∀ w, Calls Try.prog 16 #[.agg #[.int .i64 d, .int .i64 l, .int .i64 v, .int .i64 s], .int .i64 a] w fun e w' =>
      e = .returned (.tuple #[.int .i64 (segN d l v s a), .int .i64 (segE d l v s a)]) ∧ Kept w w' := fun w => segment_any d l v s a w
    rw [ho, hV, hS]
    generalize segE d l v s a = E at *
    generalize segN d l v s a = N at *
    have Hc := hid hc
    clear hc h ho hV hS hwh
    rcases he with rfl | rfl
    · go_enter Try.func20, Try.ntmps20
      go_wp2_with (go_at_call 16; refine (Hc.out _).mono ?_; rintro e w1 ⟨rfl, hk⟩; have pk0 := hk.keeps (b := w.heap.size + 1) (o := 0) (s := none) (v := .int .i64 0) (by simp [go_sem]); have pk1 := hk.keeps (b := w.heap.size + 1) (o := 1) (s := none) (v := .int .i64 0) (by simp [go_sem]); have pk2 := hk.keeps (b := w.heap.size + 1) (o := 2) (s := none) (v := .int .i64 0) (by simp [go_sem]); have pf0 := hk.free (b := w.heap.size + 1) (o := 0) (s := none) (v := .int .i64 0) (by simp [go_sem]) (by simp [go_sem]); have pf1 := hk.free (b := w.heap.size + 1) (o := 1) (s := none) (v := .int .i64 0) (by simp [go_sem]) (by simp [go_sem]); have pf2 := hk.free (b := w.heap.size + 1) (o := 2) (s := none) (v := .int .i64 0) (by simp [go_sem]) (by simp [go_sem]))
      refine bodyPost_ret (v := .tuple #[.agg #[.int .i64 0, .int .i64 0, .int .i64 0], .int .i64 1]) (by simp [results, Try.results20, go_sem, pk0, pk1, pk2]) rfl ⟨rfl, (by repeat (first | exact Kept.refl _ | assumption | refine Kept.alloc ?_ _ | refine Kept.drew ?_ | refine Kept.drewN ?_ _ | refine Kept.setCell ?_ (by simp; try omega) _ | refine Kept.trans ?_ (by assumption)))⟩
    · go_enter Try.func20, Try.ntmps20
      go_wp2_with (go_at_call 16; refine (Hc.out _).mono ?_; rintro e w1 ⟨rfl, hk⟩; have pk0 := hk.keeps (b := w.heap.size + 1) (o := 0) (s := none) (v := .int .i64 0) (by simp [go_sem]); have pk1 := hk.keeps (b := w.heap.size + 1) (o := 1) (s := none) (v := .int .i64 0) (by simp [go_sem]); have pk2 := hk.keeps (b := w.heap.size + 1) (o := 2) (s := none) (v := .int .i64 0) (by simp [go_sem]); have pf0 := hk.free (b := w.heap.size + 1) (o := 0) (s := none) (v := .int .i64 0) (by simp [go_sem]) (by simp [go_sem]); have pf1 := hk.free (b := w.heap.size + 1) (o := 1) (s := none) (v := .int .i64 0) (by simp [go_sem]) (by simp [go_sem]); have pf2 := hk.free (b := w.heap.size + 1) (o := 2) (s := none) (v := .int .i64 0) (by simp [go_sem]) (by simp [go_sem]))
      refine bodyPost_ret (v := .tuple #[.agg #[.int .i64 0, .int .i64 0, .int .i64 0], .int .i64 4]) (by simp [results, Try.results20, go_sem, pk0, pk1, pk2]) rfl ⟨rfl, (by repeat (first | exact Kept.refl _ | assumption | refine Kept.alloc ?_ _ | refine Kept.drew ?_ | refine Kept.drewN ?_ _ | refine Kept.setCell ?_ (by simp; try omega) _ | refine Kept.trans ?_ (by assumption)))⟩
end Go.Proofs.Ytlddfpecicgboaa
