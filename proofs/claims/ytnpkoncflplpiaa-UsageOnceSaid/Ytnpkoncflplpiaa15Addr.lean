/- Package addr, more: Tier, Where; haymowref03: May, Count (taken over from my texts of chapter 03). -/
import Derived.Test.YtnpkoncflplpiaaAddr
import Derived.Deep.QuietTactic
import Derived.BigQuiet
namespace Go.Proofs.Ytnpkoncflplpiaa
set_option linter.unusedSimpArgs false
set_option linter.unusedVariables false
open Go.RowKit
/-- the tier of an address -/
def tierF (d l v s a : Int) : Int :=
  if mayB d l v s && decide (1 ≤ a ∧ a ≤ segsF d l v s * 16) then if (a - 1) / 16 < d - l then 0 else if (a - 1) / 16 < d then 1 else 2 else -1

set_option maxHeartbeats 1000000 in
theorem tier_any (d l v s a : Int) (w : World) :
    Calls Try.prog 18 #[.agg #[.int .i64 d, .int .i64 l, .int .i64 v, .int .i64 s], .int .i64 a] w fun e w' =>
      e = .returned (.int .i64 (tierF d l v s a)) ∧ Kept w w' := by
  obtain ⟨hb1, hb2⟩ := segsF_bd d l v s
  by_cases h : mayB d l v s = true ∧ 1 ≤ a ∧ a ≤ segsF d l v s * 16
  · obtain ⟨hm, ha1, ha2⟩ := h
    have hs : segN d l v s a = (a - 1) / 16 := by simp [segN, hm, ha1, ha2]
    have he : segE d l v s a = 0 := by simp [segE, hm, ha1, ha2]
    have hc : ∀ w, Calls Try.prog 20 #[.agg #[.int .i64 d, .int .i64 l, .int .i64 v, .int .i64 s], .int .i64 a] w fun e w' =>
      e = .returned (.tuple #[.int .i64 ((a - 1) / 16), .int .i64 0]) ∧ Kept w w' := by
        intro w; have := segment_any d l v s a w; rwa [hs, he] at this
    have Hc := hid hc
    obtain ⟨b1, b2, b3, b4, b5, b6, b7, b8⟩ := mayB_of hm
    have ht : tierF d l v s a = if (a - 1) / 16 < d - l then 0 else if (a - 1) / 16 < d then 1 else 2 := by simp [tierF, hm, ha1, ha2]
    have Ht := hid ht
    clear hc hs he ht hm
    generalize hq : (a - 1) / 16 = q at *
    have hq0 : 0 ≤ q := by omega
    have hq1 : q < segsF d l v s := by omega
    clear hq
    go_enter Try.func18, Try.ntmps18
    go_wp2_with (go_at_call 20; refine (Hc.out _).mono ?_; rintro e w1 ⟨rfl, hk⟩; obtain ⟨k0, k1, k2, k3⟩ := geo_box hk)
    all_goals
      go_ret
      exact ⟨ret_int (by rw [Ht.out]; repeat' split <;> omega), (by repeat (first | exact Kept.refl _ | assumption | refine Kept.alloc ?_ _ | refine Kept.drew ?_ | refine Kept.drewN ?_ _ | refine Kept.setCell ?_ (by simp; try omega) _ | refine Kept.trans ?_ (by assumption)))⟩
  · have ht : tierF d l v s a = -1 := by
      unfold tierF; rw [if_neg]; simpa using h
    have he : segE d l v s a = 1 ∨ segE d l v s a = 4 := by
      unfold segE
      by_cases hm : mayB d l v s = true
      · right; rw [if_pos hm, if_neg (fun h' => h ⟨hm, h'⟩)]
      · left; rw [if_neg hm]
    have Ht := hid ht
    have hc : ∀ w, Calls Try.prog 20 #[.agg #[.int .i64 d, .int .i64 l, .int .i64 v, .int .i64 s], .int .i64 a] w fun e w' =>
      e = .returned (.tuple #[.int .i64 (segN d l v s a), .int .i64 (segE d l v s a)]) ∧ Kept w w' := fun w => segment_any d l v s a w
    generalize segE d l v s a = E at *
    generalize segN d l v s a = N at *
    have Hc := hid hc
    clear hc ht h
    rcases he with rfl | rfl
    all_goals
      go_enter Try.func18, Try.ntmps18
      go_wp2_with (go_at_call 20; refine (Hc.out _).mono ?_; rintro e w1 ⟨rfl, hk⟩)
      go_ret
      exact ⟨ret_int Ht.out.symm, (by repeat (first | exact Kept.refl _ | assumption | refine Kept.alloc ?_ _ | refine Kept.drew ?_ | refine Kept.drewN ?_ _ | refine Kept.setCell ?_ (by simp; try omega) _ | refine Kept.trans ?_ (by assumption)))⟩


/-- is there a place of an address, and which -/
def whB (d l v s a : Int) : Bool := mayB d l v s && decide (1 ≤ a ∧ a ≤ segsF d l v s * 16)
def whV (d l v s a : Int) : Int := if whB d l v s a then if (a - 1) / 16 < d then -1 else ((a - 1) / 16 - d) / s else 0
def whS (d l v s a : Int) : Int := if whB d l v s a then if (a - 1) / 16 < d then (a - 1) / 16 else ((a - 1) / 16 - d) % s else 0
def whO (d l v s a : Int) : Int := if whB d l v s a then (a - 1) % 16 else 0

theorem ret_place {x y z e x' y' z' e' : Int} (hx : x = x') (hy : y = y') (hz : z = z') (he : e = e') :
    Ending.returned (.tuple #[.agg #[.int .i64 x, .int .i64 y, .int .i64 z], .int .i64 e]) = .returned (.tuple #[.agg #[.int .i64 x', .int .i64 y', .int .i64 z'], .int .i64 e']) := by
  rw [hx, hy, hz, he]

set_option maxHeartbeats 1000000 in
theorem where_any (d l v s a : Int) (w : World) :
    Calls Try.prog 31 #[.agg #[.int .i64 d, .int .i64 l, .int .i64 v, .int .i64 s], .int .i64 a] w fun e w' =>
      e = .returned (.tuple #[.agg #[.int .i64 (whV d l v s a), .int .i64 (whS d l v s a), .int .i64 (whO d l v s a)], .int .i64 (segE d l v s a)]) ∧ Kept w w' := by
  obtain ⟨hb1, hb2⟩ := segsF_bd d l v s
  by_cases h : mayB d l v s = true ∧ 1 ≤ a ∧ a ≤ segsF d l v s * 16
  · obtain ⟨hm, ha1, ha2⟩ := h
    have hwh : whB d l v s a = true := by simp [whB, hm, ha1, ha2]
    have hs : segN d l v s a = (a - 1) / 16 := by simp [segN, hm, ha1, ha2]
    have he : segE d l v s a = 0 := by simp [segE, hm, ha1, ha2]
    have hc : ∀ w, Calls Try.prog 20 #[.agg #[.int .i64 d, .int .i64 l, .int .i64 v, .int .i64 s], .int .i64 a] w fun e w' =>
      e = .returned (.tuple #[.int .i64 ((a - 1) / 16), .int .i64 0]) ∧ Kept w w' := by
        intro w; have := segment_any d l v s a w; rwa [hs, he] at this
    have Hc := hid hc
    obtain ⟨b1, b2, b3, b4, b5, b6, b7, b8⟩ := mayB_of hm
    have hvs : segsF d l v s = d + v * s := by simp [segsF, hm]
    have ho : whO d l v s a = (a - 1) % 16 := by simp [whO, hwh]
    have hV : whV d l v s a = if (a - 1) / 16 < d then -1 else ((a - 1) / 16 - d) / s := by simp [whV, hwh]
    have hS : whS d l v s a = if (a - 1) / 16 < d then (a - 1) / 16 else ((a - 1) / 16 - d) % s := by simp [whS, hwh]
    rw [ho, hV, hS, he]
    clear hc hs he ho hV hS hm hvs hwh
    generalize hq : (a - 1) / 16 = q at *
    have hq0 : 0 ≤ q := by omega
    have hq1 : q < segsF d l v s := by omega
    clear hq
    by_cases hd : q < d
    · have V1 : Hid ((if q < d then (-1 : Int) else (q - d) / s) = -1) := if_pos hd
      have V2 : Hid ((if q < d then q else (q - d) % s) = q) := if_pos hd
      rw [V1.out, V2.out]; clear V1 V2
      go_enter Try.func31, Try.ntmps31
      go_wp2_with (first | (go_at_call 20; refine (Hc.out _).mono ?_; rintro e w1 ⟨rfl, hk⟩; have kk0 := hk.keeps (b := w.heap.size) (o := 0) (s := none) (v := .int .i64 d) (by simp [go_sem]); have kk1 := hk.keeps (b := w.heap.size) (o := 1) (s := none) (v := .int .i64 l) (by simp [go_sem]); have kk2 := hk.keeps (b := w.heap.size) (o := 2) (s := none) (v := .int .i64 v) (by simp [go_sem]); have kk3 := hk.keeps (b := w.heap.size) (o := 3) (s := none) (v := .int .i64 s) (by simp [go_sem]); have pk0 := hk.keeps (b := w.heap.size + 1) (o := 0) (s := none) (v := .int .i64 0) (by simp [go_sem]); have pk1 := hk.keeps (b := w.heap.size + 1) (o := 1) (s := none) (v := .int .i64 0) (by simp [go_sem]); have pk2 := hk.keeps (b := w.heap.size + 1) (o := 2) (s := none) (v := .int .i64 0) (by simp [go_sem]); have pf0 := hk.free (b := w.heap.size + 1) (o := 0) (s := none) (v := .int .i64 0) (by simp [go_sem]) (by simp [go_sem]); have pf1 := hk.free (b := w.heap.size + 1) (o := 1) (s := none) (v := .int .i64 0) (by simp [go_sem]) (by simp [go_sem]); have pf2 := hk.free (b := w.heap.size + 1) (o := 2) (s := none) (v := .int .i64 0) (by simp [go_sem]) (by simp [go_sem])) | go_quiet (fail))
      refine bodyPost_ret (v := .tuple #[.agg #[.int .i64 (-1), .int .i64 q, .int .i64 ((a - 1) % 16)], .int .i64 0]) (by simp [results, Try.results31, go_sem, pk0, pk1, pk2]) rfl ⟨rfl, (by repeat (first | exact Kept.refl _ | assumption | refine Kept.alloc ?_ _ | refine Kept.drew ?_ | refine Kept.drewN ?_ _ | refine Kept.setCell ?_ (by simp; try omega) _ | refine Kept.trans ?_ (by assumption)))⟩
    · have V1 : Hid ((if q < d then (-1 : Int) else (q - d) / s) = (q - d) / s) := if_neg hd
      have V2 : Hid ((if q < d then q else (q - d) % s) = (q - d) % s) := if_neg hd
      rw [V1.out, V2.out]; clear V1 V2
      go_enter Try.func31, Try.ntmps31
      go_wp2_with (first | (go_at_call 20; refine (Hc.out _).mono ?_; rintro e w1 ⟨rfl, hk⟩; have kk0 := hk.keeps (b := w.heap.size) (o := 0) (s := none) (v := .int .i64 d) (by simp [go_sem]); have kk1 := hk.keeps (b := w.heap.size) (o := 1) (s := none) (v := .int .i64 l) (by simp [go_sem]); have kk2 := hk.keeps (b := w.heap.size) (o := 2) (s := none) (v := .int .i64 v) (by simp [go_sem]); have kk3 := hk.keeps (b := w.heap.size) (o := 3) (s := none) (v := .int .i64 s) (by simp [go_sem]); have pk0 := hk.keeps (b := w.heap.size + 1) (o := 0) (s := none) (v := .int .i64 0) (by simp [go_sem]); have pk1 := hk.keeps (b := w.heap.size + 1) (o := 1) (s := none) (v := .int .i64 0) (by simp [go_sem]); have pk2 := hk.keeps (b := w.heap.size + 1) (o := 2) (s := none) (v := .int .i64 0) (by simp [go_sem]); have pf0 := hk.free (b := w.heap.size + 1) (o := 0) (s := none) (v := .int .i64 0) (by simp [go_sem]) (by simp [go_sem]); have pf1 := hk.free (b := w.heap.size + 1) (o := 1) (s := none) (v := .int .i64 0) (by simp [go_sem]) (by simp [go_sem]); have pf2 := hk.free (b := w.heap.size + 1) (o := 2) (s := none) (v := .int .i64 0) (by simp [go_sem]) (by simp [go_sem])) | go_quiet (fail))
      go_region
      all_goals
        go_wp2
        refine bodyPost_ret (v := .tuple #[.agg #[.int .i64 ((q - d) / s), .int .i64 ((q - d) % s), .int .i64 ((a - 1) % 16)], .int .i64 0]) (by simp [results, Try.results31, go_sem, pk0, pk1, pk2]) rfl ⟨rfl, (by repeat (first | exact Kept.refl _ | assumption | refine Kept.alloc ?_ _ | refine Kept.drew ?_ | refine Kept.drewN ?_ _ | refine Kept.setCell ?_ (by simp; try omega) _ | refine Kept.trans ?_ (by assumption)))⟩
  · have hwh : whB d l v s a = false := by
      unfold whB; simpa using h
    have ho : whO d l v s a = 0 := by simp [whO, hwh]
    have hV : whV d l v s a = 0 := by simp [whV, hwh]
    have hS : whS d l v s a = 0 := by simp [whS, hwh]
    have he : segE d l v s a = 1 ∨ segE d l v s a = 4 := by
      unfold segE
      by_cases hm : mayB d l v s = true
      · right; rw [if_pos hm, if_neg (fun h' => h ⟨hm, h'⟩)]
      · left; rw [if_neg hm]
    have hc : ∀ w, Calls Try.prog 20 #[.agg #[.int .i64 d, .int .i64 l, .int .i64 v, .int .i64 s], .int .i64 a] w fun e w' =>
      e = .returned (.tuple #[.int .i64 (segN d l v s a), .int .i64 (segE d l v s a)]) ∧ Kept w w' := fun w => segment_any d l v s a w
    rw [ho, hV, hS]
    generalize segE d l v s a = E at *
    generalize segN d l v s a = N at *
    have Hc := hid hc
    clear hc h ho hV hS hwh
    rcases he with rfl | rfl
    · go_enter Try.func31, Try.ntmps31
      go_wp2_with (go_at_call 20; refine (Hc.out _).mono ?_; rintro e w1 ⟨rfl, hk⟩; have pk0 := hk.keeps (b := w.heap.size + 1) (o := 0) (s := none) (v := .int .i64 0) (by simp [go_sem]); have pk1 := hk.keeps (b := w.heap.size + 1) (o := 1) (s := none) (v := .int .i64 0) (by simp [go_sem]); have pk2 := hk.keeps (b := w.heap.size + 1) (o := 2) (s := none) (v := .int .i64 0) (by simp [go_sem]); have pf0 := hk.free (b := w.heap.size + 1) (o := 0) (s := none) (v := .int .i64 0) (by simp [go_sem]) (by simp [go_sem]); have pf1 := hk.free (b := w.heap.size + 1) (o := 1) (s := none) (v := .int .i64 0) (by simp [go_sem]) (by simp [go_sem]); have pf2 := hk.free (b := w.heap.size + 1) (o := 2) (s := none) (v := .int .i64 0) (by simp [go_sem]) (by simp [go_sem]))
      refine bodyPost_ret (v := .tuple #[.agg #[.int .i64 0, .int .i64 0, .int .i64 0], .int .i64 1]) (by simp [results, Try.results31, go_sem, pk0, pk1, pk2]) rfl ⟨rfl, (by repeat (first | exact Kept.refl _ | assumption | refine Kept.alloc ?_ _ | refine Kept.drew ?_ | refine Kept.drewN ?_ _ | refine Kept.setCell ?_ (by simp; try omega) _ | refine Kept.trans ?_ (by assumption)))⟩
    · go_enter Try.func31, Try.ntmps31
      go_wp2_with (go_at_call 20; refine (Hc.out _).mono ?_; rintro e w1 ⟨rfl, hk⟩; have pk0 := hk.keeps (b := w.heap.size + 1) (o := 0) (s := none) (v := .int .i64 0) (by simp [go_sem]); have pk1 := hk.keeps (b := w.heap.size + 1) (o := 1) (s := none) (v := .int .i64 0) (by simp [go_sem]); have pk2 := hk.keeps (b := w.heap.size + 1) (o := 2) (s := none) (v := .int .i64 0) (by simp [go_sem]); have pf0 := hk.free (b := w.heap.size + 1) (o := 0) (s := none) (v := .int .i64 0) (by simp [go_sem]) (by simp [go_sem]); have pf1 := hk.free (b := w.heap.size + 1) (o := 1) (s := none) (v := .int .i64 0) (by simp [go_sem]) (by simp [go_sem]); have pf2 := hk.free (b := w.heap.size + 1) (o := 2) (s := none) (v := .int .i64 0) (by simp [go_sem]) (by simp [go_sem]))
      refine bodyPost_ret (v := .tuple #[.agg #[.int .i64 0, .int .i64 0, .int .i64 0], .int .i64 4]) (by simp [results, Try.results31, go_sem, pk0, pk1, pk2]) rfl ⟨rfl, (by repeat (first | exact Kept.refl _ | assumption | refine Kept.alloc ?_ _ | refine Kept.drew ?_ | refine Kept.drewN ?_ _ | refine Kept.setCell ?_ (by simp; try omega) _ | refine Kept.trans ?_ (by assumption)))⟩

set_option maxHeartbeats 1000000 in
/-- ref.May -/
theorem rmay_any (d l v s : Int) (w : World) :
    Calls Try.prog 21 #[.agg #[.int .i64 d, .int .i64 l, .int .i64 v, .int .i64 s]] w fun e w' => e = .returned (.bool (mayB d l v s)) ∧ Kept w w' := by
  go_enter Try.func21, Try.ntmps21
  go_wp2
  all_goals
    go_ret
    refine ⟨ret_bool ?_, (by repeat (first | exact Kept.refl _ | assumption | refine Kept.alloc ?_ _ | refine Kept.drew ?_ | refine Kept.drewN ?_ _ | refine Kept.setCell ?_ (by simp; try omega) _ | refine Kept.trans ?_ (by assumption)))⟩
    try simp only [Bool.not_eq_true', Bool.not_eq_false', decide_eq_true_eq, decide_eq_false_iff_not] at *
    rw [Bool.eq_iff_iff]
    simp [mayB]
    try omega
theorem rmay_t (d l v s : Int) (w : World) (h : mayB d l v s = true) :
    Calls Try.prog 21 #[.agg #[.int .i64 d, .int .i64 l, .int .i64 v, .int .i64 s]] w fun e w' => e = .returned (.bool true) ∧ Kept w w' := by
  rw [← h]; exact rmay_any d l v s w
theorem rmay_f (d l v s : Int) (w : World) (h : mayB d l v s = false) :
    Calls Try.prog 21 #[.agg #[.int .i64 d, .int .i64 l, .int .i64 v, .int .i64 s]] w fun e w' => e = .returned (.bool false) ∧ Kept w w' := by
  rw [← h]; exact rmay_any d l v s w

/-- ref.Count, of a geometry that may be -/
theorem rcount_any (d l v s : Int) (w : World) (h : mayB d l v s = true) :
    Calls Try.prog 22 #[.agg #[.int .i64 d, .int .i64 l, .int .i64 v, .int .i64 s]] w fun e w' => e = .returned (.int .i64 (segsF d l v s)) ∧ Kept w w' := by
  obtain ⟨b1, b2, b3, b4, b5, b6, b7, b8⟩ := mayB_of h
  have hvs : segsF d l v s = d + v * s := by simp [segsF, h]
  have Hs := hid hvs
  clear hvs h
  go_enter Try.func22, Try.ntmps22
  go_wp2
  go_loop [3, 4] (fun n i => ∃ k : Int, 0 ≤ k ∧ k ≤ v ∧ i = .int .i64 k ∧ n = .int .i64 (d + k * s)) (fun _ i => (v - intOf i).toNat)
  case atStart => exact ⟨0, by omega, by omega, rfl, by simp⟩
  case round =>
    obtain ⟨k, hk0, hk1, rfl, rfl⟩ := hrel
    have hks := mul_bd k s hk0 (by omega) b5 b6
    by_cases hlt : k < v
    · have hks1 := mul_bd (k + 1) s (by omega) (by omega) b5 b6
      have HE : Hid ((k + 1) * s = k * s + s) := by rw [Hid, Int.add_mul]; omega
      rw [HE.out] at hks1
      go_wp2
      go_round
      case rel => exact ⟨k + 1, by omega, by omega, rfl, by rw [HE.out]; go_num⟩
      case measure => simp [intOf]; omega
    · go_wp2
      go_ret
      have : k = v := by omega
      subst this
      exact ⟨ret_int Hs.out.symm, (by repeat (first | exact Kept.refl _ | assumption | refine Kept.alloc ?_ _ | refine Kept.drew ?_ | refine Kept.drewN ?_ _ | refine Kept.setCell ?_ (by simp; try omega) _ | refine Kept.trans ?_ (by assumption)))⟩


end Go.Proofs.Ytnpkoncflplpiaa
