/- reach.Count, haymowref08.Count: how many nodes are on the paths to the first blocks. -/
import Derived.Test.YtcloijjiemlbdaaDoor8Num
namespace Go.Proofs.YtcloijjiemlbdaaDoor
set_option linter.unusedSimpArgs false
set_option linter.unusedVariables false
open Go.RowKit

def preC (i : Int) : Int := if i ≤ 6 then i else if i = 7 then 21 else if i = 8 then 246 else 3621
/-- how many nodes are counted ahead of pointer i -/
def totC (n i : Int) : Int :=
  (if i ≤ 6 then 0 else (min (max (n - 6) 0) 15 + 14) / 15) + (if i ≤ 7 then 0 else (min (max (n - 21) 0) 225 + 224) / 225 + (min (max (n - 21) 0) 225 + 14) / 15) +
  (if i ≤ 8 then 0 else (min (max (n - 246) 0) 3375 + 3374) / 3375 + (min (max (n - 246) 0) 3375 + 224) / 225 + (min (max (n - 246) 0) 3375 + 14) / 15)
def cntF (n : Int) : Int := totC (min (max n 0) 3621) 9

set_option maxRecDepth 100000 in
set_option maxHeartbeats 2000000 in
theorem count_in (n : Int) (h0 : 0 ≤ n) (h1 : n ≤ 3621) (w : World) (ht : Tab w) : Calls Tryd.prog 9 #[.int .i64 n] w fun e w' => e = .returned (.int .i64 (totC n 9)) ∧ w = w' := by
  obtain ⟨t0, t1, t2, t3, t4, t5, t6, t7, t8⟩ := ht
  go_enter Tryd.func9, Tryd.ntmps9
  go_wp2
  go_loop [0, 3, 11] (fun x y t => ∃ i m T : Int, 0 ≤ i ∧ i ≤ 9 ∧ 0 ≤ m ∧ m ≤ 3621 ∧ 0 ≤ T ∧ T ≤ 10000 ∧ t = .int .i64 i ∧ x = .int .i64 m ∧ y = .int .i64 T ∧ m = max (n - preC i) 0 ∧ T = totC n i) (fun _ _ t => (9 - intOf t).toNat)
  case atStart => exact ⟨0, n, 0, by omega, by omega, h0, h1, by omega, by omega, rfl, rfl, rfl, by simp [preC]; omega, by simp [totC]⟩
  case round =>
    obtain ⟨i, m, T, hi0, hi9, hm0, hm1, hT0, hT1, rfl, rfl, rfl, hm, hT⟩ := hrel
    have HM := hid hm; have HT := hid hT; clear hm hT
    by_cases hlt : i < 9
    · rcases (show i = 0 ∨ i = 1 ∨ i = 2 ∨ i = 3 ∨ i = 4 ∨ i = 5 ∨ i = 6 ∨ i = 7 ∨ i = 8 from by omega) with rfl | rfl | rfl | rfl | rfl | rfl | rfl | rfl | rfl
      · have hix := idx0
        have e1 : m = max (n - 0) 0 := HM.out
        have hTt : T + 0 = totC n 1 := by
          rw [HT.out]; simp only [totC]; first | (simp; done) | (simp; omega)
        have hTb : 0 ≤ totC n 1 ∧ totC n 1 ≤ 10000 := by simp only [totC]; first | (simp; done) | (simp; omega)
        have HTt := hid hTt; have HE := hid e1; have HTb := hid hTb; clear hTt e1 hTb
        by_cases hc : m ≤ 1
        · go_wp2
          refine wp_loop_rounds 1 ?_
          rw [rounds_succ]
          go_wp2
          go_round
          case rel => exact ⟨1, _, _, by omega, by omega, by omega, by omega, by have := HTb.out; have := HTt.out; omega, by have := HTb.out; have := HTt.out; omega, rfl, rfl, rfl, by rw [show preC 1 = 1 from by decide]; have := HE.out; omega, by have := HTt.out; omega⟩
          case measure => simp [intOf]
        · go_wp2
          refine wp_loop_rounds 1 ?_
          rw [rounds_succ]
          go_wp2
          go_round
          case rel => exact ⟨1, _, _, by omega, by omega, by omega, by omega, by have := HTb.out; have := HTt.out; omega, by have := HTb.out; have := HTt.out; omega, rfl, rfl, rfl, by rw [show preC 1 = 1 from by decide]; have := HE.out; omega, by have := HTt.out; omega⟩
          case measure => simp [intOf]
      · have hix := idx1
        have e1 : m = max (n - 1) 0 := HM.out
        have hTt : T + 0 = totC n 2 := by
          rw [HT.out]; simp only [totC]; first | (simp; done) | (simp; omega)
        have hTb : 0 ≤ totC n 2 ∧ totC n 2 ≤ 10000 := by simp only [totC]; first | (simp; done) | (simp; omega)
        have HTt := hid hTt; have HE := hid e1; have HTb := hid hTb; clear hTt e1 hTb
        by_cases hc : m ≤ 1
        · go_wp2
          refine wp_loop_rounds 1 ?_
          rw [rounds_succ]
          go_wp2
          go_round
          case rel => exact ⟨2, _, _, by omega, by omega, by omega, by omega, by have := HTb.out; have := HTt.out; omega, by have := HTb.out; have := HTt.out; omega, rfl, rfl, rfl, by rw [show preC 2 = 2 from by decide]; have := HE.out; omega, by have := HTt.out; omega⟩
          case measure => simp [intOf]
        · go_wp2
          refine wp_loop_rounds 1 ?_
          rw [rounds_succ]
          go_wp2
          go_round
          case rel => exact ⟨2, _, _, by omega, by omega, by omega, by omega, by have := HTb.out; have := HTt.out; omega, by have := HTb.out; have := HTt.out; omega, rfl, rfl, rfl, by rw [show preC 2 = 2 from by decide]; have := HE.out; omega, by have := HTt.out; omega⟩
          case measure => simp [intOf]
      · have hix := idx2
        have e1 : m = max (n - 2) 0 := HM.out
        have hTt : T + 0 = totC n 3 := by
          rw [HT.out]; simp only [totC]; first | (simp; done) | (simp; omega)
        have hTb : 0 ≤ totC n 3 ∧ totC n 3 ≤ 10000 := by simp only [totC]; first | (simp; done) | (simp; omega)
        have HTt := hid hTt; have HE := hid e1; have HTb := hid hTb; clear hTt e1 hTb
        by_cases hc : m ≤ 1
        · go_wp2
          refine wp_loop_rounds 1 ?_
          rw [rounds_succ]
          go_wp2
          go_round
          case rel => exact ⟨3, _, _, by omega, by omega, by omega, by omega, by have := HTb.out; have := HTt.out; omega, by have := HTb.out; have := HTt.out; omega, rfl, rfl, rfl, by rw [show preC 3 = 3 from by decide]; have := HE.out; omega, by have := HTt.out; omega⟩
          case measure => simp [intOf]
        · go_wp2
          refine wp_loop_rounds 1 ?_
          rw [rounds_succ]
          go_wp2
          go_round
          case rel => exact ⟨3, _, _, by omega, by omega, by omega, by omega, by have := HTb.out; have := HTt.out; omega, by have := HTb.out; have := HTt.out; omega, rfl, rfl, rfl, by rw [show preC 3 = 3 from by decide]; have := HE.out; omega, by have := HTt.out; omega⟩
          case measure => simp [intOf]
      · have hix := idx3
        have e1 : m = max (n - 3) 0 := HM.out
        have hTt : T + 0 = totC n 4 := by
          rw [HT.out]; simp only [totC]; first | (simp; done) | (simp; omega)
        have hTb : 0 ≤ totC n 4 ∧ totC n 4 ≤ 10000 := by simp only [totC]; first | (simp; done) | (simp; omega)
        have HTt := hid hTt; have HE := hid e1; have HTb := hid hTb; clear hTt e1 hTb
        by_cases hc : m ≤ 1
        · go_wp2
          refine wp_loop_rounds 1 ?_
          rw [rounds_succ]
          go_wp2
          go_round
          case rel => exact ⟨4, _, _, by omega, by omega, by omega, by omega, by have := HTb.out; have := HTt.out; omega, by have := HTb.out; have := HTt.out; omega, rfl, rfl, rfl, by rw [show preC 4 = 4 from by decide]; have := HE.out; omega, by have := HTt.out; omega⟩
          case measure => simp [intOf]
        · go_wp2
          refine wp_loop_rounds 1 ?_
          rw [rounds_succ]
          go_wp2
          go_round
          case rel => exact ⟨4, _, _, by omega, by omega, by omega, by omega, by have := HTb.out; have := HTt.out; omega, by have := HTb.out; have := HTt.out; omega, rfl, rfl, rfl, by rw [show preC 4 = 4 from by decide]; have := HE.out; omega, by have := HTt.out; omega⟩
          case measure => simp [intOf]
      · have hix := idx4
        have e1 : m = max (n - 4) 0 := HM.out
        have hTt : T + 0 = totC n 5 := by
          rw [HT.out]; simp only [totC]; first | (simp; done) | (simp; omega)
        have hTb : 0 ≤ totC n 5 ∧ totC n 5 ≤ 10000 := by simp only [totC]; first | (simp; done) | (simp; omega)
        have HTt := hid hTt; have HE := hid e1; have HTb := hid hTb; clear hTt e1 hTb
        by_cases hc : m ≤ 1
        · go_wp2
          refine wp_loop_rounds 1 ?_
          rw [rounds_succ]
          go_wp2
          go_round
          case rel => exact ⟨5, _, _, by omega, by omega, by omega, by omega, by have := HTb.out; have := HTt.out; omega, by have := HTb.out; have := HTt.out; omega, rfl, rfl, rfl, by rw [show preC 5 = 5 from by decide]; have := HE.out; omega, by have := HTt.out; omega⟩
          case measure => simp [intOf]
        · go_wp2
          refine wp_loop_rounds 1 ?_
          rw [rounds_succ]
          go_wp2
          go_round
          case rel => exact ⟨5, _, _, by omega, by omega, by omega, by omega, by have := HTb.out; have := HTt.out; omega, by have := HTb.out; have := HTt.out; omega, rfl, rfl, rfl, by rw [show preC 5 = 5 from by decide]; have := HE.out; omega, by have := HTt.out; omega⟩
          case measure => simp [intOf]
      · have hix := idx5
        have e1 : m = max (n - 5) 0 := HM.out
        have hTt : T + 0 = totC n 6 := by
          rw [HT.out]; simp only [totC]; first | (simp; done) | (simp; omega)
        have hTb : 0 ≤ totC n 6 ∧ totC n 6 ≤ 10000 := by simp only [totC]; first | (simp; done) | (simp; omega)
        have HTt := hid hTt; have HE := hid e1; have HTb := hid hTb; clear hTt e1 hTb
        by_cases hc : m ≤ 1
        · go_wp2
          refine wp_loop_rounds 1 ?_
          rw [rounds_succ]
          go_wp2
          go_round
          case rel => exact ⟨6, _, _, by omega, by omega, by omega, by omega, by have := HTb.out; have := HTt.out; omega, by have := HTb.out; have := HTt.out; omega, rfl, rfl, rfl, by rw [show preC 6 = 6 from by decide]; have := HE.out; omega, by have := HTt.out; omega⟩
          case measure => simp [intOf]
        · go_wp2
          refine wp_loop_rounds 1 ?_
          rw [rounds_succ]
          go_wp2
          go_round
          case rel => exact ⟨6, _, _, by omega, by omega, by omega, by omega, by have := HTb.out; have := HTt.out; omega, by have := HTb.out; have := HTt.out; omega, rfl, rfl, rfl, by rw [show preC 6 = 6 from by decide]; have := HE.out; omega, by have := HTt.out; omega⟩
          case measure => simp [intOf]
      · have hix := idx6
        have e1 : m = max (n - 6) 0 := HM.out
        have hTt : T + (min m 15 + 14) / 15 = totC n 7 := by
          rw [HT.out]; simp only [totC]; first | (simp; done) | (simp; omega)
        have hTb : 0 ≤ totC n 7 ∧ totC n 7 ≤ 10000 := by simp only [totC]; first | (simp; done) | (simp; omega)
        have HTt := hid hTt; have HE := hid e1; have HTb := hid hTb; clear hTt e1 hTb
        by_cases hc : m ≤ 15
        · go_wp2
          refine wp_loop_rounds 2 ?_
          rw [rounds_succ]
          go_wp2
          rw [rounds_succ]
          go_wp2
          go_round
          case rel => exact ⟨7, _, _, by omega, by omega, by omega, by omega, by have := HTb.out; have := HTt.out; omega, by have := HTb.out; have := HTt.out; omega, rfl, rfl, rfl, by rw [show preC 7 = 21 from by decide]; have := HE.out; omega, by have := HTt.out; omega⟩
          case measure => simp [intOf]
        · go_wp2
          refine wp_loop_rounds 2 ?_
          rw [rounds_succ]
          go_wp2
          rw [rounds_succ]
          go_wp2
          go_round
          case rel => exact ⟨7, _, _, by omega, by omega, by omega, by omega, by have := HTb.out; have := HTt.out; omega, by have := HTb.out; have := HTt.out; omega, rfl, rfl, rfl, by rw [show preC 7 = 21 from by decide]; have := HE.out; omega, by have := HTt.out; omega⟩
          case measure => simp [intOf]
      · have hix := idx7
        have e1 : m = max (n - 21) 0 := HM.out
        have hTt : T + (min m 225 + 224) / 225 + (min m 225 + 14) / 15 = totC n 8 := by
          rw [HT.out]; simp only [totC]; first | (simp; done) | (simp; omega)
        have hTb : 0 ≤ totC n 8 ∧ totC n 8 ≤ 10000 := by simp only [totC]; first | (simp; done) | (simp; omega)
        have HTt := hid hTt; have HE := hid e1; have HTb := hid hTb; clear hTt e1 hTb
        by_cases hc : m ≤ 225
        · go_wp2
          refine wp_loop_rounds 3 ?_
          rw [rounds_succ]
          go_wp2
          rw [rounds_succ]
          go_wp2
          rw [rounds_succ]
          go_wp2
          go_round
          case rel => exact ⟨8, _, _, by omega, by omega, by omega, by omega, by have := HTb.out; have := HTt.out; omega, by have := HTb.out; have := HTt.out; omega, rfl, rfl, rfl, by rw [show preC 8 = 246 from by decide]; have := HE.out; omega, by have := HTt.out; omega⟩
          case measure => simp [intOf]
        · go_wp2
          refine wp_loop_rounds 3 ?_
          rw [rounds_succ]
          go_wp2
          rw [rounds_succ]
          go_wp2
          rw [rounds_succ]
          go_wp2
          go_round
          case rel => exact ⟨8, _, _, by omega, by omega, by omega, by omega, by have := HTb.out; have := HTt.out; omega, by have := HTb.out; have := HTt.out; omega, rfl, rfl, rfl, by rw [show preC 8 = 246 from by decide]; have := HE.out; omega, by have := HTt.out; omega⟩
          case measure => simp [intOf]
      · have hix := idx8
        have e1 : m = max (n - 246) 0 := HM.out
        have hTt : T + (min m 3375 + 3374) / 3375 + (min m 3375 + 224) / 225 + (min m 3375 + 14) / 15 = totC n 9 := by
          rw [HT.out]; simp only [totC]; first | (simp; done) | (simp; omega)
        have hTb : 0 ≤ totC n 9 ∧ totC n 9 ≤ 10000 := by simp only [totC]; first | (simp; done) | (simp; omega)
        have HTt := hid hTt; have HE := hid e1; have HTb := hid hTb; clear hTt e1 hTb
        by_cases hc : m ≤ 3375
        · go_wp2
          refine wp_loop_rounds 4 ?_
          rw [rounds_succ]
          go_wp2
          rw [rounds_succ]
          go_wp2
          rw [rounds_succ]
          go_wp2
          rw [rounds_succ]
          go_wp2
          go_round
          case rel => exact ⟨9, _, _, by omega, by omega, by omega, by omega, by have := HTb.out; have := HTt.out; omega, by have := HTb.out; have := HTt.out; omega, rfl, rfl, rfl, by rw [show preC 9 = 3621 from by decide]; have := HE.out; omega, by have := HTt.out; omega⟩
          case measure => simp [intOf]
        · go_wp2
          refine wp_loop_rounds 4 ?_
          rw [rounds_succ]
          go_wp2
          rw [rounds_succ]
          go_wp2
          rw [rounds_succ]
          go_wp2
          rw [rounds_succ]
          go_wp2
          go_round
          case rel => exact ⟨9, _, _, by omega, by omega, by omega, by omega, by have := HTb.out; have := HTt.out; omega, by have := HTb.out; have := HTt.out; omega, rfl, rfl, rfl, by rw [show preC 9 = 3621 from by decide]; have := HE.out; omega, by have := HTt.out; omega⟩
          case measure => simp [intOf]
    · obtain rfl : i = 9 := by omega
      go_wp2
      go_ret
      exact ⟨ret_int HT.out, rfl⟩

set_option maxRecDepth 100000 in
set_option maxHeartbeats 2000000 in
theorem count_lo (q n : Int) (hq : q < 0) (hn : n = 0) (w : World) (ht : Tab w) : Calls Tryd.prog 9 #[.int .i64 q] w fun e w' => e = .returned (.int .i64 (totC n 9)) ∧ w = w' := by
  have Hn := hid hn; clear hn
  have h0 : 0 ≤ n := by have := Hn.out; omega
  have h1 : n ≤ 3621 := by have := Hn.out; omega
  obtain ⟨t0, t1, t2, t3, t4, t5, t6, t7, t8⟩ := ht
  go_enter Tryd.func9, Tryd.ntmps9
  go_wp2
  go_loop [0, 3, 11] (fun x y t => ∃ i m T : Int, 0 ≤ i ∧ i ≤ 9 ∧ 0 ≤ m ∧ m ≤ 3621 ∧ 0 ≤ T ∧ T ≤ 10000 ∧ t = .int .i64 i ∧ x = .int .i64 m ∧ y = .int .i64 T ∧ m = max (n - preC i) 0 ∧ T = totC n i) (fun _ _ t => (9 - intOf t).toNat)
  case atStart => exact ⟨0, 0, 0, by omega, by omega, by omega, by omega, by omega, by omega, rfl, rfl, rfl, by rw [show preC 0 = 0 from by decide]; have := Hn.out; omega, by simp [totC]⟩
  case round =>
    obtain ⟨i, m, T, hi0, hi9, hm0, hm1, hT0, hT1, rfl, rfl, rfl, hm, hT⟩ := hrel
    have HM := hid hm; have HT := hid hT; clear hm hT
    by_cases hlt : i < 9
    · rcases (show i = 0 ∨ i = 1 ∨ i = 2 ∨ i = 3 ∨ i = 4 ∨ i = 5 ∨ i = 6 ∨ i = 7 ∨ i = 8 from by omega) with rfl | rfl | rfl | rfl | rfl | rfl | rfl | rfl | rfl
      · have hix := idx0
        have e1 : m = max (n - 0) 0 := HM.out
        have hTt : T + 0 = totC n 1 := by
          rw [HT.out]; simp only [totC]; first | (simp; done) | (simp; omega)
        have hTb : 0 ≤ totC n 1 ∧ totC n 1 ≤ 10000 := by simp only [totC]; first | (simp; done) | (simp; omega)
        have HTt := hid hTt; have HE := hid e1; have HTb := hid hTb; clear hTt e1 hTb
        by_cases hc : m ≤ 1
        · go_wp2
          refine wp_loop_rounds 1 ?_
          rw [rounds_succ]
          go_wp2
          go_round
          case rel => exact ⟨1, _, _, by omega, by omega, by omega, by omega, by have := HTb.out; have := HTt.out; omega, by have := HTb.out; have := HTt.out; omega, rfl, rfl, rfl, by rw [show preC 1 = 1 from by decide]; have := HE.out; omega, by have := HTt.out; omega⟩
          case measure => simp [intOf]
        · go_wp2
          refine wp_loop_rounds 1 ?_
          rw [rounds_succ]
          go_wp2
          go_round
          case rel => exact ⟨1, _, _, by omega, by omega, by omega, by omega, by have := HTb.out; have := HTt.out; omega, by have := HTb.out; have := HTt.out; omega, rfl, rfl, rfl, by rw [show preC 1 = 1 from by decide]; have := HE.out; omega, by have := HTt.out; omega⟩
          case measure => simp [intOf]
      · have hix := idx1
        have e1 : m = max (n - 1) 0 := HM.out
        have hTt : T + 0 = totC n 2 := by
          rw [HT.out]; simp only [totC]; first | (simp; done) | (simp; omega)
        have hTb : 0 ≤ totC n 2 ∧ totC n 2 ≤ 10000 := by simp only [totC]; first | (simp; done) | (simp; omega)
        have HTt := hid hTt; have HE := hid e1; have HTb := hid hTb; clear hTt e1 hTb
        by_cases hc : m ≤ 1
        · go_wp2
          refine wp_loop_rounds 1 ?_
          rw [rounds_succ]
          go_wp2
          go_round
          case rel => exact ⟨2, _, _, by omega, by omega, by omega, by omega, by have := HTb.out; have := HTt.out; omega, by have := HTb.out; have := HTt.out; omega, rfl, rfl, rfl, by rw [show preC 2 = 2 from by decide]; have := HE.out; omega, by have := HTt.out; omega⟩
          case measure => simp [intOf]
        · go_wp2
          refine wp_loop_rounds 1 ?_
          rw [rounds_succ]
          go_wp2
          go_round
          case rel => exact ⟨2, _, _, by omega, by omega, by omega, by omega, by have := HTb.out; have := HTt.out; omega, by have := HTb.out; have := HTt.out; omega, rfl, rfl, rfl, by rw [show preC 2 = 2 from by decide]; have := HE.out; omega, by have := HTt.out; omega⟩
          case measure => simp [intOf]
      · have hix := idx2
        have e1 : m = max (n - 2) 0 := HM.out
        have hTt : T + 0 = totC n 3 := by
          rw [HT.out]; simp only [totC]; first | (simp; done) | (simp; omega)
        have hTb : 0 ≤ totC n 3 ∧ totC n 3 ≤ 10000 := by simp only [totC]; first | (simp; done) | (simp; omega)
        have HTt := hid hTt; have HE := hid e1; have HTb := hid hTb; clear hTt e1 hTb
        by_cases hc : m ≤ 1
        · go_wp2
          refine wp_loop_rounds 1 ?_
          rw [rounds_succ]
          go_wp2
          go_round
          case rel => exact ⟨3, _, _, by omega, by omega, by omega, by omega, by have := HTb.out; have := HTt.out; omega, by have := HTb.out; have := HTt.out; omega, rfl, rfl, rfl, by rw [show preC 3 = 3 from by decide]; have := HE.out; omega, by have := HTt.out; omega⟩
          case measure => simp [intOf]
        · go_wp2
          refine wp_loop_rounds 1 ?_
          rw [rounds_succ]
          go_wp2
          go_round
          case rel => exact ⟨3, _, _, by omega, by omega, by omega, by omega, by have := HTb.out; have := HTt.out; omega, by have := HTb.out; have := HTt.out; omega, rfl, rfl, rfl, by rw [show preC 3 = 3 from by decide]; have := HE.out; omega, by have := HTt.out; omega⟩
          case measure => simp [intOf]
      · have hix := idx3
        have e1 : m = max (n - 3) 0 := HM.out
        have hTt : T + 0 = totC n 4 := by
          rw [HT.out]; simp only [totC]; first | (simp; done) | (simp; omega)
        have hTb : 0 ≤ totC n 4 ∧ totC n 4 ≤ 10000 := by simp only [totC]; first | (simp; done) | (simp; omega)
        have HTt := hid hTt; have HE := hid e1; have HTb := hid hTb; clear hTt e1 hTb
        by_cases hc : m ≤ 1
        · go_wp2
          refine wp_loop_rounds 1 ?_
          rw [rounds_succ]
          go_wp2
          go_round
          case rel => exact ⟨4, _, _, by omega, by omega, by omega, by omega, by have := HTb.out; have := HTt.out; omega, by have := HTb.out; have := HTt.out; omega, rfl, rfl, rfl, by rw [show preC 4 = 4 from by decide]; have := HE.out; omega, by have := HTt.out; omega⟩
          case measure => simp [intOf]
        · go_wp2
          refine wp_loop_rounds 1 ?_
          rw [rounds_succ]
          go_wp2
          go_round
          case rel => exact ⟨4, _, _, by omega, by omega, by omega, by omega, by have := HTb.out; have := HTt.out; omega, by have := HTb.out; have := HTt.out; omega, rfl, rfl, rfl, by rw [show preC 4 = 4 from by decide]; have := HE.out; omega, by have := HTt.out; omega⟩
          case measure => simp [intOf]
      · have hix := idx4
        have e1 : m = max (n - 4) 0 := HM.out
        have hTt : T + 0 = totC n 5 := by
          rw [HT.out]; simp only [totC]; first | (simp; done) | (simp; omega)
        have hTb : 0 ≤ totC n 5 ∧ totC n 5 ≤ 10000 := by simp only [totC]; first | (simp; done) | (simp; omega)
        have HTt := hid hTt; have HE := hid e1; have HTb := hid hTb; clear hTt e1 hTb
        by_cases hc : m ≤ 1
        · go_wp2
          refine wp_loop_rounds 1 ?_
          rw [rounds_succ]
          go_wp2
          go_round
          case rel => exact ⟨5, _, _, by omega, by omega, by omega, by omega, by have := HTb.out; have := HTt.out; omega, by have := HTb.out; have := HTt.out; omega, rfl, rfl, rfl, by rw [show preC 5 = 5 from by decide]; have := HE.out; omega, by have := HTt.out; omega⟩
          case measure => simp [intOf]
        · go_wp2
          refine wp_loop_rounds 1 ?_
          rw [rounds_succ]
          go_wp2
          go_round
          case rel => exact ⟨5, _, _, by omega, by omega, by omega, by omega, by have := HTb.out; have := HTt.out; omega, by have := HTb.out; have := HTt.out; omega, rfl, rfl, rfl, by rw [show preC 5 = 5 from by decide]; have := HE.out; omega, by have := HTt.out; omega⟩
          case measure => simp [intOf]
      · have hix := idx5
        have e1 : m = max (n - 5) 0 := HM.out
        have hTt : T + 0 = totC n 6 := by
          rw [HT.out]; simp only [totC]; first | (simp; done) | (simp; omega)
        have hTb : 0 ≤ totC n 6 ∧ totC n 6 ≤ 10000 := by simp only [totC]; first | (simp; done) | (simp; omega)
        have HTt := hid hTt; have HE := hid e1; have HTb := hid hTb; clear hTt e1 hTb
        by_cases hc : m ≤ 1
        · go_wp2
          refine wp_loop_rounds 1 ?_
          rw [rounds_succ]
          go_wp2
          go_round
          case rel => exact ⟨6, _, _, by omega, by omega, by omega, by omega, by have := HTb.out; have := HTt.out; omega, by have := HTb.out; have := HTt.out; omega, rfl, rfl, rfl, by rw [show preC 6 = 6 from by decide]; have := HE.out; omega, by have := HTt.out; omega⟩
          case measure => simp [intOf]
        · go_wp2
          refine wp_loop_rounds 1 ?_
          rw [rounds_succ]
          go_wp2
          go_round
          case rel => exact ⟨6, _, _, by omega, by omega, by omega, by omega, by have := HTb.out; have := HTt.out; omega, by have := HTb.out; have := HTt.out; omega, rfl, rfl, rfl, by rw [show preC 6 = 6 from by decide]; have := HE.out; omega, by have := HTt.out; omega⟩
          case measure => simp [intOf]
      · have hix := idx6
        have e1 : m = max (n - 6) 0 := HM.out
        have hTt : T + (min m 15 + 14) / 15 = totC n 7 := by
          rw [HT.out]; simp only [totC]; first | (simp; done) | (simp; omega)
        have hTb : 0 ≤ totC n 7 ∧ totC n 7 ≤ 10000 := by simp only [totC]; first | (simp; done) | (simp; omega)
        have HTt := hid hTt; have HE := hid e1; have HTb := hid hTb; clear hTt e1 hTb
        by_cases hc : m ≤ 15
        · go_wp2
          refine wp_loop_rounds 2 ?_
          rw [rounds_succ]
          go_wp2
          rw [rounds_succ]
          go_wp2
          go_round
          case rel => exact ⟨7, _, _, by omega, by omega, by omega, by omega, by have := HTb.out; have := HTt.out; omega, by have := HTb.out; have := HTt.out; omega, rfl, rfl, rfl, by rw [show preC 7 = 21 from by decide]; have := HE.out; omega, by have := HTt.out; omega⟩
          case measure => simp [intOf]
        · go_wp2
          refine wp_loop_rounds 2 ?_
          rw [rounds_succ]
          go_wp2
          rw [rounds_succ]
          go_wp2
          go_round
          case rel => exact ⟨7, _, _, by omega, by omega, by omega, by omega, by have := HTb.out; have := HTt.out; omega, by have := HTb.out; have := HTt.out; omega, rfl, rfl, rfl, by rw [show preC 7 = 21 from by decide]; have := HE.out; omega, by have := HTt.out; omega⟩
          case measure => simp [intOf]
      · have hix := idx7
        have e1 : m = max (n - 21) 0 := HM.out
        have hTt : T + (min m 225 + 224) / 225 + (min m 225 + 14) / 15 = totC n 8 := by
          rw [HT.out]; simp only [totC]; first | (simp; done) | (simp; omega)
        have hTb : 0 ≤ totC n 8 ∧ totC n 8 ≤ 10000 := by simp only [totC]; first | (simp; done) | (simp; omega)
        have HTt := hid hTt; have HE := hid e1; have HTb := hid hTb; clear hTt e1 hTb
        by_cases hc : m ≤ 225
        · go_wp2
          refine wp_loop_rounds 3 ?_
          rw [rounds_succ]
          go_wp2
          rw [rounds_succ]
          go_wp2
          rw [rounds_succ]
          go_wp2
          go_round
          case rel => exact ⟨8, _, _, by omega, by omega, by omega, by omega, by have := HTb.out; have := HTt.out; omega, by have := HTb.out; have := HTt.out; omega, rfl, rfl, rfl, by rw [show preC 8 = 246 from by decide]; have := HE.out; omega, by have := HTt.out; omega⟩
          case measure => simp [intOf]
        · go_wp2
          refine wp_loop_rounds 3 ?_
          rw [rounds_succ]
          go_wp2
          rw [rounds_succ]
          go_wp2
          rw [rounds_succ]
          go_wp2
          go_round
          case rel => exact ⟨8, _, _, by omega, by omega, by omega, by omega, by have := HTb.out; have := HTt.out; omega, by have := HTb.out; have := HTt.out; omega, rfl, rfl, rfl, by rw [show preC 8 = 246 from by decide]; have := HE.out; omega, by have := HTt.out; omega⟩
          case measure => simp [intOf]
      · have hix := idx8
        have e1 : m = max (n - 246) 0 := HM.out
        have hTt : T + (min m 3375 + 3374) / 3375 + (min m 3375 + 224) / 225 + (min m 3375 + 14) / 15 = totC n 9 := by
          rw [HT.out]; simp only [totC]; first | (simp; done) | (simp; omega)
        have hTb : 0 ≤ totC n 9 ∧ totC n 9 ≤ 10000 := by simp only [totC]; first | (simp; done) | (simp; omega)
        have HTt := hid hTt; have HE := hid e1; have HTb := hid hTb; clear hTt e1 hTb
        by_cases hc : m ≤ 3375
        · go_wp2
          refine wp_loop_rounds 4 ?_
          rw [rounds_succ]
          go_wp2
          rw [rounds_succ]
          go_wp2
          rw [rounds_succ]
          go_wp2
          rw [rounds_succ]
          go_wp2
          go_round
          case rel => exact ⟨9, _, _, by omega, by omega, by omega, by omega, by have := HTb.out; have := HTt.out; omega, by have := HTb.out; have := HTt.out; omega, rfl, rfl, rfl, by rw [show preC 9 = 3621 from by decide]; have := HE.out; omega, by have := HTt.out; omega⟩
          case measure => simp [intOf]
        · go_wp2
          refine wp_loop_rounds 4 ?_
          rw [rounds_succ]
          go_wp2
          rw [rounds_succ]
          go_wp2
          rw [rounds_succ]
          go_wp2
          rw [rounds_succ]
          go_wp2
          go_round
          case rel => exact ⟨9, _, _, by omega, by omega, by omega, by omega, by have := HTb.out; have := HTt.out; omega, by have := HTb.out; have := HTt.out; omega, rfl, rfl, rfl, by rw [show preC 9 = 3621 from by decide]; have := HE.out; omega, by have := HTt.out; omega⟩
          case measure => simp [intOf]
    · obtain rfl : i = 9 := by omega
      go_wp2
      go_ret
      exact ⟨ret_int HT.out, rfl⟩

set_option maxRecDepth 100000 in
set_option maxHeartbeats 2000000 in
theorem count_hi (q n : Int) (hq : 3621 < q) (hn : n = 3621) (w : World) (ht : Tab w) : Calls Tryd.prog 9 #[.int .i64 q] w fun e w' => e = .returned (.int .i64 (totC n 9)) ∧ w = w' := by
  have Hn := hid hn; clear hn
  have h0 : 0 ≤ n := by have := Hn.out; omega
  have h1 : n ≤ 3621 := by have := Hn.out; omega
  obtain ⟨t0, t1, t2, t3, t4, t5, t6, t7, t8⟩ := ht
  go_enter Tryd.func9, Tryd.ntmps9
  go_wp2
  go_loop [0, 3, 11] (fun x y t => ∃ i m T : Int, 0 ≤ i ∧ i ≤ 9 ∧ 0 ≤ m ∧ m ≤ 3621 ∧ 0 ≤ T ∧ T ≤ 10000 ∧ t = .int .i64 i ∧ x = .int .i64 m ∧ y = .int .i64 T ∧ m = max (n - preC i) 0 ∧ T = totC n i) (fun _ _ t => (9 - intOf t).toNat)
  case atStart => exact ⟨0, 3621, 0, by omega, by omega, by omega, by omega, by omega, by omega, rfl, rfl, rfl, by rw [show preC 0 = 0 from by decide]; have := Hn.out; omega, by simp [totC]⟩
  case round =>
    obtain ⟨i, m, T, hi0, hi9, hm0, hm1, hT0, hT1, rfl, rfl, rfl, hm, hT⟩ := hrel
    have HM := hid hm; have HT := hid hT; clear hm hT
    by_cases hlt : i < 9
    · rcases (show i = 0 ∨ i = 1 ∨ i = 2 ∨ i = 3 ∨ i = 4 ∨ i = 5 ∨ i = 6 ∨ i = 7 ∨ i = 8 from by omega) with rfl | rfl | rfl | rfl | rfl | rfl | rfl | rfl | rfl
      · have hix := idx0
        have e1 : m = max (n - 0) 0 := HM.out
        have hTt : T + 0 = totC n 1 := by
          rw [HT.out]; simp only [totC]; first | (simp; done) | (simp; omega)
        have hTb : 0 ≤ totC n 1 ∧ totC n 1 ≤ 10000 := by simp only [totC]; first | (simp; done) | (simp; omega)
        have HTt := hid hTt; have HE := hid e1; have HTb := hid hTb; clear hTt e1 hTb
        by_cases hc : m ≤ 1
        · go_wp2
          refine wp_loop_rounds 1 ?_
          rw [rounds_succ]
          go_wp2
          go_round
          case rel => exact ⟨1, _, _, by omega, by omega, by omega, by omega, by have := HTb.out; have := HTt.out; omega, by have := HTb.out; have := HTt.out; omega, rfl, rfl, rfl, by rw [show preC 1 = 1 from by decide]; have := HE.out; omega, by have := HTt.out; omega⟩
          case measure => simp [intOf]
        · go_wp2
          refine wp_loop_rounds 1 ?_
          rw [rounds_succ]
          go_wp2
          go_round
          case rel => exact ⟨1, _, _, by omega, by omega, by omega, by omega, by have := HTb.out; have := HTt.out; omega, by have := HTb.out; have := HTt.out; omega, rfl, rfl, rfl, by rw [show preC 1 = 1 from by decide]; have := HE.out; omega, by have := HTt.out; omega⟩
          case measure => simp [intOf]
      · have hix := idx1
        have e1 : m = max (n - 1) 0 := HM.out
        have hTt : T + 0 = totC n 2 := by
          rw [HT.out]; simp only [totC]; first | (simp; done) | (simp; omega)
        have hTb : 0 ≤ totC n 2 ∧ totC n 2 ≤ 10000 := by simp only [totC]; first | (simp; done) | (simp; omega)
        have HTt := hid hTt; have HE := hid e1; have HTb := hid hTb; clear hTt e1 hTb
        by_cases hc : m ≤ 1
        · go_wp2
          refine wp_loop_rounds 1 ?_
          rw [rounds_succ]
          go_wp2
          go_round
          case rel => exact ⟨2, _, _, by omega, by omega, by omega, by omega, by have := HTb.out; have := HTt.out; omega, by have := HTb.out; have := HTt.out; omega, rfl, rfl, rfl, by rw [show preC 2 = 2 from by decide]; have := HE.out; omega, by have := HTt.out; omega⟩
          case measure => simp [intOf]
        · go_wp2
          refine wp_loop_rounds 1 ?_
          rw [rounds_succ]
          go_wp2
          go_round
          case rel => exact ⟨2, _, _, by omega, by omega, by omega, by omega, by have := HTb.out; have := HTt.out; omega, by have := HTb.out; have := HTt.out; omega, rfl, rfl, rfl, by rw [show preC 2 = 2 from by decide]; have := HE.out; omega, by have := HTt.out; omega⟩
          case measure => simp [intOf]
      · have hix := idx2
        have e1 : m = max (n - 2) 0 := HM.out
        have hTt : T + 0 = totC n 3 := by
          rw [HT.out]; simp only [totC]; first | (simp; done) | (simp; omega)
        have hTb : 0 ≤ totC n 3 ∧ totC n 3 ≤ 10000 := by simp only [totC]; first | (simp; done) | (simp; omega)
        have HTt := hid hTt; have HE := hid e1; have HTb := hid hTb; clear hTt e1 hTb
        by_cases hc : m ≤ 1
        · go_wp2
          refine wp_loop_rounds 1 ?_
          rw [rounds_succ]
          go_wp2
          go_round
          case rel => exact ⟨3, _, _, by omega, by omega, by omega, by omega, by have := HTb.out; have := HTt.out; omega, by have := HTb.out; have := HTt.out; omega, rfl, rfl, rfl, by rw [show preC 3 = 3 from by decide]; have := HE.out; omega, by have := HTt.out; omega⟩
          case measure => simp [intOf]
        · go_wp2
          refine wp_loop_rounds 1 ?_
          rw [rounds_succ]
          go_wp2
          go_round
          case rel => exact ⟨3, _, _, by omega, by omega, by omega, by omega, by have := HTb.out; have := HTt.out; omega, by have := HTb.out; have := HTt.out; omega, rfl, rfl, rfl, by rw [show preC 3 = 3 from by decide]; have := HE.out; omega, by have := HTt.out; omega⟩
          case measure => simp [intOf]
      · have hix := idx3
        have e1 : m = max (n - 3) 0 := HM.out
        have hTt : T + 0 = totC n 4 := by
          rw [HT.out]; simp only [totC]; first | (simp; done) | (simp; omega)
        have hTb : 0 ≤ totC n 4 ∧ totC n 4 ≤ 10000 := by simp only [totC]; first | (simp; done) | (simp; omega)
        have HTt := hid hTt; have HE := hid e1; have HTb := hid hTb; clear hTt e1 hTb
        by_cases hc : m ≤ 1
        · go_wp2
          refine wp_loop_rounds 1 ?_
          rw [rounds_succ]
          go_wp2
          go_round
          case rel => exact ⟨4, _, _, by omega, by omega, by omega, by omega, by have := HTb.out; have := HTt.out; omega, by have := HTb.out; have := HTt.out; omega, rfl, rfl, rfl, by rw [show preC 4 = 4 from by decide]; have := HE.out; omega, by have := HTt.out; omega⟩
          case measure => simp [intOf]
        · go_wp2
          refine wp_loop_rounds 1 ?_
          rw [rounds_succ]
          go_wp2
          go_round
          case rel => exact ⟨4, _, _, by omega, by omega, by omega, by omega, by have := HTb.out; have := HTt.out; omega, by have := HTb.out; have := HTt.out; omega, rfl, rfl, rfl, by rw [show preC 4 = 4 from by decide]; have := HE.out; omega, by have := HTt.out; omega⟩
          case measure => simp [intOf]
      · have hix := idx4
        have e1 : m = max (n - 4) 0 := HM.out
        have hTt : T + 0 = totC n 5 := by
          rw [HT.out]; simp only [totC]; first | (simp; done) | (simp; omega)
        have hTb : 0 ≤ totC n 5 ∧ totC n 5 ≤ 10000 := by simp only [totC]; first | (simp; done) | (simp; omega)
        have HTt := hid hTt; have HE := hid e1; have HTb := hid hTb; clear hTt e1 hTb
        by_cases hc : m ≤ 1
        · go_wp2
          refine wp_loop_rounds 1 ?_
          rw [rounds_succ]
          go_wp2
          go_round
          case rel => exact ⟨5, _, _, by omega, by omega, by omega, by omega, by have := HTb.out; have := HTt.out; omega, by have := HTb.out; have := HTt.out; omega, rfl, rfl, rfl, by rw [show preC 5 = 5 from by decide]; have := HE.out; omega, by have := HTt.out; omega⟩
          case measure => simp [intOf]
        · go_wp2
          refine wp_loop_rounds 1 ?_
          rw [rounds_succ]
          go_wp2
          go_round
          case rel => exact ⟨5, _, _, by omega, by omega, by omega, by omega, by have := HTb.out; have := HTt.out; omega, by have := HTb.out; have := HTt.out; omega, rfl, rfl, rfl, by rw [show preC 5 = 5 from by decide]; have := HE.out; omega, by have := HTt.out; omega⟩
          case measure => simp [intOf]
      · have hix := idx5
        have e1 : m = max (n - 5) 0 := HM.out
        have hTt : T + 0 = totC n 6 := by
          rw [HT.out]; simp only [totC]; first | (simp; done) | (simp; omega)
        have hTb : 0 ≤ totC n 6 ∧ totC n 6 ≤ 10000 := by simp only [totC]; first | (simp; done) | (simp; omega)
        have HTt := hid hTt; have HE := hid e1; have HTb := hid hTb; clear hTt e1 hTb
        by_cases hc : m ≤ 1
        · go_wp2
          refine wp_loop_rounds 1 ?_
          rw [rounds_succ]
          go_wp2
          go_round
          case rel => exact ⟨6, _, _, by omega, by omega, by omega, by omega, by have := HTb.out; have := HTt.out; omega, by have := HTb.out; have := HTt.out; omega, rfl, rfl, rfl, by rw [show preC 6 = 6 from by decide]; have := HE.out; omega, by have := HTt.out; omega⟩
          case measure => simp [intOf]
        · go_wp2
          refine wp_loop_rounds 1 ?_
          rw [rounds_succ]
          go_wp2
          go_round
          case rel => exact ⟨6, _, _, by omega, by omega, by omega, by omega, by have := HTb.out; have := HTt.out; omega, by have := HTb.out; have := HTt.out; omega, rfl, rfl, rfl, by rw [show preC 6 = 6 from by decide]; have := HE.out; omega, by have := HTt.out; omega⟩
          case measure => simp [intOf]
      · have hix := idx6
        have e1 : m = max (n - 6) 0 := HM.out
        have hTt : T + (min m 15 + 14) / 15 = totC n 7 := by
          rw [HT.out]; simp only [totC]; first | (simp; done) | (simp; omega)
        have hTb : 0 ≤ totC n 7 ∧ totC n 7 ≤ 10000 := by simp only [totC]; first | (simp; done) | (simp; omega)
        have HTt := hid hTt; have HE := hid e1; have HTb := hid hTb; clear hTt e1 hTb
        by_cases hc : m ≤ 15
        · go_wp2
          refine wp_loop_rounds 2 ?_
          rw [rounds_succ]
          go_wp2
          rw [rounds_succ]
          go_wp2
          go_round
          case rel => exact ⟨7, _, _, by omega, by omega, by omega, by omega, by have := HTb.out; have := HTt.out; omega, by have := HTb.out; have := HTt.out; omega, rfl, rfl, rfl, by rw [show preC 7 = 21 from by decide]; have := HE.out; omega, by have := HTt.out; omega⟩
          case measure => simp [intOf]
        · go_wp2
          refine wp_loop_rounds 2 ?_
          rw [rounds_succ]
          go_wp2
          rw [rounds_succ]
          go_wp2
          go_round
          case rel => exact ⟨7, _, _, by omega, by omega, by omega, by omega, by have := HTb.out; have := HTt.out; omega, by have := HTb.out; have := HTt.out; omega, rfl, rfl, rfl, by rw [show preC 7 = 21 from by decide]; have := HE.out; omega, by have := HTt.out; omega⟩
          case measure => simp [intOf]
      · have hix := idx7
        have e1 : m = max (n - 21) 0 := HM.out
        have hTt : T + (min m 225 + 224) / 225 + (min m 225 + 14) / 15 = totC n 8 := by
          rw [HT.out]; simp only [totC]; first | (simp; done) | (simp; omega)
        have hTb : 0 ≤ totC n 8 ∧ totC n 8 ≤ 10000 := by simp only [totC]; first | (simp; done) | (simp; omega)
        have HTt := hid hTt; have HE := hid e1; have HTb := hid hTb; clear hTt e1 hTb
        by_cases hc : m ≤ 225
        · go_wp2
          refine wp_loop_rounds 3 ?_
          rw [rounds_succ]
          go_wp2
          rw [rounds_succ]
          go_wp2
          rw [rounds_succ]
          go_wp2
          go_round
          case rel => exact ⟨8, _, _, by omega, by omega, by omega, by omega, by have := HTb.out; have := HTt.out; omega, by have := HTb.out; have := HTt.out; omega, rfl, rfl, rfl, by rw [show preC 8 = 246 from by decide]; have := HE.out; omega, by have := HTt.out; omega⟩
          case measure => simp [intOf]
        · go_wp2
          refine wp_loop_rounds 3 ?_
          rw [rounds_succ]
          go_wp2
          rw [rounds_succ]
          go_wp2
          rw [rounds_succ]
          go_wp2
          go_round
          case rel => exact ⟨8, _, _, by omega, by omega, by omega, by omega, by have := HTb.out; have := HTt.out; omega, by have := HTb.out; have := HTt.out; omega, rfl, rfl, rfl, by rw [show preC 8 = 246 from by decide]; have := HE.out; omega, by have := HTt.out; omega⟩
          case measure => simp [intOf]
      · have hix := idx8
        have e1 : m = max (n - 246) 0 := HM.out
        have hTt : T + (min m 3375 + 3374) / 3375 + (min m 3375 + 224) / 225 + (min m 3375 + 14) / 15 = totC n 9 := by
          rw [HT.out]; simp only [totC]; first | (simp; done) | (simp; omega)
        have hTb : 0 ≤ totC n 9 ∧ totC n 9 ≤ 10000 := by simp only [totC]; first | (simp; done) | (simp; omega)
        have HTt := hid hTt; have HE := hid e1; have HTb := hid hTb; clear hTt e1 hTb
        by_cases hc : m ≤ 3375
        · go_wp2
          refine wp_loop_rounds 4 ?_
          rw [rounds_succ]
          go_wp2
          rw [rounds_succ]
          go_wp2
          rw [rounds_succ]
          go_wp2
          rw [rounds_succ]
          go_wp2
          go_round
          case rel => exact ⟨9, _, _, by omega, by omega, by omega, by omega, by have := HTb.out; have := HTt.out; omega, by have := HTb.out; have := HTt.out; omega, rfl, rfl, rfl, by rw [show preC 9 = 3621 from by decide]; have := HE.out; omega, by have := HTt.out; omega⟩
          case measure => simp [intOf]
        · go_wp2
          refine wp_loop_rounds 4 ?_
          rw [rounds_succ]
          go_wp2
          rw [rounds_succ]
          go_wp2
          rw [rounds_succ]
          go_wp2
          rw [rounds_succ]
          go_wp2
          go_round
          case rel => exact ⟨9, _, _, by omega, by omega, by omega, by omega, by have := HTb.out; have := HTt.out; omega, by have := HTb.out; have := HTt.out; omega, rfl, rfl, rfl, by rw [show preC 9 = 3621 from by decide]; have := HE.out; omega, by have := HTt.out; omega⟩
          case measure => simp [intOf]
    · obtain rfl : i = 9 := by omega
      go_wp2
      go_ret
      exact ⟨ret_int HT.out, rfl⟩


theorem count_any (n : Int) (w : World) (ht : Tab w) : Calls Tryd.prog 9 #[.int .i64 n] w fun e w' => e = .returned (.int .i64 (cntF n)) ∧ w = w' := by
  unfold cntF
  by_cases h0 : n < 0
  · rw [show min (max n 0) 3621 = 0 by omega]; exact count_lo n 0 h0 rfl w ht
  · by_cases h1 : n ≤ 3621
    · rw [show min (max n 0) 3621 = n by omega]; exact count_in n (by omega) h1 w ht
    · rw [show min (max n 0) 3621 = 3621 by omega]; exact count_hi n 3621 (by omega) rfl w ht
end Go.Proofs.YtcloijjiemlbdaaDoor
