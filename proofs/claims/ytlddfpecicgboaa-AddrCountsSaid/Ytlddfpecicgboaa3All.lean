/- ref.All: the first 600 places of a geometry, in order. -/
import Derived.Test.Ytlddfpecicgboaa3L5
import Derived.Test.YtlddfpecicgboaaOwn
namespace Go.Proofs.Ytlddfpecicgboaa
open Go.RowKit

/-- the place number i, in the order of the addresses -/
def plV (d s : Int) (i : Nat) : Int := if (i : Int) / 16 < d then -1 else ((i : Int) / 16 - d) / s
def plS (d s : Int) (i : Nat) : Int := if (i : Int) / 16 < d then (i : Int) / 16 else ((i : Int) / 16 - d) % s
def plO (i : Nat) : Int := (i : Int) % 16
def plCells (d s : Int) (n : Nat) : List Value := (List.range n).flatMap fun i => [.int .i64 (plV d s i), .int .i64 (plS d s i), .int .i64 (plO i)]
theorem plCells_succ (d s : Int) (n : Nat) : plCells d s (n + 1) = plCells d s n ++ [.int .i64 (plV d s n), .int .i64 (plS d s n), .int .i64 (plO n)] := by
  simp [plCells, List.range_succ, List.flatMap_append]
theorem plCells_at (d s : Int) (n i : Nat) (h : i < n) : (plCells d s n)[3 * i]? = some (.int .i64 (plV d s i)) ∧ (plCells d s n)[3 * i + 1]? = some (.int .i64 (plS d s i)) ∧ (plCells d s n)[3 * i + 2]? = some (.int .i64 (plO i)) := by
  induction n with
  | zero => omega
  | succ n ih =>
    have hl : ∀ m, (plCells d s m).length = 3 * m := by
      intro m; induction m with
      | zero => rfl
      | succ m ihm => rw [plCells_succ]; simp [ihm]; omega
    rw [plCells_succ]
    by_cases e : i = n
    · subst e
      refine ⟨?_, ?_, ?_⟩
      · rw [List.getElem?_append_right (by rw [hl]; omega)]; simp [hl]
      · rw [List.getElem?_append_right (by rw [hl]; omega)]; simp [hl]
      · rw [List.getElem?_append_right (by rw [hl]; omega)]; simp [hl]
    · have hi : i < n := by omega
      have := ih hi
      refine ⟨?_, ?_, ?_⟩
      · rw [List.getElem?_append_left (by rw [hl]; omega)]; exact this.1
      · rw [List.getElem?_append_left (by rw [hl]; omega)]; exact this.2.1
      · rw [List.getElem?_append_left (by rw [hl]; omega)]; exact this.2.2

theorem pl_disk (d s m o : Int) (n : Nat) (hm0 : 0 ≤ m) (hm : m < d) (ho0 : 0 ≤ o) (ho : o < 16) (hn : (n : Int) = 16 * m + o) :
    plV d s n = -1 ∧ plS d s n = m ∧ plO n = o := by
  have e : (n : Int) / 16 = m := by omega
  refine ⟨?_, ?_, ?_⟩
  · unfold plV; rw [e, if_pos hm]
  · unfold plS; rw [e, if_pos hm]
  · unfold plO; omega
theorem pl_vol (d s k m o : Int) (n : Nat) (hs : 1 ≤ s) (hd : 0 ≤ d) (hk : 0 ≤ k) (hm0 : 0 ≤ m) (hm : m < s) (ho0 : 0 ≤ o) (ho : o < 16) (hn : (n : Int) = 16 * (d + k * s + m) + o) :
    plV d s n = k ∧ plS d s n = m ∧ plO n = o := by
  have hks : 0 ≤ k * s := Int.mul_nonneg hk (by omega)
  have e : (n : Int) / 16 = d + k * s + m := by omega
  have e2 : d + k * s + m - d = m + k * s := by omega
  refine ⟨?_, ?_, ?_⟩
  · unfold plV; rw [e, if_neg (by omega), e2, Int.add_mul_ediv_right _ _ (by omega), Int.ediv_eq_zero_of_lt hm0 hm]; omega
  · unfold plS; rw [e, if_neg (by omega), e2, Int.add_mul_emod_self_right, Int.emod_eq_of_lt hm0 hm]
  · unfold plO; omega

theorem info_place : (Try.prog.info? 34).map (fun i => (i.zero, i.size, i.bytes)) = some (some (.agg #[.int .i64 0, .int .i64 0, .int .i64 0]), 3, 24) := by kernel_rfl

def AllPost (d l v s : Int) (w : World) (e : Ending) (w' : World) : Prop :=
  ∃ (r : Value) (n : Nat), e = .returned r ∧ (n : Int) = min 600 (16 * segsF d l v s) ∧ w'.ownsRow (w.heap.size + 1) 34 3 r n (plCells d s n) ∧ Kept w w'

set_option maxRecDepth 100000 in
set_option maxHeartbeats 2000000 in
theorem all_any (d l v s : Int) (w : World) (hm : mayB d l v s = true) :
    Calls Try.prog 23 #[.agg #[.int .i64 d, .int .i64 l, .int .i64 v, .int .i64 s], .int .i64 600] w (AllPost d l v s w) := by
  obtain ⟨b1, b2, b3, b4, b5, b6, b7, b8⟩ := mayB_of hm
  have hvs := mul_bd v s b3 b4 b5 b6
  have hs : segsF d l v s = d + v * s := by simp [segsF, hm]
  have Hs := hid hs; clear hs hm
  obtain ⟨W0, hW0⟩ : ∃ W0, W0 = (w.alloc (.cells #[.int .i64 d, .int .i64 l, .int .i64 v, .int .i64 s] 23)) := ⟨_, rfl⟩
  have hz0 : W0.heap.size = w.heap.size + 1 := by rw [hW0]; simp
  have Hz0 := hid hz0
  have g0 : W0.cell? ⟨w.heap.size, 0, none⟩ = some (.int .i64 d) := by rw [hW0]; simp [go_sem]
  have g1 : W0.cell? ⟨w.heap.size, 1, none⟩ = some (.int .i64 l) := by rw [hW0]; simp [go_sem]
  have g2 : W0.cell? ⟨w.heap.size, 2, none⟩ = some (.int .i64 v) := by rw [hW0]; simp [go_sem]
  have g3 : W0.cell? ⟨w.heap.size, 3, none⟩ = some (.int .i64 s) := by rw [hW0]; simp [go_sem]
  have HW := hid (show Kept w W0 from by rw [hW0]; exact (Kept.refl _).alloc _)
  have HW0 := hid hW0
  clear hW0 hz0
  go_enter Try.func23, Try.ntmps23
  go_wp2
  rw [← HW0.out]
  go_loopw [5, 6] (fun r i wr => ∃ (k : Int) (n : Nat), -1 ≤ k ∧ k ≤ v ∧ i = .int .i64 k ∧ (n : Int) = 16 * (if k = -1 then 0 else d + k * s) ∧ n ≤ 600 ∧ wr.ownsRow W0.heap.size 34 3 r n (plCells d s n) ∧ Kept W0 wr)
    (fun _ i _ => (v - intOf i).toNat)
  case atStart => exact ⟨-1, 0, by omega, by omega, rfl, by simp, by omega, World.ownsRow_nil _ _ _ _, Kept.refl _⟩
  case round =>
    obtain ⟨k, n, hk0, hk1, rfl, hn, hn6, hown, hkr⟩ := hrel
    have r0 := hkr.keeps g0
    have r2 := hkr.keeps g2
    have r3 := hkr.keeps g3
    obtain ⟨wo, rfl⟩ : ∃ wo : World, wo = wr := ⟨_, rfl⟩
    have Hn := hid hn; clear hn
    by_cases hlt : k < v
    · rcases (show k = -1 ∨ 0 ≤ k from by omega) with rfl | hk2
      · have HE : Hid (d + (-1 + 1) * s = d) := by rw [Hid]; simp
        go_wp2
        go_loopw [5, 8] (fun r i wr => ∃ (m : Int) (n : Nat), 0 ≤ m ∧ m ≤ d ∧ i = .int .i64 m ∧ (n : Int) = 16 * (0 + m) ∧ n ≤ 600 ∧ wr.ownsRow W0.heap.size 34 3 r n (plCells d s n) ∧ Kept W0 wr)
          (fun _ i _ => (d - intOf i).toNat)
        case atStart => exact ⟨0, n, by omega, by omega, rfl, by have := Hn.out; simp at this ⊢; omega, hn6, hown, hkr⟩
        case round =>
          obtain ⟨m, n1, hm0, hm1, rfl, hn1, hn16, hown1, hkr1⟩ := hrel
          have Hn1 := hid hn1; clear hn1
          obtain ⟨wp, rfl⟩ : ∃ wp : World, wp = wr := ⟨_, rfl⟩
          by_cases hlt1 : m < d
          · go_wp2
            go_loopw [5, 9] (fun r i wr => ∃ (o : Int) (n : Nat), 0 ≤ o ∧ o ≤ 16 ∧ i = .int .i64 o ∧ (n : Int) = 16 * (0 + m) + o ∧ n ≤ 600 ∧ wr.ownsRow W0.heap.size 34 3 r n (plCells d s n) ∧ Kept W0 wr)
              (fun _ i _ => (16 - intOf i).toNat)
            case atStart => exact ⟨0, n1, by omega, by omega, rfl, by have := Hn1.out; omega, hn16, hown1, hkr1⟩
            case round =>
              obtain ⟨o, n2, ho0, ho1, rfl, hn2, hn26, hown2, hkr2⟩ := hrel
              have Hn2 := hid hn2; clear hn2
              by_cases hlt2 : o < 16
              · obtain ⟨A, c, rfl⟩ := ownsRow_shape hown2
                by_cases hfull : (600 : Int) ≤ n2
                · go_wp2
                  go_ret
                  exact ⟨_, n2, rfl, by rw [Hs.out]; have := Hn2.out; have := Hn2.out; omega, ownsRow_base hown2 (by have := Hz0.out; omega), HW.out.trans hkr2⟩
                · have hpl := pl_disk d s m o n2 hm0 hlt1 ho0 hlt2 (by have := Hn2.out; omega)
                  have HP := hid hpl; clear hpl
                  go_wp2_with (at_builtin; refine wpList_push (W := W0) rfl (.tmp 36) (.tmp 41) 43 rfl 34 _ 3 24 Try.underlying43 info_place rfl (by decide) (by decide) _ n2 _ [.int .i64 (-1), .int .i64 m, .int .i64 o] _ rfl hown2 rfl rfl (by simp [Value.oneCell']) (by omega) hkr2 ?_; intro v3 w3 hown3 hkr3)
                  go_roundw
                  case rel => exact ⟨o + 1, n2 + 1, by omega, by omega, by go_num, by have := Hn2.out; omega, by omega, by rw [plCells_succ, HP.out.1, HP.out.2.1, HP.out.2.2]; exact hown3, hkr3⟩
                  case measure => simp [intOf]; omega
              · go_wp2
                go_roundw
                case rel => exact ⟨m + 1, n2, by omega, by omega, by go_num, by have := Hn2.out; omega, hn26, hown2, hkr2⟩
                case measure => simp [intOf]; omega
          · go_wp2
            go_roundw
            case rel => exact ⟨0, n1, by omega, by omega, by go_num, by have := Hn1.out; simp; omega, hn16, hown1, hkr1⟩
            case measure => simp [intOf]; omega
      · have hks := mul_bd k s hk2 (by omega) b5 b6
        have hks1 := mul_bd (k + 1) s (by omega) (by omega) b5 b6
        have HE : Hid ((k + 1) * s = k * s + s) := by rw [Hid, Int.add_mul]; omega
        have HKV : Hid ((k + 1) * s ≤ v * s) := Int.mul_le_mul_of_nonneg_right (by omega) (by omega)
        have HD : Hid (16 * (if k = -1 then 0 else d + k * s) = 16 * (d + k * s)) := by rw [Hid, if_neg (by omega)]
        have Hn := hid (Hn.out.trans HD.out)
        go_wp2
        go_loopw [5, 8] (fun r i wr => ∃ (m : Int) (n : Nat), 0 ≤ m ∧ m ≤ s ∧ i = .int .i64 m ∧ (n : Int) = 16 * ((d + k * s) + m) ∧ n ≤ 600 ∧ wr.ownsRow W0.heap.size 34 3 r n (plCells d s n) ∧ Kept W0 wr)
          (fun _ i _ => (s - intOf i).toNat)
        case atStart => exact ⟨0, n, by omega, by omega, rfl, by have := Hn.out; simp at this ⊢; omega, hn6, hown, hkr⟩
        case round =>
          obtain ⟨m, n1, hm0, hm1, rfl, hn1, hn16, hown1, hkr1⟩ := hrel
          have Hn1 := hid hn1; clear hn1
          obtain ⟨wp, rfl⟩ : ∃ wp : World, wp = wr := ⟨_, rfl⟩
          by_cases hlt1 : m < s
          · go_wp2
            go_loopw [5, 9] (fun r i wr => ∃ (o : Int) (n : Nat), 0 ≤ o ∧ o ≤ 16 ∧ i = .int .i64 o ∧ (n : Int) = 16 * ((d + k * s) + m) + o ∧ n ≤ 600 ∧ wr.ownsRow W0.heap.size 34 3 r n (plCells d s n) ∧ Kept W0 wr)
              (fun _ i _ => (16 - intOf i).toNat)
            case atStart => exact ⟨0, n1, by omega, by omega, rfl, by have := Hn1.out; omega, hn16, hown1, hkr1⟩
            case round =>
              obtain ⟨o, n2, ho0, ho1, rfl, hn2, hn26, hown2, hkr2⟩ := hrel
              have Hn2 := hid hn2; clear hn2
              by_cases hlt2 : o < 16
              · obtain ⟨A, c, rfl⟩ := ownsRow_shape hown2
                by_cases hfull : (600 : Int) ≤ n2
                · go_wp2
                  go_ret
                  exact ⟨_, n2, rfl, by rw [Hs.out]; have := Hn2.out; have := HE.out; have := HKV.out; omega, ownsRow_base hown2 (by have := Hz0.out; omega), HW.out.trans hkr2⟩
                · have hpl := pl_vol d s k m o n2 b5 (by omega) hk2 hm0 hlt1 ho0 hlt2 (by have := Hn2.out; omega)
                  have HP := hid hpl; clear hpl
                  go_wp2_with (at_builtin; refine wpList_push (W := W0) rfl (.tmp 36) (.tmp 41) 43 rfl 34 _ 3 24 Try.underlying43 info_place rfl (by decide) (by decide) _ n2 _ [.int .i64 k, .int .i64 m, .int .i64 o] _ rfl hown2 rfl rfl (by simp [Value.oneCell']) (by omega) hkr2 ?_; intro v3 w3 hown3 hkr3)
                  go_roundw
                  case rel => exact ⟨o + 1, n2 + 1, by omega, by omega, by go_num, by have := Hn2.out; omega, by omega, by rw [plCells_succ, HP.out.1, HP.out.2.1, HP.out.2.2]; exact hown3, hkr3⟩
                  case measure => simp [intOf]; omega
              · go_wp2
                go_roundw
                case rel => exact ⟨m + 1, n2, by omega, by omega, by go_num, by have := Hn2.out; omega, hn26, hown2, hkr2⟩
                case measure => simp [intOf]; omega
          · go_wp2
            go_roundw
            case rel => exact ⟨k + 1, n1, by omega, by omega, by go_num, by have := Hn1.out; have := HE.out; rw [if_neg (by omega)]; omega, hn16, hown1, hkr1⟩
            case measure => simp [intOf]; omega
    · have : k = v := by omega
      subst this
      go_wp2
      go_ret
      exact ⟨_, n, rfl, by rw [Hs.out]; have := Hn.out; rw [if_neg (by omega)] at this; omega, ownsRow_base hown (by have := Hz0.out; omega), HW.out.trans hkr⟩
end Go.Proofs.Ytlddfpecicgboaa
