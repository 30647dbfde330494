/- UsageFrees: the walk. -/
import Derived.Test.Ytnpkoncflplpiaa15Q
import Derived.Deep.RegionHeld3
import Derived.Deep.Cut
namespace Go.Proofs.Ytnpkoncflplpiaa
set_option linter.unusedSimpArgs false
set_option linter.unusedVariables false
open Go.RowKit

/-- few: the slice itself, cut -/
theorem few_val (A : Option Addr) (m c m' : Nat) (w : World) (h1 : m ≤ c) (h2 : c ≤ 9223372036854775807) (hm' : m' = min m 60) : Calls Try.prog 7 #[.slice A m c] w fun e w' => e = .returned (.slice A m' c) ∧ w = w' := by
  by_cases hl : 60 < m
  · have hl' : (60 : Int) < (m : Int) := by omega
    have hc60 : 60 ≤ c := by omega
    obtain rfl : m' = 60 := by omega
    clear hm'
    go_enter Try.func7, Try.ntmps7
    go_wp2
    go_ret
    exact ⟨rfl, rfl⟩
  · have hl' : ¬ (60 : Int) < (m : Int) := by omega
    obtain rfl : m' = m := by omega
    clear hm' hl
    go_enter Try.func7, Try.ntmps7
    go_wp2
    go_ret
    exact ⟨rfl, rfl⟩
theorem take_min (L : List Int) : L.take (min L.length 60) = L.take 60 := by
  rw [Nat.min_comm, ← List.take_take, List.take_of_length_le (l := L) (by omega)]

set_option maxRecDepth 100000 in
set_option maxHeartbeats 2000000 in
theorem usage_frees_walk (d l v s fr : Int) (L : List Int) (vu vb : Value) (n : Nat) (f g : Nat → Int) (w : World) (hU : Uses w vu n f g) (hL : Ints w vb L) (hLr : ∀ j, j < L.length → -9223372036854775808 ≤ L.getD j 0 ∧ L.getD j 0 ≤ 9223372036854775807) :
    Calls Try.prog 4 #[.agg #[.int .i64 d, .int .i64 l, .int .i64 v, .int .i64 s, vu, vb, .int .i64 fr]] w fun e w' => e = .returned (.bool true) ∧ Kept w w' := by
  have HUS := hid uses_any
  have HU := hid hU; have HLI := hid hL
  obtain ⟨A, c, rfl⟩ := hU.shape
  obtain ⟨A', c', rfl⟩ := hL.shape
  have HLT : Hid (Ints w (.slice A' (min L.length 60) c') (L.take 60)) := by have := hL.take (min L.length 60) (by omega); rw [take_min] at this; exact hid this
  obtain ⟨-, hl1, hl2⟩ := hL.len
  obtain ⟨m', hm'⟩ : ∃ m', m' = min L.length 60 := ⟨_, rfl⟩
  rw [← hm'] at HLT
  have HF := hid (fun w => few_val A' L.length c' m' w hl1 hl2 hm')
  generalize hm : L.length = m at *
  clear hU hL
  have HLR := hid hLr
  have HLN := hid hm
  clear hLr hm hm' hl1 hl2
  go_enter Try.func4, Try.ntmps4
  go_wp2
  obtain ⟨H, hH⟩ : ∃ H, H = w.heap.size := ⟨_, rfl⟩
  obtain ⟨W1, hW1⟩ : ∃ W1 : World, W1 = w.alloc (.cells #[.int .i64 d, .int .i64 l, .int .i64 v, .int .i64 s, .slice A n c, .slice A' m c', .int .i64 fr] 36) := ⟨_, rfl⟩
  have KW : Kept w W1 := by rw [hW1]; exact (Kept.refl w).alloc _
  have c0 : W1.cell? ⟨H, 0, none⟩ = some (.int .i64 d) := by rw [hW1, hH]; simp [go_sem]
  have c1 : W1.cell? ⟨H, 1, none⟩ = some (.int .i64 l) := by rw [hW1, hH]; simp [go_sem]
  have c2 : W1.cell? ⟨H, 2, none⟩ = some (.int .i64 v) := by rw [hW1, hH]; simp [go_sem]
  have c3 : W1.cell? ⟨H, 3, none⟩ = some (.int .i64 s) := by rw [hW1, hH]; simp [go_sem]
  have c4 : W1.cell? ⟨H, 4, none⟩ = some (.slice A n c) := by rw [hW1, hH]; simp [go_sem]
  have c5 : W1.cell? ⟨H, 5, none⟩ = some (.slice A' m c') := by rw [hW1, hH]; simp [go_sem]
  have c6 : W1.cell? ⟨H, 6, none⟩ = some (.int .i64 fr) := by rw [hW1, hH]; simp [go_sem]
  rw [← hW1, ← hH]
  have HK := hid KW
  have HS := hid (fun (w' : World) (hk : Kept W1 w') => (⟨hk, hk.keeps c0, hk.keeps c1, hk.keeps c2, hk.keeps c3, hk.keeps c4, hk.keeps c5, hk.keeps c6⟩ : Kept W1 w' ∧ w'.cell? ⟨H, 0, none⟩ = some (.int .i64 d) ∧ w'.cell? ⟨H, 1, none⟩ = some (.int .i64 l) ∧ w'.cell? ⟨H, 2, none⟩ = some (.int .i64 v) ∧ w'.cell? ⟨H, 3, none⟩ = some (.int .i64 s) ∧ w'.cell? ⟨H, 4, none⟩ = some (.slice A n c) ∧ w'.cell? ⟨H, 5, none⟩ = some (.slice A' m c') ∧ w'.cell? ⟨H, 6, none⟩ = some (.int .i64 fr)))
  clear hW1 hH KW
  go_cut [3, 4, 5, 6] from 8 (fun p3 v4 v5 v6 w' => (∃ B, p3 = .pointer (some ⟨B, 0, none⟩) ∧ w'.cell? ⟨B, 0, none⟩ = some (.int .i64 d) ∧ w'.cell? ⟨B, 1, none⟩ = some (.int .i64 l) ∧ w'.cell? ⟨B, 2, none⟩ = some (.int .i64 v) ∧ w'.cell? ⟨B, 3, none⟩ = some (.int .i64 s)) ∧
    Uses w' v4 (min n 2400) (fun k => clampU (f k)) g ∧ Ints w' v5 (L.take 60) ∧ v6 = .int .i64 fr ∧ Kept w w')
  case first =>
    go_region_held3 (fun w' => Kept W1 w' ∧ w'.cell? ⟨H, 0, none⟩ = some (.int .i64 d) ∧ w'.cell? ⟨H, 1, none⟩ = some (.int .i64 l) ∧ w'.cell? ⟨H, 2, none⟩ = some (.int .i64 v) ∧ w'.cell? ⟨H, 3, none⟩ = some (.int .i64 s) ∧ w'.cell? ⟨H, 4, none⟩ = some (.slice A n c) ∧ w'.cell? ⟨H, 5, none⟩ = some (.slice A' m c') ∧ w'.cell? ⟨H, 6, none⟩ = some (.int .i64 fr))
      (first | exact HS.out _ (Kept.refl _) | (go_split_ands; exact HS.out _ (by repeat (first | exact Kept.refl _ | assumption | refine Kept.alloc ?_ _ | refine Kept.drew ?_ | refine Kept.drewN ?_ _ | refine Kept.setCell ?_ (by simp; try omega) _ | refine Kept.trans ?_ (by assumption)))))
      (first
      | (go_at_call 12; refine (HUS.out _ n f g _ (Kept.uses (HK.out.trans (show Kept W1 _ from (by repeat (first | exact Kept.refl _ | assumption | refine Kept.alloc ?_ _ | refine Kept.drew ?_ | refine Kept.drewN ?_ _ | refine Kept.setCell ?_ (by simp; try omega) _ | refine Kept.trans ?_ (by assumption))))) HU.out)).mono ?_; rintro e w2 ⟨vq, rfl, hq, k2⟩; have HQ := hid hq; have sz2 := k2.size; (first | ((obtain z0 : w2.cell? ⟨W1.heap.size, 0, none⟩ = some (.int .i64 0); focus (refine k2.keeps ?_; simp [go_sem]; done)); (obtain y0 : w2.frozen? ⟨W1.heap.size, 0, none⟩ = false; focus (refine k2.free (v := .int .i64 0) ?_ ?_ <;> (simp [go_sem]; done))); (obtain z1 : w2.cell? ⟨W1.heap.size, 1, none⟩ = some (.int .i64 0); focus (refine k2.keeps ?_; simp [go_sem]; done)); (obtain y1 : w2.frozen? ⟨W1.heap.size, 1, none⟩ = false; focus (refine k2.free (v := .int .i64 0) ?_ ?_ <;> (simp [go_sem]; done))); (obtain z2 : w2.cell? ⟨W1.heap.size, 2, none⟩ = some (.int .i64 0); focus (refine k2.keeps ?_; simp [go_sem]; done)); (obtain y2 : w2.frozen? ⟨W1.heap.size, 2, none⟩ = false; focus (refine k2.free (v := .int .i64 0) ?_ ?_ <;> (simp [go_sem]; done))); (obtain z3 : w2.cell? ⟨W1.heap.size, 3, none⟩ = some (.int .i64 0); focus (refine k2.keeps ?_; simp [go_sem]; done)); (obtain y3 : w2.frozen? ⟨W1.heap.size, 3, none⟩ = false; focus (refine k2.free (v := .int .i64 0) ?_ ?_ <;> (simp [go_sem]; done)))) | ((obtain z0 : w2.cell? ⟨W1.heap.size, 0, none⟩ = some (.int .i64 d); focus (refine k2.keeps ?_; simp [go_sem]; done)); (obtain z1 : w2.cell? ⟨W1.heap.size, 1, none⟩ = some (.int .i64 l); focus (refine k2.keeps ?_; simp [go_sem]; done)); (obtain z2 : w2.cell? ⟨W1.heap.size, 2, none⟩ = some (.int .i64 v); focus (refine k2.keeps ?_; simp [go_sem]; done)); (obtain z3 : w2.cell? ⟨W1.heap.size, 3, none⟩ = some (.int .i64 s); focus (refine k2.keeps ?_; simp [go_sem]; done))) | skip))
      | (go_at_call 7; refine (HF.out _).mono ?_; rintro e w1 ⟨rfl, rfl⟩))
    all_goals (
      go_wp2_with fail
      go_meet
      refine ⟨⟨_, rfl, by simp [go_sem, *], by simp [go_sem, *], by simp [go_sem, *], by simp [go_sem, *]⟩, ?_, Kept.ints (w := w) (HK.out.trans (show Kept W1 _ from (by repeat (first | exact Kept.refl _ | assumption | refine Kept.alloc ?_ _ | refine Kept.drew ?_ | refine Kept.drewN ?_ _ | refine Kept.setCell ?_ (by simp; try omega) _ | refine Kept.trans ?_ (by assumption))))) HLT.out, rfl, HK.out.trans (show Kept W1 _ from (by repeat (first | exact Kept.refl _ | assumption | refine Kept.alloc ?_ _ | refine Kept.drew ?_ | refine Kept.drewN ?_ _ | refine Kept.setCell ?_ (by simp; try omega) _ | refine Kept.trans ?_ (by assumption))))⟩
      first | (refine uses_own (base := W1.heap.size + 1) (e := 54) ?_; (repeat (first | ((with_reducible refine ownsRow_base HQ.out ?_); simp; done) | (with_reducible refine ownsRow_setCell_below ?_ (Nat.lt_succ_self _) _) | (with_reducible refine World.ownsRow.alloc ?_ _) | (with_reducible refine World.ownsRow.drew ?_))); done) | (refine uses_own (base := W1.heap.size) (e := 54) ?_; (repeat (first | ((with_reducible refine ownsRow_base HQ.out ?_); simp; done) | fail | (with_reducible refine World.ownsRow.alloc ?_ _) | (with_reducible refine World.ownsRow.drew ?_))); done))
  case rest =>
    obtain ⟨⟨B, rfl, g0, g1, g2, g3⟩, hU4, hL4, rfl, hKc⟩ := hcut
    obtain ⟨A4, c4, rfl⟩ := hU4.shape
    obtain ⟨A5, c5, rfl⟩ := hL4.shape
    have HU4 := hid hU4; have HL4 := hid hL4; have HKc := hid hKc
    have hfr : ∀ k, k < min n 2400 → -9223372036854775808 ≤ clampU (f k) ∧ clampU (f k) ≤ 9223372036854775807 := fun k _ => by unfold clampU; split <;> omega
    have hlr : ∀ j, j < (L.take 60).length → -9223372036854775808 ≤ (L.take 60).getD j 0 ∧ (L.take 60).getD j 0 ≤ 9223372036854775807 := fun j hj => by
      rw [List.length_take] at hj
      have h := HLR.out j (by rw [← HLN.out]; omega)
      rwa [List.getD_eq_getElem?_getD, List.getElem?_take, if_pos (by omega), ← List.getD_eq_getElem?_getD]
    have HF1 := hid (fun x w' h1 h2 => free_any d l v s fr x (.slice A5 (L.take 60).length c5) (min n 2400) (fun k => clampU (f k)) g (L.take 60) w' h1 h2 hlr hfr)
    have HF2 := hid (fun x w' h1 h2 => rfree_any d l v s fr x (.slice A5 (L.take 60).length c5) (min n 2400) (fun k => clampU (f k)) g (L.take 60) w' h1 h2)
    have hl60 : (L.take 60).length ≤ 60 := by rw [List.length_take]; omega
    clear hU4 hL4 hKc hfr hlr HLR HF HUS
    generalize freeAns d l v s (min n 2400) (fun k => clampU (f k)) (L.take 60) fr = Q at *
    generalize L.take 60 = L' at *
    have HAW := hid awake_any
    generalize hm' : L'.length = m'' at *
    have HM := hid hm'
    clear hm'
    go_wp2_with (at_builtin; refine wpList_append_ints (W := wc) rfl (.tmp 18) (.tmp 19) rfl (.slice (some ⟨wc.heap.size, 0, none⟩) 0 0) 0 [] L' _ rfl (World.ownsRow_made wc _ 0 (Nat.le_refl _) (by decide) (by simp)) rfl ((Hid.out HL4).alloc _) (by rw [HM.out]; omega) ((Kept.refl _).alloc _) ?_; intro v1 w1 hown1 hk1 hv1; clear hv1)
    have hv1 := (ints_own hown1).1
    rw [List.nil_append] at hv1
    have HV1 := hid hv1
    clear hown1 hv1
    have z0 := hk1.keeps g0
    have z1 := hk1.keeps g1
    have z2 := hk1.keeps g2
    have z3 := hk1.keeps g3
    have HS := hid (fun (w' : World) (hk : Kept w1 w') => (⟨hk, hk.keeps z0, hk.keeps z1, hk.keeps z2, hk.keeps z3⟩ : Kept w1 w' ∧ w'.cell? ⟨B, 0, none⟩ = some (.int .i64 d) ∧ w'.cell? ⟨B, 1, none⟩ = some (.int .i64 l) ∧ w'.cell? ⟨B, 2, none⟩ = some (.int .i64 v) ∧ w'.cell? ⟨B, 3, none⟩ = some (.int .i64 s)))
    have HK1 := hid hk1
    clear g0 g1 g2 g3 hk1
    go_region_held3 (fun w' => Kept w1 w' ∧ w'.cell? ⟨B, 0, none⟩ = some (.int .i64 d) ∧ w'.cell? ⟨B, 1, none⟩ = some (.int .i64 l) ∧ w'.cell? ⟨B, 2, none⟩ = some (.int .i64 v) ∧ w'.cell? ⟨B, 3, none⟩ = some (.int .i64 s))
      (first | exact HS.out _ (Kept.refl _) | (go_split_ands; exact HS.out _ (by repeat (first | exact Kept.refl _ | assumption | refine Kept.alloc ?_ _ | refine Kept.drew ?_ | refine Kept.drewN ?_ _ | refine Kept.setCell ?_ (by simp; try omega) _ | refine Kept.trans ?_ (by assumption)))))
      (first
      | (go_at_call 14; refine (HF1.out _ _ (Kept.uses (HK1.out.trans (show Kept w1 _ from (by repeat (first | exact Kept.refl _ | assumption | refine Kept.alloc ?_ _ | refine Kept.drew ?_ | refine Kept.drewN ?_ _ | refine Kept.setCell ?_ (by simp; try omega) _ | refine Kept.trans ?_ (by assumption))))) HU4.out) (Kept.ints (HK1.out.trans (show Kept w1 _ from (by repeat (first | exact Kept.refl _ | assumption | refine Kept.alloc ?_ _ | refine Kept.drew ?_ | refine Kept.drewN ?_ _ | refine Kept.setCell ?_ (by simp; try omega) _ | refine Kept.trans ?_ (by assumption))))) HL4.out)).mono ?_; rintro e w2 ⟨x, rfl, hx, k2⟩; have HX := hid hx; clear hx)
      | (go_at_call 15; refine (HF2.out _ _ (Kept.uses (HK1.out.trans (show Kept w1 _ from (by repeat (first | exact Kept.refl _ | assumption | refine Kept.alloc ?_ _ | refine Kept.drew ?_ | refine Kept.drewN ?_ _ | refine Kept.setCell ?_ (by simp; try omega) _ | refine Kept.trans ?_ (by assumption))))) HU4.out) (Kept.ints (HK1.out.trans (show Kept w1 _ from (by repeat (first | exact Kept.refl _ | assumption | refine Kept.alloc ?_ _ | refine Kept.drew ?_ | refine Kept.drewN ?_ _ | refine Kept.setCell ?_ (by simp; try omega) _ | refine Kept.trans ?_ (by assumption))))) HL4.out)).mono ?_; rintro e w3 ⟨y, rfl, hy, k3⟩; have HY := hid hy; clear hy)
      | (go_at_call 13; (with_reducible refine (same_at x y Q _ (Kept.ints ?_ HX.out) (Kept.ints ?_ HY.out)).mono ?_); exact (by repeat (first | exact Kept.refl _ | assumption | refine Kept.alloc ?_ _ | refine Kept.drew ?_ | refine Kept.drewN ?_ _ | refine Kept.setCell ?_ (by simp; try omega) _ | refine Kept.trans ?_ (by assumption))); exact (by repeat (first | exact Kept.refl _ | assumption | refine Kept.alloc ?_ _ | refine Kept.drew ?_ | refine Kept.drewN ?_ _ | refine Kept.setCell ?_ (by simp; try omega) _ | refine Kept.trans ?_ (by assumption))); rintro e w4 ⟨rfl, k4⟩)
      | (go_at_call 13; (with_reducible refine (same_at v1 _ L' _ (Kept.ints ?_ HV1.out) (Kept.ints ?_ HL4.out)).mono ?_); exact (by repeat (first | exact Kept.refl _ | assumption | refine Kept.alloc ?_ _ | refine Kept.drew ?_ | refine Kept.drewN ?_ _ | refine Kept.setCell ?_ (by simp; try omega) _ | refine Kept.trans ?_ (by assumption))); exact (HK1.out.trans (by repeat (first | exact Kept.refl _ | assumption | refine Kept.alloc ?_ _ | refine Kept.drew ?_ | refine Kept.drewN ?_ _ | refine Kept.setCell ?_ (by simp; try omega) _ | refine Kept.trans ?_ (by assumption)))); rintro e w5 ⟨rfl, k5⟩)
      | (go_at_call 11; refine (HAW.out _).mono ?_; rintro e w6 ⟨rfl, k6⟩))
    all_goals (
      go_wp2_with fail
      go_ret
      exact ⟨rfl, (HKc.out.trans HK1.out).trans (by repeat (first | exact Kept.refl _ | assumption | refine Kept.alloc ?_ _ | refine Kept.drew ?_ | refine Kept.drewN ?_ _ | refine Kept.setCell ?_ (by simp; try omega) _ | refine Kept.trans ?_ (by assumption)))⟩)
theorem usage_frees_at {w : World} (d l v s fr : Int) (vu : Value) (n : Nat) (f g : Nat → Int) (hU : Uses w vu n f g) (L : List Int) (vb : Value) (hL : Ints w vb L) (hLr : ∀ j, j < L.length → -9223372036854775808 ≤ L.getD j 0 ∧ L.getD j 0 ≤ 9223372036854775807) (_ : World) :
    Calls Try.prog 4 #[.agg #[.int .i64 d, .int .i64 l, .int .i64 v, .int .i64 s, vu, vb, .int .i64 fr]] w fun e w' => e = .returned (.bool true) ∧ Kept w w' :=
  usage_frees_walk d l v s fr L vu vb n f g w hU hL hLr
end Go.Proofs.Ytnpkoncflplpiaa
