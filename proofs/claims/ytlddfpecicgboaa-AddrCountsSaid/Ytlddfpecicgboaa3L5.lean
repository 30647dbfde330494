/- AddrTiers: the walk. -/
import Derived.Test.Ytlddfpecicgboaa3L4
namespace Go.Proofs.Ytlddfpecicgboaa
open Go.RowKit

/-- behind some rounds: the geometry's box and the three counts -/
def TS (w : World) (NB : Nat) (d l v s x y z : Int) (wr : World) : Prop :=
  Kept w wr ∧ w.heap.size < NB ∧ wr.cell? ⟨w.heap.size, 0, none⟩ = some (.int .i64 d) ∧ wr.cell? ⟨w.heap.size, 1, none⟩ = some (.int .i64 l) ∧ wr.cell? ⟨w.heap.size, 2, none⟩ = some (.int .i64 v) ∧
  wr.cell? ⟨w.heap.size, 3, none⟩ = some (.int .i64 s) ∧ wr.cell? ⟨NB, 0, none⟩ = some (.int .i64 x) ∧ wr.cell? ⟨NB, 1, none⟩ = some (.int .i64 y) ∧ wr.cell? ⟨NB, 2, none⟩ = some (.int .i64 z) ∧
  wr.frozen? ⟨NB, 0, none⟩ = false ∧ wr.frozen? ⟨NB, 1, none⟩ = false ∧ wr.frozen? ⟨NB, 2, none⟩ = false
theorem TS.keep {w wr wa : World} {NB : Nat} {d l v s x y z : Int} (T : TS w NB d l v s x y z wr) (h : Kept wr wa) : TS w NB d l v s x y z wa := by
  obtain ⟨h1, h2, h3, h4, h5, h6, h7, h8, h9, h10, h11, h12⟩ := T
  exact ⟨h1.trans h, h2, h.keeps h3, h.keeps h4, h.keeps h5, h.keeps h6, h.keeps h7, h.keeps h8, h.keeps h9, h.free h7 h10, h.free h8 h11, h.free h9 h12⟩
theorem TS.set {w wr : World} {NB : Nat} {d l v s x y z : Int} (T : TS w NB d l v s x y z wr) (i : Nat) (hi : i < 3) (u : Int) :
    TS w NB d l v s (if i = 0 then u else x) (if i = 1 then u else y) (if i = 2 then u else z) (wr.setCell ⟨NB, i, none⟩ (.int .i64 u)) := by
  obtain ⟨h1, h2, h3, h4, h5, h6, h7, h8, h9, h10, h11, h12⟩ := T
  have hne : ¬ w.heap.size = NB := by omega
  have hne' : ¬ NB = w.heap.size := by omega
  match i, hi with
  | 0, _ => refine ⟨h1.setCell (by simp; omega) _, h2, ?_, ?_, ?_, ?_, ?_, ?_, ?_, ?_, ?_, ?_⟩ <;> simp [go_sem, *]
  | 1, _ => refine ⟨h1.setCell (by simp; omega) _, h2, ?_, ?_, ?_, ?_, ?_, ?_, ?_, ?_, ?_, ?_⟩ <;> simp [go_sem, *]
  | 2, _ => refine ⟨h1.setCell (by simp; omega) _, h2, ?_, ?_, ?_, ?_, ?_, ?_, ?_, ?_, ?_, ?_⟩ <;> simp [go_sem, *]

set_option maxRecDepth 100000 in
set_option maxHeartbeats 2000000 in
theorem tiers_core (d l v s : Int) (w : World) (hm : mayB d l v s = true) (hd : d ≤ 40) (hvs : v * s ≤ 40) :
    Calls Try.prog 4 #[.agg #[.int .i64 d, .int .i64 l, .int .i64 v, .int .i64 s]] w fun e w' => e = .returned (.bool true) ∧ Kept w w' := by
  obtain ⟨b1, b2, b3, b4, b5, b6, b7, b8⟩ := mayB_of hm
  have hvs0 := (mul_bd v s b3 b4 b5 b6).1
  have hs : segsF d l v s = d + v * s := by simp [segsF, hm]
  have H1 := hid (fun w => may_t d l v s w hm)
  have H2 := hid (blocks_any d l v s)
  have Hs := hid hs
  go_enter Try.func4, Try.ntmps4
  go_wp2_with (go_at_call 11; refine (H1.out _).mono ?_; rintro e w1 ⟨rfl, hw1⟩; have hk : Kept (w.alloc (.cells #[.int .i64 d, .int .i64 l, .int .i64 v, .int .i64 s] 23)) w1 := hw1; have kk0 := hk.keeps (b := w.heap.size) (o := 0) (s := none) (v := .int .i64 d) (by simp [go_sem]); have kk1 := hk.keeps (b := w.heap.size) (o := 1) (s := none) (v := .int .i64 l) (by simp [go_sem]); have kk2 := hk.keeps (b := w.heap.size) (o := 2) (s := none) (v := .int .i64 v) (by simp [go_sem]); have kk3 := hk.keeps (b := w.heap.size) (o := 3) (s := none) (v := .int .i64 s) (by simp [go_sem]))
  have hsz := Kept.size hk
  go_loopw [4, 5] (fun la i wr => ∃ k t x y z : Int, 0 ≤ k ∧ k ≤ 16 * (d + v * s) ∧ i = .int .i64 (k + 1) ∧ la = .int .i64 t ∧ TS w w1.heap.size d l v s x y z wr ∧
      (x = if k ≤ 16 * (d - l) then k else 16 * (d - l)) ∧ (y = if k ≤ 16 * (d - l) then 0 else if k ≤ 16 * d then k - 16 * (d - l) else 16 * l) ∧ (z = if k ≤ 16 * d then 0 else k - 16 * d) ∧
      (t = 0 ∨ t = 1 ∧ 16 * (d - l) ≤ k ∨ t = 2 ∧ 16 * d ≤ k) ∧ 0 ≤ t)
    (fun _ i _ => (16 * (d + v * s) + 1 - intOf i).toNat)
  case atStart =>
    refine ⟨0, 0, 0, 0, 0, by omega, by omega, rfl, rfl, ⟨(by repeat (first | exact Kept.refl _ | assumption | refine Kept.alloc ?_ _ | refine Kept.drew ?_ | refine Kept.drewN ?_ _ | refine Kept.setCell ?_ (by simp; try omega) _ | refine Kept.trans ?_ (by assumption))), by have := hsz; simp at this; omega, by go_simp, by go_simp, by go_simp, by go_simp, by go_simp, by go_simp, by go_simp, by go_simp, by go_simp, by go_simp⟩, ?_, ?_, ?_, .inl rfl, by omega⟩ <;> repeat' split <;> omega
  case round =>
    obtain ⟨k, t, x, y, z, hk0, hk1, rfl, rfl, T, hx, hy, hz, ht, ht0⟩ := hrel
    have Hx := hid hx; have Hy := hid hy; have Hz := hid hz; clear hx hy hz
    obtain ⟨-, -, kk0, kk1, kk2, kk3, n0, n1, n2, f0, f1, f2⟩ := id T
    have hs' := Hs.out
    by_cases hlt : k < 16 * (d + v * s)
    · have hk3 : 1 ≤ k + 1 := by omega
      have hk4 : k + 1 ≤ segsF d l v s * 16 := by omega
      have ht2 : t ≤ 2 := by omega
      have hxb : 0 ≤ x ∧ x ≤ 100000 := by have := Hx.out; repeat' split at this <;> omega
      have hyb : 0 ≤ y ∧ y ≤ 100000 := by have := Hy.out; repeat' split at this <;> omega
      have hzb : 0 ≤ z ∧ z ≤ 100000 := by have := Hz.out; repeat' split at this <;> omega
      obtain ⟨hx1, hx2⟩ := hxb
      obtain ⟨hy1, hy2⟩ := hyb
      obtain ⟨hz1, hz2⟩ := hzb
      clear hs'
      have hseg : segsF d l v s * 16 = 16 * (d + v * s) := by rw [Hs.out]; omega
      by_cases q1 : k / 16 < d - l
      · have H3 := hid (fun w => tier_at d l v s (k + 1) 0 w (by simp only [tierF, hm, hk3, hk4]; simp; omega))
        go_wp2_with (first
          | (go_at_call 13; refine (H2.out _).mono ?_; rintro e wa ⟨rfl, hwa⟩; have TA := T.keep hwa; obtain ⟨-, -, g0, g1, g2, g3, a0, a1, a2, fa0, fa1, fa2⟩ := id TA)
          | (go_at_call 15; refine (H3.out _).mono ?_; rintro e wb ⟨rfl, hwb⟩; have TB := TA.keep hwb; obtain ⟨-, -, r0, r1, r2, r3, m0, m1, m2, e0, e1, e2⟩ := id TB))
        go_roundw
        case rel => exact ⟨k + 1, 0, _, _, _, by omega, by omega, by go_num, rfl, TB.set 0 (by omega) _, by show x + 1 = _; rw [Hx.out]; repeat' split <;> omega, by show y = _; rw [Hy.out]; repeat' split <;> omega, by show z = _; rw [Hz.out]; repeat' split <;> omega, by omega, by omega⟩
        case measure => simp [intOf]; omega
      · by_cases q2 : k / 16 < d
        · have H3 := hid (fun w => tier_at d l v s (k + 1) 1 w (by simp only [tierF, hm, hk3, hk4]; simp; omega))
          go_wp2_with (first
            | (go_at_call 13; refine (H2.out _).mono ?_; rintro e wa ⟨rfl, hwa⟩; have TA := T.keep hwa; obtain ⟨-, -, g0, g1, g2, g3, a0, a1, a2, fa0, fa1, fa2⟩ := id TA)
            | (go_at_call 15; refine (H3.out _).mono ?_; rintro e wb ⟨rfl, hwb⟩; have TB := TA.keep hwb; obtain ⟨-, -, r0, r1, r2, r3, m0, m1, m2, e0, e1, e2⟩ := id TB))
          go_roundw
          case rel => exact ⟨k + 1, 1, _, _, _, by omega, by omega, by go_num, rfl, TB.set 1 (by omega) _, by show x = _; rw [Hx.out]; repeat' split <;> omega, by show y + 1 = _; rw [Hy.out]; repeat' split <;> omega, by show z = _; rw [Hz.out]; repeat' split <;> omega, by omega, by omega⟩
          case measure => simp [intOf]; omega
        · have H3 := hid (fun w => tier_at d l v s (k + 1) 2 w (by simp only [tierF, hm, hk3, hk4]; simp; omega))
          go_wp2_with (first
            | (go_at_call 13; refine (H2.out _).mono ?_; rintro e wa ⟨rfl, hwa⟩; have TA := T.keep hwa; obtain ⟨-, -, g0, g1, g2, g3, a0, a1, a2, fa0, fa1, fa2⟩ := id TA)
            | (go_at_call 15; refine (H3.out _).mono ?_; rintro e wb ⟨rfl, hwb⟩; have TB := TA.keep hwb; obtain ⟨-, -, r0, r1, r2, r3, m0, m1, m2, e0, e1, e2⟩ := id TB))
          go_roundw
          case rel => exact ⟨k + 1, 2, _, _, _, by omega, by omega, by go_num, rfl, TB.set 2 (by omega) _, by show x = _; rw [Hx.out]; repeat' split <;> omega, by show y = _; rw [Hy.out]; repeat' split <;> omega, by show z + 1 = _; rw [Hz.out]; repeat' split <;> omega, by omega, by omega⟩
          case measure => simp [intOf]; omega
    · have hk : k = 16 * (d + v * s) := by omega
      have hx : x = 16 * (d - l) := by rw [Hx.out]; split <;> omega
      have hy : y = 16 * l := by rw [Hy.out]; repeat' split <;> omega
      have hz : z = 16 * v * s := by rw [Hz.out, Int.mul_assoc]; split <;> omega
      subst hx; subst hy; subst hz
      have hvs4 : 16 * v * s = 16 * (v * s) := Int.mul_assoc _ _ _
      have hvs5 : 0 ≤ 16 * v * s ∧ 16 * v * s ≤ 640 := by omega
      obtain ⟨hvs6, hvs7⟩ := hvs5
      have hseg : segsF d l v s * 16 < k + 1 := by omega
      have Hk := hid hk; clear hk hs' hvs4
      have hk5 : k ≤ 10000 := by have := Hk.out; omega
      go_wp2_with (first
        | (go_at_call 13; refine (H2.out _).mono ?_; rintro e wa ⟨rfl, hwa⟩; have TA := T.keep hwa; obtain ⟨-, -, g0, g1, g2, g3, a0, a1, a2, fa0, fa1, fa2⟩ := id TA)
        | (go_at_call 14; refine (awake_any _).mono ?_; rintro e w2 ⟨rfl, hk2⟩))
      go_ret
      exact ⟨rfl, Kept.trans TA.1 hk2⟩

set_option maxRecDepth 100000 in
set_option maxHeartbeats 1000000 in
theorem tiers_walk (d l v s : Int) (w : World) :
    Calls Try.prog 4 #[.agg #[.int .i64 d, .int .i64 l, .int .i64 v, .int .i64 s]] w fun e w' => e = .returned (.bool true) ∧ Kept w w' := by
  rcases hm : mayB d l v s with _ | _
  · have H1 := hid (fun w => may_f d l v s w hm)
    clear hm
    go_enter Try.func4, Try.ntmps4
    go_wp2_with (first
      | (go_at_call 11; refine (H1.out _).mono ?_; rintro e w2 ⟨rfl, hk2⟩)
      | (go_at_call 14; refine (awake_any _).mono ?_; rintro e w2 ⟨rfl, hk2⟩))
    go_ret
    exact ⟨rfl, (by repeat (first | exact Kept.refl _ | assumption | refine Kept.alloc ?_ _ | refine Kept.drew ?_ | refine Kept.drewN ?_ _ | refine Kept.setCell ?_ (by simp; try omega) _ | refine Kept.trans ?_ (by assumption)))⟩
  · obtain ⟨b1, b2, b3, b4, b5, b6, b7, b8⟩ := mayB_of hm
    obtain ⟨hvs0, hvs1⟩ := mul_bd v s b3 b4 b5 b6
    by_cases hd : d ≤ 40
    · by_cases hvs : v * s ≤ 40
      · exact tiers_core d l v s w hm hd hvs
      · have H1 := hid (fun w => may_t d l v s w hm)
        clear hm
        go_enter Try.func4, Try.ntmps4
        go_wp2_with (first
          | (go_at_call 11; refine (H1.out _).mono ?_; rintro e w2 ⟨rfl, hk2⟩; have hk : Kept (w.alloc (.cells #[.int .i64 d, .int .i64 l, .int .i64 v, .int .i64 s] 23)) w2 := (by repeat (first | exact Kept.refl _ | assumption | refine Kept.alloc ?_ _ | refine Kept.drew ?_ | refine Kept.drewN ?_ _ | refine Kept.setCell ?_ (by simp; try omega) _ | refine Kept.trans ?_ (by assumption))); have kk0 := hk.keeps (b := w.heap.size) (o := 0) (s := none) (v := .int .i64 d) (by simp [go_sem]); have kk1 := hk.keeps (b := w.heap.size) (o := 1) (s := none) (v := .int .i64 l) (by simp [go_sem]); have kk2 := hk.keeps (b := w.heap.size) (o := 2) (s := none) (v := .int .i64 v) (by simp [go_sem]); have kk3 := hk.keeps (b := w.heap.size) (o := 3) (s := none) (v := .int .i64 s) (by simp [go_sem]))
          | (go_at_call 14; refine (awake_any _).mono ?_; rintro e w2 ⟨rfl, hk2⟩))
        go_ret
        exact ⟨rfl, (by repeat (first | exact Kept.refl _ | assumption | refine Kept.alloc ?_ _ | refine Kept.drew ?_ | refine Kept.drewN ?_ _ | refine Kept.setCell ?_ (by simp; try omega) _ | refine Kept.trans ?_ (by assumption)))⟩
    · have H1 := hid (fun w => may_t d l v s w hm)
      clear hm
      go_enter Try.func4, Try.ntmps4
      go_wp2_with (first
        | (go_at_call 11; refine (H1.out _).mono ?_; rintro e w2 ⟨rfl, hk2⟩; have hk : Kept (w.alloc (.cells #[.int .i64 d, .int .i64 l, .int .i64 v, .int .i64 s] 23)) w2 := (by repeat (first | exact Kept.refl _ | assumption | refine Kept.alloc ?_ _ | refine Kept.drew ?_ | refine Kept.drewN ?_ _ | refine Kept.setCell ?_ (by simp; try omega) _ | refine Kept.trans ?_ (by assumption))); have kk0 := hk.keeps (b := w.heap.size) (o := 0) (s := none) (v := .int .i64 d) (by simp [go_sem]); have kk1 := hk.keeps (b := w.heap.size) (o := 1) (s := none) (v := .int .i64 l) (by simp [go_sem]); have kk2 := hk.keeps (b := w.heap.size) (o := 2) (s := none) (v := .int .i64 v) (by simp [go_sem]); have kk3 := hk.keeps (b := w.heap.size) (o := 3) (s := none) (v := .int .i64 s) (by simp [go_sem]))
        | (go_at_call 14; refine (awake_any _).mono ?_; rintro e w2 ⟨rfl, hk2⟩))
      go_ret
      exact ⟨rfl, (by repeat (first | exact Kept.refl _ | assumption | refine Kept.alloc ?_ _ | refine Kept.drew ?_ | refine Kept.drewN ?_ _ | refine Kept.setCell ?_ (by simp; try omega) _ | refine Kept.trans ?_ (by assumption)))⟩
end Go.Proofs.Ytlddfpecicgboaa
