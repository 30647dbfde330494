/- The functions of package addr, each by a contract: what it answers, and that nothing that was there has turned. -/
import Derived.Test.YtnpkoncflplpiaaKit
import Derived.Deep.QuietTactic
import Derived.BigQuiet
namespace Go.Proofs.Ytnpkoncflplpiaa
set_option linter.unusedSimpArgs false
set_option linter.unusedVariables false
open Go.RowKit

/-- A geometry as a value. -/
def geo (d l v s : Int) : Value := .agg #[.int .i64 d, .int .i64 l, .int .i64 v, .int .i64 s]

theorem geo_box {w w1 : World} {d l v s : Int} {T : TypeId} (h : Kept (w.alloc (.cells #[.int .i64 d, .int .i64 l, .int .i64 v, .int .i64 s] T)) w1) :
    w1.cell? ⟨w.heap.size, 0, none⟩ = some (.int .i64 d) ∧ w1.cell? ⟨w.heap.size, 1, none⟩ = some (.int .i64 l) ∧
    w1.cell? ⟨w.heap.size, 2, none⟩ = some (.int .i64 v) ∧ w1.cell? ⟨w.heap.size, 3, none⟩ = some (.int .i64 s) :=
  ⟨h.keeps (by simp [go_sem]), h.keeps (by simp [go_sem]), h.keeps (by simp [go_sem]), h.keeps (by simp [go_sem])⟩
theorem geo_keep {w w1 : World} {b : Nat} {x0 x1 x2 x3 : Value} (h : Kept w w1) (h0 : w.cell? ⟨b, 0, none⟩ = some x0) (h1 : w.cell? ⟨b, 1, none⟩ = some x1)
    (h2 : w.cell? ⟨b, 2, none⟩ = some x2) (h3 : w.cell? ⟨b, 3, none⟩ = some x3) :
    w1.cell? ⟨b, 0, none⟩ = some x0 ∧ w1.cell? ⟨b, 1, none⟩ = some x1 ∧ w1.cell? ⟨b, 2, none⟩ = some x2 ∧ w1.cell? ⟨b, 3, none⟩ = some x3 :=
  ⟨h.keeps h0, h.keeps h1, h.keeps h2, h.keeps h3⟩

/-- may a geometry be? (addr.May, haymowref03.May) -/
def mayB (d l v s : Int) : Bool := decide (8 ≤ d ∧ d ≤ 256 ∧ 0 ≤ v ∧ v ≤ 8 ∧ 1 ≤ s ∧ s ≤ 256 ∧ 1 ≤ l ∧ l ≤ d - 6)
theorem mayB_of {d l v s : Int} (h : mayB d l v s = true) : 8 ≤ d ∧ d ≤ 256 ∧ 0 ≤ v ∧ v ≤ 8 ∧ 1 ≤ s ∧ s ≤ 256 ∧ 1 ≤ l ∧ l ≤ d - 6 := by simpa [mayB] using h

/-- addr.between -/
theorem between_any (a b : Int) (w : World) :
    Calls Try.prog 29 #[.int .i64 a, .int .i64 b] w fun e w' =>
      e = .returned (.func (.func 33) #[] #[.pointer (some ⟨w.heap.size, 0, none⟩), .pointer (some ⟨w.heap.size + 1, 0, none⟩)]) ∧
      w' = (w.alloc (.cells #[.int .i64 a] 3)).alloc (.cells #[.int .i64 b] 3) := by
  go_enter Try.func29, Try.ntmps29
  go_wp2
  go_ret
  exact ⟨rfl, rfl⟩

theorem between_kept {w w2 : World} {a b : Value} {T : TypeId} (h : w2 = (w.alloc (.cells #[a] T)).alloc (.cells #[b] T)) : Kept w w2 := by
  subst h; exact ((Kept.refl _).alloc _).alloc _
theorem between_p {w w2 : World} {a b : Value} {T : TypeId} (h : w2 = (w.alloc (.cells #[a] T)).alloc (.cells #[b] T)) : w2.cell? ⟨w.heap.size, 0, none⟩ = some a := by
  subst h; simp [go_sem]
theorem between_q {w w2 : World} {a b : Value} {T : TypeId} (h : w2 = (w.alloc (.cells #[a] T)).alloc (.cells #[b] T)) : w2.cell? ⟨w.heap.size + 1, 0, none⟩ = some b := by
  subst h; simp [go_sem]

theorem between_new (a b : Int) (w : World) :
    Calls Try.prog 29 #[.int .i64 a, .int .i64 b] w fun e w' =>
      ∃ p q : Nat, e = .returned (.func (.func 33) #[] #[.pointer (some ⟨p, 0, none⟩), .pointer (some ⟨q, 0, none⟩)]) ∧
        Kept w w' ∧ w'.cell? ⟨p, 0, none⟩ = some (.int .i64 a) ∧ w'.cell? ⟨q, 0, none⟩ = some (.int .i64 b) :=
  (between_any a b w).mono fun _ _ ⟨he, hw⟩ => ⟨_, _, he, between_kept hw, between_p hw, between_q hw⟩

theorem between1_any (x a b : Int) (p q : Addr) (w : World) (hp : w.cell? p = some (.int .i64 a)) (hq : w.cell? q = some (.int .i64 b)) :
    Calls Try.prog 33 #[.int .i64 x, .pointer (some p), .pointer (some q)] w fun e w' => e = .returned (.bool (decide (a ≤ x ∧ x ≤ b))) ∧ w = w' := by
  by_cases h1 : a ≤ x
  · go_enter Try.func33, Try.ntmps33
    go_wp2
    go_ret
    exact ⟨ret_bool (by simp [h1]), rfl⟩
  · go_enter Try.func33, Try.ntmps33
    go_wp2
    go_ret
    exact ⟨ret_bool (by simp; omega), rfl⟩

theorem between1_t (x a b : Int) (p q : Addr) (w : World) (hp : w.cell? p = some (.int .i64 a)) (hq : w.cell? q = some (.int .i64 b)) (h : a ≤ x ∧ x ≤ b) :
    Calls Try.prog 33 #[.int .i64 x, .pointer (some p), .pointer (some q)] w fun e w' => e = .returned (.bool true) ∧ w = w' := by
  have := between1_any x a b p q w hp hq
  rwa [decide_eq_true h] at this
theorem between1_f (x a b : Int) (p q : Addr) (w : World) (hp : w.cell? p = some (.int .i64 a)) (hq : w.cell? q = some (.int .i64 b)) (h : ¬ (a ≤ x ∧ x ≤ b)) :
    Calls Try.prog 33 #[.int .i64 x, .pointer (some p), .pointer (some q)] w fun e w' => e = .returned (.bool false) ∧ w = w' := by
  have := between1_any x a b p q w hp hq
  rwa [decide_eq_false h] at this

set_option maxHeartbeats 1000000 in
/-- addr.May -/
theorem may_any (d l v s : Int) (w : World) :
    Calls Try.prog 17 #[.agg #[.int .i64 d, .int .i64 l, .int .i64 v, .int .i64 s]] w fun e w' => e = .returned (.bool (mayB d l v s)) ∧ Kept w w' := by
  go_enter Try.func17, Try.ntmps17
  go_wp2
  all_goals
    go_ret
    refine ⟨ret_bool ?_, by repeat (first | exact Kept.refl _ | refine Kept.alloc ?_ _)⟩
    try simp only [Bool.not_eq_true', Bool.not_eq_false', decide_eq_true_eq, decide_eq_false_iff_not] at *
    rw [Bool.eq_iff_iff]
    simp [mayB]
    try omega
theorem may_t (d l v s : Int) (w : World) (h : mayB d l v s = true) :
    Calls Try.prog 17 #[.agg #[.int .i64 d, .int .i64 l, .int .i64 v, .int .i64 s]] w fun e w' => e = .returned (.bool true) ∧ Kept w w' := by
  rw [← h]; exact may_any d l v s w
theorem may_f (d l v s : Int) (w : World) (h : mayB d l v s = false) :
    Calls Try.prog 17 #[.agg #[.int .i64 d, .int .i64 l, .int .i64 v, .int .i64 s]] w fun e w' => e = .returned (.bool false) ∧ Kept w w' := by
  rw [← h]; exact may_any d l v s w

/-- how many segments a geometry has (none, if it may not be) -/
def segsF (d l v s : Int) : Int := if mayB d l v s then d + v * s else 0
theorem mul_bd (v s : Int) (h1 : 0 ≤ v) (h2 : v ≤ 8) (h3 : 1 ≤ s) (h4 : s ≤ 256) : 0 ≤ v * s ∧ v * s ≤ 2048 := by
  constructor
  · exact Int.mul_nonneg h1 (by omega)
  · exact Int.le_trans (Int.mul_le_mul h2 h4 (by omega) (by omega)) (by omega)
theorem segsF_bd (d l v s : Int) : 0 ≤ segsF d l v s ∧ segsF d l v s ≤ 2304 := by
  unfold segsF
  split
  · rename_i h
    have h := mayB_of h
    have := mul_bd v s (by omega) (by omega) (by omega) (by omega)
    omega
  · omega

set_option maxHeartbeats 400000 in
theorem segs_any (d l v s : Int) (w : World) :
    Calls Try.prog 19 #[.agg #[.int .i64 d, .int .i64 l, .int .i64 v, .int .i64 s]] w fun e w' => e = .returned (.int .i64 (segsF d l v s)) ∧ Kept w w' := by
  rcases hm : mayB d l v s with _ | _
  · have hs : segsF d l v s = 0 := by simp [segsF, hm]
    have Hm := hid hm; clear hm
    have Hs := hid hs; clear hs
    go_enter Try.func19, Try.ntmps19
    go_wp2_with (go_at_call 17; refine (may_f d l v s _ Hm.out).mono ?_; rintro e w1 ⟨rfl, hk⟩)
    go_ret
    exact ⟨ret_int Hs.out.symm, ((Kept.refl _).alloc _).trans (by assumption)⟩
  · have hs : segsF d l v s = d + v * s := by simp [segsF, hm]
    have hb := mayB_of hm
    obtain ⟨b1, b2, b3, b4, b5, b6, b7, b8⟩ := hb
    have hvs := mul_bd v s b3 b4 b5 b6
    have Hm := hid hm; clear hm
    have Hs := hid hs; clear hs
    go_enter Try.func19, Try.ntmps19
    go_wp2_with (go_at_call 17; refine (may_t d l v s _ Hm.out).mono ?_; rintro e w1 ⟨rfl, hk⟩; have k0 := hk.keeps (b := w.heap.size) (o := 0) (s := none) (v := .int .i64 d) (by simp [go_sem]); have k2 := hk.keeps (b := w.heap.size) (o := 2) (s := none) (v := .int .i64 v) (by simp [go_sem]); have k3 := hk.keeps (b := w.heap.size) (o := 3) (s := none) (v := .int .i64 s) (by simp [go_sem]))
    go_ret
    exact ⟨ret_int Hs.out.symm, ((Kept.refl _).alloc _).trans (by assumption)⟩

set_option maxHeartbeats 400000 in
theorem blocks_any (d l v s : Int) (w : World) :
    Calls Try.prog 30 #[.agg #[.int .i64 d, .int .i64 l, .int .i64 v, .int .i64 s]] w fun e w' => e = .returned (.int .i64 (segsF d l v s * 16)) ∧ Kept w w' := by
  obtain ⟨hb1, hb2⟩ := segsF_bd d l v s
  go_enter Try.func30, Try.ntmps30
  go_wp2_with (go_at_call 19; refine (segs_any d l v s _).mono ?_; rintro e w1 ⟨rfl, hk⟩)
  go_ret
  exact ⟨rfl, ((Kept.refl _).alloc _).trans (by assumption)⟩

/-- the segment of an address: its number, and the error's -/
def segN (d l v s a : Int) : Int := if mayB d l v s && decide (1 ≤ a ∧ a ≤ segsF d l v s * 16) then (a - 1) / 16 else 0
def segE (d l v s a : Int) : Int := if mayB d l v s then if 1 ≤ a ∧ a ≤ segsF d l v s * 16 then 0 else 4 else 1

set_option maxHeartbeats 1000000 in
theorem segment_any (d l v s a : Int) (w : World) :
    Calls Try.prog 20 #[.agg #[.int .i64 d, .int .i64 l, .int .i64 v, .int .i64 s], .int .i64 a] w fun e w' =>
      e = .returned (.tuple #[.int .i64 (segN d l v s a), .int .i64 (segE d l v s a)]) ∧ Kept w w' := by
  obtain ⟨hb1, hb2⟩ := segsF_bd d l v s
  rcases hm : mayB d l v s with _ | _
  · have Hs : Hid (segN d l v s a = 0) := by simp [segN, hm, Hid]
    have He : Hid (segE d l v s a = 1) := by simp [segE, hm, Hid]
    have Hm := hid hm; clear hm
    go_enter Try.func20, Try.ntmps20
    go_wp2_with (go_at_call 17; refine (may_f d l v s _ Hm.out).mono ?_; rintro e w1 ⟨rfl, hk⟩)
    go_ret2
    exact ⟨ret_int2 Hs.out.symm He.out.symm, (by repeat (first | exact Kept.refl _ | assumption | refine Kept.alloc ?_ _ | refine Kept.drew ?_ | refine Kept.drewN ?_ _ | refine Kept.setCell ?_ (by simp; try omega) _ | refine Kept.trans ?_ (by assumption)))⟩
  · by_cases ha : 1 ≤ a ∧ a ≤ segsF d l v s * 16
    · have Hs : Hid (segN d l v s a = (a - 1) / 16) := by simp [segN, hm, ha, Hid]
      have He : Hid (segE d l v s a = 0) := by simp [segE, hm, ha, Hid]
      have Hm := hid hm; clear hm
      obtain ⟨ha1, ha2⟩ := ha
      go_enter Try.func20, Try.ntmps20
      go_wp2_with (first
        | (go_at_call 17; refine (may_t d l v s _ Hm.out).mono ?_; rintro e w1 ⟨rfl, hk⟩; obtain ⟨k0, k1, k2, k3⟩ := geo_box hk)
        | (go_at_call 30; refine (blocks_any d l v s _).mono ?_; rintro e w2 ⟨rfl, hk2⟩)
        | (go_at_call 33; refine (between1_t _ (1) (segsF d l v s * 16) _ _ _ ?_ ?_ ?_).mono ?_; (simp [go_sem]); (simp [go_sem]); omega; rintro e wb ⟨rfl, rfl⟩)
        | (go_at_call 29; refine (between_any _ _ _).mono ?_; rintro e wb ⟨rfl, rfl⟩))
      go_ret2
      exact ⟨ret_int2 Hs.out.symm He.out.symm, (by repeat (first | exact Kept.refl _ | assumption | refine Kept.alloc ?_ _ | refine Kept.drew ?_ | refine Kept.drewN ?_ _ | refine Kept.setCell ?_ (by simp; try omega) _ | refine Kept.trans ?_ (by assumption)))⟩
    · have Hs : Hid (segN d l v s a = 0) := by simp [segN, hm, Hid]; omega
      have He : Hid (segE d l v s a = 4) := by simp [segE, hm, ha, Hid]
      have Hm := hid hm; clear hm
      go_enter Try.func20, Try.ntmps20
      go_wp2_with (first
        | (go_at_call 17; refine (may_t d l v s _ Hm.out).mono ?_; rintro e w1 ⟨rfl, hk⟩; obtain ⟨k0, k1, k2, k3⟩ := geo_box hk)
        | (go_at_call 30; refine (blocks_any d l v s _).mono ?_; rintro e w2 ⟨rfl, hk2⟩)
        | (go_at_call 33; refine (between1_f _ (1) (segsF d l v s * 16) _ _ _ ?_ ?_ ?_).mono ?_; (simp [go_sem]); (simp [go_sem]); omega; rintro e wb ⟨rfl, rfl⟩)
        | (go_at_call 29; refine (between_any _ _ _).mono ?_; rintro e wb ⟨rfl, rfl⟩))
      go_ret2
      exact ⟨ret_int2 Hs.out.symm He.out.symm, (by repeat (first | exact Kept.refl _ | assumption | refine Kept.alloc ?_ _ | refine Kept.drew ?_ | refine Kept.drewN ?_ _ | refine Kept.setCell ?_ (by simp; try omega) _ | refine Kept.trans ?_ (by assumption)))⟩

/-- the first address of a segment: its number, and the error's -/
def firstN (d l v s g : Int) : Int := if mayB d l v s && decide (0 ≤ g ∧ g ≤ segsF d l v s - 1) then g * 16 + 1 else 0
def firstE (d l v s g : Int) : Int := if mayB d l v s then if 0 ≤ g ∧ g ≤ segsF d l v s - 1 then 0 else 4 else 1

set_option maxHeartbeats 1000000 in
theorem first_any (d l v s g : Int) (w : World) :
    Calls Try.prog 25 #[.agg #[.int .i64 d, .int .i64 l, .int .i64 v, .int .i64 s], .int .i64 g] w fun e w' =>
      e = .returned (.tuple #[.int .i64 (firstN d l v s g), .int .i64 (firstE d l v s g)]) ∧ Kept w w' := by
  obtain ⟨hb1, hb2⟩ := segsF_bd d l v s
  rcases hm : mayB d l v s with _ | _
  · have Hs : Hid (firstN d l v s g = 0) := by simp [firstN, hm, Hid]
    have He : Hid (firstE d l v s g = 1) := by simp [firstE, hm, Hid]
    have Hm := hid hm; clear hm
    go_enter Try.func25, Try.ntmps25
    go_wp2_with (go_at_call 17; refine (may_f _ _ _ _ _ Hm.out).mono ?_; rintro e w1 ⟨rfl, hk⟩)
    go_ret2
    exact ⟨ret_int2 Hs.out.symm He.out.symm, (by repeat (first | exact Kept.refl _ | assumption | refine Kept.alloc ?_ _ | refine Kept.drew ?_ | refine Kept.drewN ?_ _ | refine Kept.setCell ?_ (by simp; try omega) _ | refine Kept.trans ?_ (by assumption)))⟩
  · by_cases ha : 0 ≤ g ∧ g ≤ segsF d l v s - 1
    · have Hs : Hid (firstN d l v s g = g * 16 + 1) := by simp [firstN, hm, ha, Hid]
      have He : Hid (firstE d l v s g = 0) := by simp [firstE, hm, ha, Hid]
      have Hm := hid hm; clear hm
      obtain ⟨ha1, ha2⟩ := ha
      go_enter Try.func25, Try.ntmps25
      go_wp2_with (first
        | (go_at_call 17; refine (may_t _ _ _ _ _ Hm.out).mono ?_; rintro e w1 ⟨rfl, hk⟩; obtain ⟨k0, k1, k2, k3⟩ := geo_box hk)
        | (go_at_call 19; refine (segs_any d l v s _).mono ?_; rintro e w2 ⟨rfl, hk2⟩)
        | (go_at_call 33; refine (between1_t _ (0) (segsF d l v s - 1) _ _ _ ?_ ?_ ?_).mono ?_; (simp [go_sem]); (simp [go_sem]); omega; rintro e wb ⟨rfl, rfl⟩)
        | (go_at_call 29; refine (between_any _ _ _).mono ?_; rintro e wb ⟨rfl, rfl⟩))
      go_ret2
      exact ⟨ret_int2 Hs.out.symm He.out.symm, (by repeat (first | exact Kept.refl _ | assumption | refine Kept.alloc ?_ _ | refine Kept.drew ?_ | refine Kept.drewN ?_ _ | refine Kept.setCell ?_ (by simp; try omega) _ | refine Kept.trans ?_ (by assumption)))⟩
    · have Hs : Hid (firstN d l v s g = 0) := by simp [firstN, hm, Hid]; omega
      have He : Hid (firstE d l v s g = 4) := by simp [firstE, hm, ha, Hid]
      have Hm := hid hm; clear hm
      go_enter Try.func25, Try.ntmps25
      go_wp2_with (first
        | (go_at_call 17; refine (may_t _ _ _ _ _ Hm.out).mono ?_; rintro e w1 ⟨rfl, hk⟩; obtain ⟨k0, k1, k2, k3⟩ := geo_box hk)
        | (go_at_call 19; refine (segs_any d l v s _).mono ?_; rintro e w2 ⟨rfl, hk2⟩)
        | (go_at_call 33; refine (between1_f _ (0) (segsF d l v s - 1) _ _ _ ?_ ?_ ?_).mono ?_; (simp [go_sem]); (simp [go_sem]); omega; rintro e wb ⟨rfl, rfl⟩)
        | (go_at_call 29; refine (between_any _ _ _).mono ?_; rintro e wb ⟨rfl, rfl⟩))
      go_ret2
      exact ⟨ret_int2 Hs.out.symm He.out.symm, (by repeat (first | exact Kept.refl _ | assumption | refine Kept.alloc ?_ _ | refine Kept.drew ?_ | refine Kept.drewN ?_ _ | refine Kept.setCell ?_ (by simp; try omega) _ | refine Kept.trans ?_ (by assumption)))⟩

end Go.Proofs.Ytnpkoncflplpiaa
