/- haymowref15.Free where it does not answer; haymowlaw15.uses. -/
import Derived.Test.Ytnpkoncflplpiaa15K
import Derived.Test.Ytnpkoncflplpiaa15J
namespace Go.Proofs.Ytnpkoncflplpiaa
set_option linter.unusedSimpArgs false
set_option linter.unusedVariables false
open Go.RowKit

set_option maxHeartbeats 1000000 in
theorem rfree_no (d l v s fr : Int) (vu vb : Value) (n : Nat) (f g : Nat → Int) (w : World) (hU : Uses w vu n f g) (h : freeOk d l v s n fr = false) :
    Calls Try.prog 15 #[.agg #[.int .i64 d, .int .i64 l, .int .i64 v, .int .i64 s], vu, vb, .int .i64 fr] w (FreePost [] w) := by
  have HC := hid (rfits_any d l v s vu n f g)
  have HU := hid hU
  obtain ⟨A, c, rfl⟩ := hU.shape
  clear hU
  by_cases hc : (mayB d l v s && decide ((n : Int) = segsF d l v s)) = true
  · rw [hc] at HC
    obtain ⟨hm, hn⟩ := Bool.and_eq_true_iff.1 hc
    have hn := of_decide_eq_true hn
    have hdb : 0 ≤ d ∧ d ≤ 100000 ∧ 0 ≤ l ∧ l ≤ 100000 := by
      obtain ⟨b1, b2, b3, b4, b5, b6, b7, b8⟩ := mayB_of hm
      omega
    obtain ⟨hd0, hd1, hl0, hl1⟩ := hdb
    have hwrap : IntKind.i64.wrap (d - l) = d - l := IntWalk.i64_in (d - l) (by omega)
    by_cases hr : fr < 0
    · clear h hc hn hm
      go_enter Try.func15, Try.ntmps15
      go_wp2_with (go_at_call 27; refine (HC.out _ (((Kept.refl w).alloc _).uses HU.out)).mono ?_; rintro e w1 ⟨rfl, k1⟩; have bk0 := k1.keeps (b := w.heap.size) (o := 0) (s := none) (v := .int .i64 d) (by simp [go_sem]); have bk1 := k1.keeps (b := w.heap.size) (o := 1) (s := none) (v := .int .i64 l) (by simp [go_sem]); have bk2 := k1.keeps (b := w.heap.size) (o := 2) (s := none) (v := .int .i64 v) (by simp [go_sem]); have bk3 := k1.keeps (b := w.heap.size) (o := 3) (s := none) (v := .int .i64 s) (by simp [go_sem]); have K1 := hid (((Kept.refl w).alloc _).trans k1); clear k1)
      go_ret
      exact ⟨_, rfl, ints_nil _, K1.out⟩
    · have hr2 : d - l ≤ fr := by
        simp [freeOk, hm, hn] at h
        omega
      have hr0 : 0 ≤ fr := by omega
      clear h hc hn hm hr
      go_enter Try.func15, Try.ntmps15
      go_wp2_with (go_at_call 27; refine (HC.out _ (((Kept.refl w).alloc _).uses HU.out)).mono ?_; rintro e w1 ⟨rfl, k1⟩; have bk0 := k1.keeps (b := w.heap.size) (o := 0) (s := none) (v := .int .i64 d) (by simp [go_sem]); have bk1 := k1.keeps (b := w.heap.size) (o := 1) (s := none) (v := .int .i64 l) (by simp [go_sem]); have bk2 := k1.keeps (b := w.heap.size) (o := 2) (s := none) (v := .int .i64 v) (by simp [go_sem]); have bk3 := k1.keeps (b := w.heap.size) (o := 3) (s := none) (v := .int .i64 s) (by simp [go_sem]); have K1 := hid (((Kept.refl w).alloc _).trans k1); clear k1)
      go_ret
      exact ⟨_, rfl, ints_nil _, K1.out⟩
  · have hc' : (mayB d l v s && decide ((n : Int) = segsF d l v s)) = false := by simpa using hc
    rw [hc'] at HC
    clear hc hc' h
    go_enter Try.func15, Try.ntmps15
    go_wp2_with (go_at_call 27; refine (HC.out _ (((Kept.refl w).alloc _).uses HU.out)).mono ?_; rintro e w1 ⟨rfl, k1⟩; have K1 := hid (((Kept.refl w).alloc _).trans k1); clear k1)
    go_ret
    exact ⟨_, rfl, ints_nil _, K1.out⟩

theorem rfree_any (d l v s fr : Int) (vu vb : Value) (n : Nat) (f g : Nat → Int) (L : List Int) (w : World) (hU : Uses w vu n f g) (hL : Ints w vb L) :
    Calls Try.prog 15 #[.agg #[.int .i64 d, .int .i64 l, .int .i64 v, .int .i64 s], vu, vb, .int .i64 fr] w (FreePost (freeAns d l v s n f L fr) w) := by
  cases h : freeOk d l v s n fr with
  | true => rw [freeAns, if_pos h]; exact rfree_yes d l v s fr vu vb n f g L w hU hL h
  | false => rw [freeAns, if_neg (by rw [h]; decide)]; exact rfree_no d l v s fr vu vb n f g w hU h
theorem free_any (d l v s fr : Int) (vu vb : Value) (n : Nat) (f g : Nat → Int) (L : List Int) (w : World) (hU : Uses w vu n f g) (hL : Ints w vb L) (hLr : ∀ j, j < L.length → -9223372036854775808 ≤ L.getD j 0 ∧ L.getD j 0 ≤ 9223372036854775807) (hf : ∀ k, k < n → -9223372036854775808 ≤ f k ∧ f k ≤ 9223372036854775807) :
    Calls Try.prog 14 #[.agg #[.int .i64 d, .int .i64 l, .int .i64 v, .int .i64 s], vu, vb, .int .i64 fr] w (FreePost (freeAns d l v s n f L fr) w) := by
  cases h : freeOk d l v s n fr with
  | true => rw [freeAns, if_pos h]; exact free_yes d l v s fr vu vb n f g L w hU hL hLr hf h
  | false => rw [freeAns, if_neg (by rw [h]; decide)]; exact free_no d l v s fr vu vb n f g w hU h
end Go.Proofs.Ytnpkoncflplpiaa
