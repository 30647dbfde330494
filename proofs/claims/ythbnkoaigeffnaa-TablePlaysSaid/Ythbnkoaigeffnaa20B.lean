/- Package table: told, Mode, New, Get, file, File. -/
import Derived.Test.Ythbnkoaigeffnaa20A
namespace Go.Proofs.Ythbnkoaigeffnaa
set_option linter.unusedSimpArgs false
set_option linter.unusedVariables false
open Go.RowKit

theorem ta_nf (W : World) : (Instr.typeAssert .nilIface 20 64 true).run Try.prog W = .ok (.tuple #[.agg #[.int .i64 0, .int .i64 0, .int .i64 0], .bool false]) W := by kernel_rfl
theorem ta_nd (W : World) : (Instr.typeAssert .nilIface 20 62 true).run Try.prog W = .ok (.tuple #[.agg #[.int .i64 0], .bool false]) W := by kernel_rfl
theorem ta_ff (v : Value) (W : World) : (Instr.typeAssert (.iface 64 v) 20 64 true).run Try.prog W = .ok (.tuple #[v, .bool true]) W := by kernel_rfl
theorem ta_df (v : Value) (W : World) : (Instr.typeAssert (.iface 62 v) 20 64 true).run Try.prog W = .ok (.tuple #[.agg #[.int .i64 0, .int .i64 0, .int .i64 0], .bool false]) W := by kernel_rfl
theorem ta_dd (v : Value) (W : World) : (Instr.typeAssert (.iface 62 v) 20 62 true).run Try.prog W = .ok (.tuple #[v, .bool true]) W := by kernel_rfl

theorem told_shut (w : World) : Calls Try.prog 25 #[.nilIface] w fun e w' => e = .returned (.tuple #[.agg #[.int .i64 0, .int .i64 0, .int .i64 0], .bool false]) ∧ Kept w w' := by
  have t1 := ta_nf; have t2 := ta_nd
  go_enter Try.func25, Try.ntmps25
  go_wp2
  exact bodyPost_ret (v := .tuple #[.agg #[.int .i64 0, .int .i64 0, .int .i64 0], .bool false]) (by simp [results, Try.results25, go_sem]) rfl ⟨rfl, (by repeat (first | exact Kept.refl _ | assumption | refine Kept.alloc ?_ _ | refine Kept.drew ?_ | refine Kept.drewN ?_ _ | refine Kept.setCell ?_ (by simp; try omega) _ | refine Kept.trans ?_ (by assumption)))⟩
theorem told_file (i m p : Int) (w : World) : Calls Try.prog 25 #[.iface 64 (.agg #[.int .i64 i, .int .i64 m, .int .i64 p])] w fun e w' => e = .returned (.tuple #[.agg #[.int .i64 i, .int .i64 m, .int .i64 p], .bool true]) ∧ Kept w w' := by
  have t1 := ta_ff
  go_enter Try.func25, Try.ntmps25
  go_wp2
  exact bodyPost_ret (v := .tuple #[.agg #[.int .i64 i, .int .i64 m, .int .i64 p], .bool true]) (by simp [results, Try.results25, go_sem]) rfl ⟨rfl, (by repeat (first | exact Kept.refl _ | assumption | refine Kept.alloc ?_ _ | refine Kept.drew ?_ | refine Kept.drewN ?_ _ | refine Kept.setCell ?_ (by simp; try omega) _ | refine Kept.trans ?_ (by assumption)))⟩
theorem told_dir (i : Int) (w : World) : Calls Try.prog 25 #[.iface 62 (.agg #[.int .i64 i])] w fun e w' => e = .returned (.tuple #[.agg #[.int .i64 i, .int .i64 8, .int .i64 0], .bool true]) ∧ Kept w w' := by
  have t1 := ta_df; have t2 := ta_dd
  go_enter Try.func25, Try.ntmps25
  go_wp2
  exact bodyPost_ret (v := .tuple #[.agg #[.int .i64 i, .int .i64 8, .int .i64 0], .bool true]) (by simp [results, Try.results25, go_sem]) rfl ⟨rfl, (by repeat (first | exact Kept.refl _ | assumption | refine Kept.alloc ?_ _ | refine Kept.drew ?_ | refine Kept.drewN ?_ _ | refine Kept.setCell ?_ (by simp; try omega) _ | refine Kept.trans ?_ (by assumption)))⟩
theorem told_any (s : Sl) (w : World) : Calls Try.prog 25 #[s.val] w fun e w' => e = .returned (.tuple #[.agg #[.int .i64 s.ino, .int .i64 s.mode, .int .i64 s.pos], .bool s.up]) ∧ Kept w w' := by
  cases s with
  | shut => exact told_shut w
  | file i m p => exact told_file i m p w
  | dir i => exact told_dir i w

theorem mode_any (m : Int) (w : World) : Calls Try.prog 14 #[.int .i64 m] w fun e w' => e = .returned (.bool (modeB m)) ∧ w = w' := by
  by_cases h1 : m = 1
  · subst h1
    go_enter Try.func14, Try.ntmps14
    go_wp2
    go_ret
    exact ⟨rfl, rfl⟩
  by_cases h2 : m = 2
  · subst h2
    go_enter Try.func14, Try.ntmps14
    go_wp2
    go_ret
    exact ⟨rfl, rfl⟩
  by_cases h3 : m = 3
  · subst h3
    go_enter Try.func14, Try.ntmps14
    go_wp2
    go_ret
    exact ⟨rfl, rfl⟩
  by_cases h6 : m = 6
  · subst h6
    go_enter Try.func14, Try.ntmps14
    go_wp2
    go_ret
    exact ⟨rfl, rfl⟩
  by_cases h7 : m = 7
  · subst h7
    go_enter Try.func14, Try.ntmps14
    go_wp2
    go_ret
    exact ⟨rfl, rfl⟩
  by_cases h8 : m = 8
  · subst h8
    go_enter Try.func14, Try.ntmps14
    go_wp2
    go_ret
    exact ⟨rfl, rfl⟩
  have hm : modeB m = false := by simp [modeB]; omega
  rw [hm]
  have e1 : (m == 1) = false := by simpa using h1
  have e2 : (m == 2) = false := by simpa using h2
  have e3 : (m == 3) = false := by simpa using h3
  have e6 : (m == 6) = false := by simpa using h6
  have e7 : (m == 7) = false := by simpa using h7
  have e8 : (m == 8) = false := by simpa using h8
  clear hm h1 h2 h3 h6 h7 h8
  go_enter Try.func14, Try.ntmps14
  go_wp2
  go_ret
  exact ⟨rfl, rfl⟩

def NewPost (n : Nat) (F : Nat → Value) (w : World) (e : Ending) (w' : World) : Prop := ∃ a, e = .returned (.pointer (some ⟨a, 0, none⟩)) ∧ w.heap.size ≤ a ∧ Blk w' a n F ∧ Kept w w'
theorem new_any (w : World) : Calls Try.prog 6 #[] w (NewPost 8 (fun _ => .nilIface) w) := by
  go_enter Try.func6, Try.ntmps6
  go_wp2
  go_ret
  exact ⟨_, rfl, Nat.le_refl _, ⟨_, _, heap_alloc_new w _, rfl, fun j hj => by
    rcases (show j = 0 ∨ j = 1 ∨ j = 2 ∨ j = 3 ∨ j = 4 ∨ j = 5 ∨ j = 6 ∨ j = 7 by omega) with rfl | rfl | rfl | rfl | rfl | rfl | rfl | rfl <;> rfl⟩, (by repeat (first | exact Kept.refl _ | assumption | refine Kept.alloc ?_ _ | refine Kept.drew ?_ | refine Kept.drewN ?_ _ | refine Kept.setCell ?_ (by simp; try omega) _ | refine Kept.trans ?_ (by assumption)))⟩

theorem has_iff (S : Tb) (fd : Int) : has S fd = true ↔ 0 ≤ fd ∧ fd < 8 ∧ (S fd.toNat).up = true := by simp [has, and_assoc]
theorem get_yes (S : Tb) (a k : Nat) (hk : (k : Int) < 8) (hu : (S k).up = true) (w : World) (hS : TabP w a S) :
    Calls Try.prog 9 #[.pointer (some ⟨a, 0, none⟩), .int .i64 k] w fun e w' => e = .returned (.tuple #[.agg #[.int .i64 (S k).ino, .int .i64 (S k).mode, .int .i64 (S k).pos], .int .i64 0]) ∧ Kept w w' := by
  have hc := hS.cell k (by omega)
  have HT := hid (told_any (S k))
  generalize (S k).val = v at *
  generalize (S k).ino = i at *
  generalize (S k).mode = m at *
  generalize (S k).pos = p at *
  rw [hu] at HT
  clear hS hu
  go_enter Try.func9, Try.ntmps9
  go_wp2_with (go_at_call 25; refine (HT.out _).mono ?_; rintro e w2 ⟨rfl, k2⟩; have rk0 := k2.keeps (b := w.heap.size) (o := 0) (s := none) (v := .int .i64 0) (by simp [go_sem]); have rk1 := k2.keeps (b := w.heap.size) (o := 1) (s := none) (v := .int .i64 0) (by simp [go_sem]); have rk2 := k2.keeps (b := w.heap.size) (o := 2) (s := none) (v := .int .i64 0) (by simp [go_sem]); have rf0 := k2.free (b := w.heap.size) (o := 0) (s := none) (v := .int .i64 0) (by simp [go_sem]) (by simp [go_sem]); have rf1 := k2.free (b := w.heap.size) (o := 1) (s := none) (v := .int .i64 0) (by simp [go_sem]) (by simp [go_sem]); have rf2 := k2.free (b := w.heap.size) (o := 2) (s := none) (v := .int .i64 0) (by simp [go_sem]) (by simp [go_sem]); have k3 := hid (show Kept w w2 from (by repeat (first | exact Kept.refl _ | assumption | refine Kept.alloc ?_ _ | refine Kept.drew ?_ | refine Kept.drewN ?_ _ | refine Kept.setCell ?_ (by simp; try omega) _ | refine Kept.trans ?_ (by assumption)))); clear k2)
  exact bodyPost_ret (v := .tuple #[.agg #[.int .i64 i, .int .i64 m, .int .i64 p], .int .i64 0]) (by simp [results, Try.results9, go_sem, rk0, rk1, rk2]) rfl ⟨rfl, have k3 := k3.out; (by repeat (first | exact Kept.refl _ | assumption | refine Kept.alloc ?_ _ | refine Kept.drew ?_ | refine Kept.drewN ?_ _ | refine Kept.setCell ?_ (by simp; try omega) _ | refine Kept.trans ?_ (by assumption)))⟩
theorem get_out (a : Nat) (fd : Int) (h : fd < 0 ∨ 8 ≤ fd) (w : World) :
    Calls Try.prog 9 #[.pointer (some ⟨a, 0, none⟩), .int .i64 fd] w fun e w' => e = .returned (.tuple #[.agg #[.int .i64 0, .int .i64 0, .int .i64 0], .int .i64 15]) ∧ Kept w w' := by
  rcases h with h | h
  · go_enter Try.func9, Try.ntmps9
    go_wp2
    exact bodyPost_ret (v := .tuple #[.agg #[.int .i64 0, .int .i64 0, .int .i64 0], .int .i64 15]) (by simp [results, Try.results9, go_sem]) rfl ⟨rfl, (by repeat (first | exact Kept.refl _ | assumption | refine Kept.alloc ?_ _ | refine Kept.drew ?_ | refine Kept.drewN ?_ _ | refine Kept.setCell ?_ (by simp; try omega) _ | refine Kept.trans ?_ (by assumption)))⟩
  · have h' : ¬ fd < 0 := by omega
    go_enter Try.func9, Try.ntmps9
    go_wp2
    exact bodyPost_ret (v := .tuple #[.agg #[.int .i64 0, .int .i64 0, .int .i64 0], .int .i64 15]) (by simp [results, Try.results9, go_sem]) rfl ⟨rfl, (by repeat (first | exact Kept.refl _ | assumption | refine Kept.alloc ?_ _ | refine Kept.drew ?_ | refine Kept.drewN ?_ _ | refine Kept.setCell ?_ (by simp; try omega) _ | refine Kept.trans ?_ (by assumption)))⟩
theorem get_shut (S : Tb) (a k : Nat) (hk : (k : Int) < 8) (hu : (S k).up = false) (w : World) (hS : TabP w a S) :
    Calls Try.prog 9 #[.pointer (some ⟨a, 0, none⟩), .int .i64 k] w fun e w' => e = .returned (.tuple #[.agg #[.int .i64 0, .int .i64 0, .int .i64 0], .int .i64 15]) ∧ Kept w w' := by
  have hc := hS.cell k (by omega)
  have HT := hid (told_any (S k))
  generalize (S k).val = v at *
  generalize (S k).ino = i at *
  generalize (S k).mode = m at *
  generalize (S k).pos = p at *
  rw [hu] at HT
  clear hS hu
  go_enter Try.func9, Try.ntmps9
  go_wp2_with (go_at_call 25; refine (HT.out _).mono ?_; rintro e w2 ⟨rfl, k2⟩; have rk0 := k2.keeps (b := w.heap.size) (o := 0) (s := none) (v := .int .i64 0) (by simp [go_sem]); have rk1 := k2.keeps (b := w.heap.size) (o := 1) (s := none) (v := .int .i64 0) (by simp [go_sem]); have rk2 := k2.keeps (b := w.heap.size) (o := 2) (s := none) (v := .int .i64 0) (by simp [go_sem]); have rf0 := k2.free (b := w.heap.size) (o := 0) (s := none) (v := .int .i64 0) (by simp [go_sem]) (by simp [go_sem]); have rf1 := k2.free (b := w.heap.size) (o := 1) (s := none) (v := .int .i64 0) (by simp [go_sem]) (by simp [go_sem]); have rf2 := k2.free (b := w.heap.size) (o := 2) (s := none) (v := .int .i64 0) (by simp [go_sem]) (by simp [go_sem]); have k3 := hid (show Kept w w2 from (by repeat (first | exact Kept.refl _ | assumption | refine Kept.alloc ?_ _ | refine Kept.drew ?_ | refine Kept.drewN ?_ _ | refine Kept.setCell ?_ (by simp; try omega) _ | refine Kept.trans ?_ (by assumption)))); clear k2)
  exact bodyPost_ret (v := .tuple #[.agg #[.int .i64 0, .int .i64 0, .int .i64 0], .int .i64 15]) (by simp [results, Try.results9, go_sem, rk0, rk1, rk2]) rfl ⟨rfl, have k3 := k3.out; (by repeat (first | exact Kept.refl _ | assumption | refine Kept.alloc ?_ _ | refine Kept.drew ?_ | refine Kept.drewN ?_ _ | refine Kept.setCell ?_ (by simp; try omega) _ | refine Kept.trans ?_ (by assumption)))⟩
/-- Get, whatever is asked -/
theorem get_any (S : Tb) (a : Nat) (fd : Int) (w : World) (hS : TabP w a S) :
    Calls Try.prog 9 #[.pointer (some ⟨a, 0, none⟩), .int .i64 fd] w fun e w' => e = .returned (.tuple #[.agg #[.int .i64 (gI S fd), .int .i64 (gM S fd), .int .i64 (gP S fd)], .int .i64 (gE S fd)]) ∧ Kept w w' := by
  unfold gI gM gP gE
  cases h : has S fd with
  | true =>
    obtain ⟨h0, h1, h2⟩ := (has_iff S fd).1 h
    have := get_yes S a fd.toNat (by omega) h2 w hS
    rw [show ((fd.toNat : Nat) : Int) = fd by omega] at this
    exact this
  | false =>
    by_cases hr : 0 ≤ fd ∧ fd < 8
    · have hu : (S fd.toNat).up = false := by
        cases hx : (S fd.toNat).up with
        | false => rfl
        | true => rw [(has_iff S fd).2 ⟨hr.1, hr.2, hx⟩] at h; cases h
      have := get_shut S a fd.toNat (by omega) hu w hS
      rw [show ((fd.toNat : Nat) : Int) = fd by omega] at this
      exact this
    · exact get_out a fd (by omega) w

theorem fil_no (S : Tb) (a : Nat) (fd : Int) (h : has S fd = false) (w : World) (hS : TabP w a S) :
    Calls Try.prog 26 #[.pointer (some ⟨a, 0, none⟩), .int .i64 fd] w fun e w' => e = .returned (.tuple #[.agg #[.int .i64 0, .int .i64 0, .int .i64 0], .int .i64 15]) ∧ Kept w w' := by
  have HG := hid (get_any S a fd)
  unfold gI gM gP gE at HG
  rw [h] at HG
  have HS := hid hS
  clear hS h
  go_enter Try.func26, Try.ntmps26
  go_wp2_with (go_at_call 9; refine (HG.out _ (Kept.blk (by repeat (first | exact Kept.refl _ | assumption | refine Kept.alloc ?_ _ | refine Kept.drew ?_ | refine Kept.drewN ?_ _ | refine Kept.setCell ?_ (by simp; try omega) _ | refine Kept.trans ?_ (by assumption))) HS.out)).mono ?_; rintro e w2 ⟨rfl, k2⟩; have rk0 := k2.keeps (b := w.heap.size) (o := 0) (s := none) (v := .int .i64 0) (by simp [go_sem]); have rk1 := k2.keeps (b := w.heap.size) (o := 1) (s := none) (v := .int .i64 0) (by simp [go_sem]); have rk2 := k2.keeps (b := w.heap.size) (o := 2) (s := none) (v := .int .i64 0) (by simp [go_sem]); have rf0 := k2.free (b := w.heap.size) (o := 0) (s := none) (v := .int .i64 0) (by simp [go_sem]) (by simp [go_sem]); have rf1 := k2.free (b := w.heap.size) (o := 1) (s := none) (v := .int .i64 0) (by simp [go_sem]) (by simp [go_sem]); have rf2 := k2.free (b := w.heap.size) (o := 2) (s := none) (v := .int .i64 0) (by simp [go_sem]) (by simp [go_sem]); have k3 := hid (show Kept w w2 from (by repeat (first | exact Kept.refl _ | assumption | refine Kept.alloc ?_ _ | refine Kept.drew ?_ | refine Kept.drewN ?_ _ | refine Kept.setCell ?_ (by simp; try omega) _ | refine Kept.trans ?_ (by assumption)))); clear k2)
  exact bodyPost_ret (v := .tuple #[.agg #[.int .i64 0, .int .i64 0, .int .i64 0], .int .i64 15]) (by simp [results, Try.results26, go_sem, rk0, rk1, rk2]) rfl ⟨rfl, have k3 := k3.out; (by repeat (first | exact Kept.refl _ | assumption | refine Kept.alloc ?_ _ | refine Kept.drew ?_ | refine Kept.drewN ?_ _ | refine Kept.setCell ?_ (by simp; try omega) _ | refine Kept.trans ?_ (by assumption)))⟩
theorem fil_dir (S : Tb) (a k : Nat) (hk : (k : Int) < 8) (i : Int) (h : S k = .dir i) (w : World) (hS : TabP w a S) :
    Calls Try.prog 26 #[.pointer (some ⟨a, 0, none⟩), .int .i64 k] w fun e w' => e = .returned (.tuple #[.agg #[.int .i64 0, .int .i64 0, .int .i64 0], .int .i64 12]) ∧ Kept w w' := by
  have HG := hid (get_yes S a k hk (by rw [h]; rfl))
  have hc := hS.cell k (by omega)
  simp only [h, Sl.val] at hc
  rw [h] at HG
  have HS := hid hS
  clear hS h
  have t1 := ta_df
  go_enter Try.func26, Try.ntmps26
  go_wp2_with (go_at_call 9; refine (HG.out _ (Kept.blk (by repeat (first | exact Kept.refl _ | assumption | refine Kept.alloc ?_ _ | refine Kept.drew ?_ | refine Kept.drewN ?_ _ | refine Kept.setCell ?_ (by simp; try omega) _ | refine Kept.trans ?_ (by assumption))) HS.out)).mono ?_; rintro e w2 ⟨rfl, k2⟩; have rk0 := k2.keeps (b := w.heap.size) (o := 0) (s := none) (v := .int .i64 0) (by simp [go_sem]); have rk1 := k2.keeps (b := w.heap.size) (o := 1) (s := none) (v := .int .i64 0) (by simp [go_sem]); have rk2 := k2.keeps (b := w.heap.size) (o := 2) (s := none) (v := .int .i64 0) (by simp [go_sem]); have rf0 := k2.free (b := w.heap.size) (o := 0) (s := none) (v := .int .i64 0) (by simp [go_sem]) (by simp [go_sem]); have rf1 := k2.free (b := w.heap.size) (o := 1) (s := none) (v := .int .i64 0) (by simp [go_sem]) (by simp [go_sem]); have rf2 := k2.free (b := w.heap.size) (o := 2) (s := none) (v := .int .i64 0) (by simp [go_sem]) (by simp [go_sem]); have k3 := hid (show Kept w w2 from (by repeat (first | exact Kept.refl _ | assumption | refine Kept.alloc ?_ _ | refine Kept.drew ?_ | refine Kept.drewN ?_ _ | refine Kept.setCell ?_ (by simp; try omega) _ | refine Kept.trans ?_ (by assumption)))); have hc2 := k3.out.keeps hc; clear k2)
  exact bodyPost_ret (v := .tuple #[.agg #[.int .i64 0, .int .i64 0, .int .i64 0], .int .i64 12]) (by simp [results, Try.results26, go_sem, rk0, rk1, rk2]) rfl ⟨rfl, have k3 := k3.out; (by repeat (first | exact Kept.refl _ | assumption | refine Kept.alloc ?_ _ | refine Kept.drew ?_ | refine Kept.drewN ?_ _ | refine Kept.setCell ?_ (by simp; try omega) _ | refine Kept.trans ?_ (by assumption)))⟩
theorem fil_file (S : Tb) (a k : Nat) (hk : (k : Int) < 8) (i m p : Int) (h : S k = .file i m p) (w : World) (hS : TabP w a S) :
    Calls Try.prog 26 #[.pointer (some ⟨a, 0, none⟩), .int .i64 k] w fun e w' => e = .returned (.tuple #[.agg #[.int .i64 i, .int .i64 m, .int .i64 p], .int .i64 0]) ∧ Kept w w' := by
  have HG := hid (get_yes S a k hk (by rw [h]; rfl))
  have hc := hS.cell k (by omega)
  simp only [h, Sl.val] at hc
  rw [h] at HG
  have HS := hid hS
  clear hS h
  have t1 := ta_ff
  go_enter Try.func26, Try.ntmps26
  go_wp2_with (go_at_call 9; refine (HG.out _ (Kept.blk (by repeat (first | exact Kept.refl _ | assumption | refine Kept.alloc ?_ _ | refine Kept.drew ?_ | refine Kept.drewN ?_ _ | refine Kept.setCell ?_ (by simp; try omega) _ | refine Kept.trans ?_ (by assumption))) HS.out)).mono ?_; rintro e w2 ⟨rfl, k2⟩; have rk0 := k2.keeps (b := w.heap.size) (o := 0) (s := none) (v := .int .i64 0) (by simp [go_sem]); have rk1 := k2.keeps (b := w.heap.size) (o := 1) (s := none) (v := .int .i64 0) (by simp [go_sem]); have rk2 := k2.keeps (b := w.heap.size) (o := 2) (s := none) (v := .int .i64 0) (by simp [go_sem]); have rf0 := k2.free (b := w.heap.size) (o := 0) (s := none) (v := .int .i64 0) (by simp [go_sem]) (by simp [go_sem]); have rf1 := k2.free (b := w.heap.size) (o := 1) (s := none) (v := .int .i64 0) (by simp [go_sem]) (by simp [go_sem]); have rf2 := k2.free (b := w.heap.size) (o := 2) (s := none) (v := .int .i64 0) (by simp [go_sem]) (by simp [go_sem]); have k3 := hid (show Kept w w2 from (by repeat (first | exact Kept.refl _ | assumption | refine Kept.alloc ?_ _ | refine Kept.drew ?_ | refine Kept.drewN ?_ _ | refine Kept.setCell ?_ (by simp; try omega) _ | refine Kept.trans ?_ (by assumption)))); have hc2 := k3.out.keeps hc; clear k2)
  exact bodyPost_ret (v := .tuple #[.agg #[.int .i64 i, .int .i64 m, .int .i64 p], .int .i64 0]) (by simp [results, Try.results26, go_sem, rk0, rk1, rk2]) rfl ⟨rfl, have k3 := k3.out; (by repeat (first | exact Kept.refl _ | assumption | refine Kept.alloc ?_ _ | refine Kept.drew ?_ | refine Kept.drewN ?_ _ | refine Kept.setCell ?_ (by simp; try omega) _ | refine Kept.trans ?_ (by assumption)))⟩

def FilePost (i m p x : Int) (w : World) (e : Ending) (w' : World) : Prop := e = .returned (.tuple #[.agg #[.int .i64 i, .int .i64 m, .int .i64 p], .int .i64 x]) ∧ Kept w w'
theorem File_mode (a : Nat) (fd m : Int) (h1 : m ≠ 1) (h2 : m ≠ 2) (w : World) :
    Calls Try.prog 17 #[.pointer (some ⟨a, 0, none⟩), .int .i64 fd, .int .i64 m] w (FilePost 0 0 0 15 w) := by
  have e1 : (m != 1) = true := by simpa using h1
  have e2 : (m != 2) = true := by simpa using h2
  clear h1 h2
  go_enter Try.func17, Try.ntmps17
  go_wp2
  exact bodyPost_ret (v := .tuple #[.agg #[.int .i64 0, .int .i64 0, .int .i64 0], .int .i64 15]) (by simp [results, Try.results17, go_sem]) rfl ⟨rfl, (by repeat (first | exact Kept.refl _ | assumption | refine Kept.alloc ?_ _ | refine Kept.drew ?_ | refine Kept.drewN ?_ _ | refine Kept.setCell ?_ (by simp; try omega) _ | refine Kept.trans ?_ (by assumption)))⟩
theorem File_err (a : Nat) (fd m x : Int) (hm : m = 1 ∨ m = 2) (hx : (x != 0) = true) (w : World) (HF : Hid (∀ w', Kept w w' → Calls Try.prog 26 #[.pointer (some ⟨a, 0, none⟩), .int .i64 fd] w' fun e w2 => e = .returned (.tuple #[.agg #[.int .i64 0, .int .i64 0, .int .i64 0], .int .i64 x]) ∧ Kept w' w2)) :
    Calls Try.prog 17 #[.pointer (some ⟨a, 0, none⟩), .int .i64 fd, .int .i64 m] w (FilePost 0 0 0 x w) := by
  rcases hm with rfl | rfl
  · go_enter Try.func17, Try.ntmps17
    go_wp2_with (go_at_call 26; refine (HF.out _ (by repeat (first | exact Kept.refl _ | assumption | refine Kept.alloc ?_ _ | refine Kept.drew ?_ | refine Kept.drewN ?_ _ | refine Kept.setCell ?_ (by simp; try omega) _ | refine Kept.trans ?_ (by assumption)))).mono ?_; rintro e w2 ⟨rfl, k2⟩; have rk0 := k2.keeps (b := w.heap.size) (o := 0) (s := none) (v := .int .i64 0) (by simp [go_sem]); have rk1 := k2.keeps (b := w.heap.size) (o := 1) (s := none) (v := .int .i64 0) (by simp [go_sem]); have rk2 := k2.keeps (b := w.heap.size) (o := 2) (s := none) (v := .int .i64 0) (by simp [go_sem]); have rf0 := k2.free (b := w.heap.size) (o := 0) (s := none) (v := .int .i64 0) (by simp [go_sem]) (by simp [go_sem]); have rf1 := k2.free (b := w.heap.size) (o := 1) (s := none) (v := .int .i64 0) (by simp [go_sem]) (by simp [go_sem]); have rf2 := k2.free (b := w.heap.size) (o := 2) (s := none) (v := .int .i64 0) (by simp [go_sem]) (by simp [go_sem]); have k3 := hid (show Kept w w2 from (by repeat (first | exact Kept.refl _ | assumption | refine Kept.alloc ?_ _ | refine Kept.drew ?_ | refine Kept.drewN ?_ _ | refine Kept.setCell ?_ (by simp; try omega) _ | refine Kept.trans ?_ (by assumption)))); clear k2)
    exact bodyPost_ret (v := .tuple #[.agg #[.int .i64 0, .int .i64 0, .int .i64 0], .int .i64 x]) (by simp [results, Try.results17, go_sem, rk0, rk1, rk2]) rfl ⟨rfl, have k3 := k3.out; (by repeat (first | exact Kept.refl _ | assumption | refine Kept.alloc ?_ _ | refine Kept.drew ?_ | refine Kept.drewN ?_ _ | refine Kept.setCell ?_ (by simp; try omega) _ | refine Kept.trans ?_ (by assumption)))⟩
  · go_enter Try.func17, Try.ntmps17
    go_wp2_with (go_at_call 26; refine (HF.out _ (by repeat (first | exact Kept.refl _ | assumption | refine Kept.alloc ?_ _ | refine Kept.drew ?_ | refine Kept.drewN ?_ _ | refine Kept.setCell ?_ (by simp; try omega) _ | refine Kept.trans ?_ (by assumption)))).mono ?_; rintro e w2 ⟨rfl, k2⟩; have rk0 := k2.keeps (b := w.heap.size) (o := 0) (s := none) (v := .int .i64 0) (by simp [go_sem]); have rk1 := k2.keeps (b := w.heap.size) (o := 1) (s := none) (v := .int .i64 0) (by simp [go_sem]); have rk2 := k2.keeps (b := w.heap.size) (o := 2) (s := none) (v := .int .i64 0) (by simp [go_sem]); have rf0 := k2.free (b := w.heap.size) (o := 0) (s := none) (v := .int .i64 0) (by simp [go_sem]) (by simp [go_sem]); have rf1 := k2.free (b := w.heap.size) (o := 1) (s := none) (v := .int .i64 0) (by simp [go_sem]) (by simp [go_sem]); have rf2 := k2.free (b := w.heap.size) (o := 2) (s := none) (v := .int .i64 0) (by simp [go_sem]) (by simp [go_sem]); have k3 := hid (show Kept w w2 from (by repeat (first | exact Kept.refl _ | assumption | refine Kept.alloc ?_ _ | refine Kept.drew ?_ | refine Kept.drewN ?_ _ | refine Kept.setCell ?_ (by simp; try omega) _ | refine Kept.trans ?_ (by assumption)))); clear k2)
    exact bodyPost_ret (v := .tuple #[.agg #[.int .i64 0, .int .i64 0, .int .i64 0], .int .i64 x]) (by simp [results, Try.results17, go_sem, rk0, rk1, rk2]) rfl ⟨rfl, have k3 := k3.out; (by repeat (first | exact Kept.refl _ | assumption | refine Kept.alloc ?_ _ | refine Kept.drew ?_ | refine Kept.drewN ?_ _ | refine Kept.setCell ?_ (by simp; try omega) _ | refine Kept.trans ?_ (by assumption)))⟩
theorem bits_use (m d : Int) (hm : m = 1 ∨ m = 2 ∨ m = 3 ∨ m = 6 ∨ m = 7) (hd : d = 1 ∨ d = 2) : (bits BinOp.and IntKind.i64 m d == 0) = !uses m d := by
  rcases hd with rfl | rfl <;> rcases hm with rfl | rfl | rfl | rfl | rfl <;> decide
set_option maxHeartbeats 1000000 in
theorem File_use (S : Tb) (a k : Nat) (hk : (k : Int) < 8) (i m p d : Int) (h : S k = .file i m p) (hm : m = 1 ∨ m = 2 ∨ m = 3 ∨ m = 6 ∨ m = 7) (hd : d = 1 ∨ d = 2) (hu : uses m d = true) (w : World) (hS : TabP w a S) :
    Calls Try.prog 17 #[.pointer (some ⟨a, 0, none⟩), .int .i64 k, .int .i64 d] w (FilePost i m p 0 w) := by
  have HF := hid (fil_file S a k hk i m p h)
  have HG := hid (get_yes S a k hk (by rw [h]; rfl))
  rw [h] at HG
  simp only [Sl.ino, Sl.mode, Sl.pos] at HG
  have HS := hid hS
  have hb := bits_use m d hm hd
  rw [hu] at hb
  clear hS h hm hu
  rcases hd with rfl | rfl
  all_goals
    go_enter Try.func17, Try.ntmps17
    go_wp2_with (first
      | (go_at_call 26; refine (HF.out _ (Kept.blk (by repeat (first | exact Kept.refl _ | assumption | refine Kept.alloc ?_ _ | refine Kept.drew ?_ | refine Kept.drewN ?_ _ | refine Kept.setCell ?_ (by simp; try omega) _ | refine Kept.trans ?_ (by assumption))) HS.out)).mono ?_; rintro e w2 ⟨rfl, k2⟩; have rk0 := k2.keeps (b := w.heap.size) (o := 0) (s := none) (v := .int .i64 0) (by simp [go_sem]); have rk1 := k2.keeps (b := w.heap.size) (o := 1) (s := none) (v := .int .i64 0) (by simp [go_sem]); have rk2 := k2.keeps (b := w.heap.size) (o := 2) (s := none) (v := .int .i64 0) (by simp [go_sem]); have rf0 := k2.free (b := w.heap.size) (o := 0) (s := none) (v := .int .i64 0) (by simp [go_sem]) (by simp [go_sem]); have rf1 := k2.free (b := w.heap.size) (o := 1) (s := none) (v := .int .i64 0) (by simp [go_sem]) (by simp [go_sem]); have rf2 := k2.free (b := w.heap.size) (o := 2) (s := none) (v := .int .i64 0) (by simp [go_sem]) (by simp [go_sem]); have k3 := hid (show Kept w w2 from (by repeat (first | exact Kept.refl _ | assumption | refine Kept.alloc ?_ _ | refine Kept.drew ?_ | refine Kept.drewN ?_ _ | refine Kept.setCell ?_ (by simp; try omega) _ | refine Kept.trans ?_ (by assumption)))); clear k2)
      | (go_at_call 9; refine (HG.out _ (Kept.blk (k3.out.trans (by exact (Kept.refl w2).alloc _)) HS.out)).mono ?_; rintro e w4 ⟨rfl, k4⟩; have k6 := hid (show Kept w2 w4 from ((Kept.refl w2).alloc _).trans k4); have k5 := hid (k3.out.trans k6.out); have rf0 := k6.out.free rk0 rf0; have rf1 := k6.out.free rk1 rf1; have rf2 := k6.out.free rk2 rf2; have rk0 := k6.out.keeps rk0; have rk1 := k6.out.keeps rk1; have rk2 := k6.out.keeps rk2; clear k4))
    exact bodyPost_ret (v := .tuple #[.agg #[.int .i64 i, .int .i64 m, .int .i64 p], .int .i64 0]) (by simp [results, Try.results17, go_sem, rk0, rk1, rk2]) rfl ⟨rfl, have k3 := k5.out; (by repeat (first | exact Kept.refl _ | assumption | refine Kept.alloc ?_ _ | refine Kept.drew ?_ | refine Kept.drewN ?_ _ | refine Kept.setCell ?_ (by simp; try omega) _ | refine Kept.trans ?_ (by assumption)))⟩
set_option maxHeartbeats 1000000 in
theorem File_not (S : Tb) (a k : Nat) (hk : (k : Int) < 8) (i m p d : Int) (h : S k = .file i m p) (hm : m = 1 ∨ m = 2 ∨ m = 3 ∨ m = 6 ∨ m = 7) (hd : d = 1 ∨ d = 2) (hu : uses m d = false) (w : World) (hS : TabP w a S) :
    Calls Try.prog 17 #[.pointer (some ⟨a, 0, none⟩), .int .i64 k, .int .i64 d] w (FilePost 0 0 0 15 w) := by
  have HF := hid (fil_file S a k hk i m p h)
  have HG := hid (get_yes S a k hk (by rw [h]; rfl))
  rw [h] at HG
  simp only [Sl.ino, Sl.mode, Sl.pos] at HG
  have HS := hid hS
  have hb := bits_use m d hm hd
  rw [hu] at hb
  clear hS h hm hu
  rcases hd with rfl | rfl
  all_goals
    go_enter Try.func17, Try.ntmps17
    go_wp2_with (first
      | (go_at_call 26; refine (HF.out _ (Kept.blk (by repeat (first | exact Kept.refl _ | assumption | refine Kept.alloc ?_ _ | refine Kept.drew ?_ | refine Kept.drewN ?_ _ | refine Kept.setCell ?_ (by simp; try omega) _ | refine Kept.trans ?_ (by assumption))) HS.out)).mono ?_; rintro e w2 ⟨rfl, k2⟩; have rk0 := k2.keeps (b := w.heap.size) (o := 0) (s := none) (v := .int .i64 0) (by simp [go_sem]); have rk1 := k2.keeps (b := w.heap.size) (o := 1) (s := none) (v := .int .i64 0) (by simp [go_sem]); have rk2 := k2.keeps (b := w.heap.size) (o := 2) (s := none) (v := .int .i64 0) (by simp [go_sem]); have rf0 := k2.free (b := w.heap.size) (o := 0) (s := none) (v := .int .i64 0) (by simp [go_sem]) (by simp [go_sem]); have rf1 := k2.free (b := w.heap.size) (o := 1) (s := none) (v := .int .i64 0) (by simp [go_sem]) (by simp [go_sem]); have rf2 := k2.free (b := w.heap.size) (o := 2) (s := none) (v := .int .i64 0) (by simp [go_sem]) (by simp [go_sem]); have k3 := hid (show Kept w w2 from (by repeat (first | exact Kept.refl _ | assumption | refine Kept.alloc ?_ _ | refine Kept.drew ?_ | refine Kept.drewN ?_ _ | refine Kept.setCell ?_ (by simp; try omega) _ | refine Kept.trans ?_ (by assumption)))); clear k2)
      | (go_at_call 9; refine (HG.out _ (Kept.blk (k3.out.trans (by exact (Kept.refl w2).alloc _)) HS.out)).mono ?_; rintro e w4 ⟨rfl, k4⟩; have k6 := hid (show Kept w2 w4 from ((Kept.refl w2).alloc _).trans k4); have k5 := hid (k3.out.trans k6.out); have rf0 := k6.out.free rk0 rf0; have rf1 := k6.out.free rk1 rf1; have rf2 := k6.out.free rk2 rf2; have rk0 := k6.out.keeps rk0; have rk1 := k6.out.keeps rk1; have rk2 := k6.out.keeps rk2; clear k4))
    exact bodyPost_ret (v := .tuple #[.agg #[.int .i64 0, .int .i64 0, .int .i64 0], .int .i64 15]) (by simp [results, Try.results17, go_sem, rk0, rk1, rk2]) rfl ⟨rfl, have k3 := k3.out; (by repeat (first | exact Kept.refl _ | assumption | refine Kept.alloc ?_ _ | refine Kept.drew ?_ | refine Kept.drewN ?_ _ | refine Kept.setCell ?_ (by simp; try omega) _ | refine Kept.trans ?_ (by assumption)))⟩
end Go.Proofs.Ythbnkoaigeffnaa
