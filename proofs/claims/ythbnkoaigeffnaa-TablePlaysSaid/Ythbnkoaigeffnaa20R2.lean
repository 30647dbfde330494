/- haymowref20: File, Seek, Close, Opens, List. -/
import Derived.Test.Ythbnkoaigeffnaa20R
namespace Go.Proofs.Ythbnkoaigeffnaa
set_option linter.unusedSimpArgs false
set_option linter.unusedVariables false
open Go.RowKit

theorem rFile_no (S : Tb) (hok : Ok S) (b : Nat) (fd d : Int) (h : has S fd = false) (w : World) (hS : TabR w b S) :
    Calls Try.prog 18 #[.pointer (some ⟨b, 0, none⟩), .int .i64 fd, .int .i64 d] w (FilePost 0 0 0 15 w) := by
  have HG := hid (fun w hS => rget_any S hok b fd w hS)
  unfold gI gM gP gE at HG
  rw [h] at HG
  have HS := hid hS
  clear hS h
  go_enter Try.func18, Try.ntmps18
  go_wp2_with (go_at_call 16; refine (HG.out _ (Kept.blk (by repeat (first | exact Kept.refl _ | assumption | refine Kept.alloc ?_ _ | refine Kept.drew ?_ | refine Kept.drewN ?_ _ | refine Kept.setCell ?_ (by simp; try omega) _ | refine Kept.trans ?_ (by assumption))) HS.out)).mono ?_; rintro e w2 ⟨rfl, k2⟩; have rk0 := k2.keeps (b := w.heap.size) (o := 0) (s := none) (v := .int .i64 0) (by simp [go_sem]); have rk1 := k2.keeps (b := w.heap.size) (o := 1) (s := none) (v := .int .i64 0) (by simp [go_sem]); have rk2 := k2.keeps (b := w.heap.size) (o := 2) (s := none) (v := .int .i64 0) (by simp [go_sem]); have rf0 := k2.free (b := w.heap.size) (o := 0) (s := none) (v := .int .i64 0) (by simp [go_sem]) (by simp [go_sem]); have rf1 := k2.free (b := w.heap.size) (o := 1) (s := none) (v := .int .i64 0) (by simp [go_sem]) (by simp [go_sem]); have rf2 := k2.free (b := w.heap.size) (o := 2) (s := none) (v := .int .i64 0) (by simp [go_sem]) (by simp [go_sem]); have k3 := hid (show Kept w w2 from (by repeat (first | exact Kept.refl _ | assumption | refine Kept.alloc ?_ _ | refine Kept.drew ?_ | refine Kept.drewN ?_ _ | refine Kept.setCell ?_ (by simp; try omega) _ | refine Kept.trans ?_ (by assumption)))); clear k2)
  exact bodyPost_ret (v := .tuple #[.agg #[.int .i64 0, .int .i64 0, .int .i64 0], .int .i64 15]) (by simp [results, Try.results18, go_sem, rk0, rk1, rk2]) rfl ⟨rfl, have k3 := k3.out; (by repeat (first | exact Kept.refl _ | assumption | refine Kept.alloc ?_ _ | refine Kept.drew ?_ | refine Kept.drewN ?_ _ | refine Kept.setCell ?_ (by simp; try omega) _ | refine Kept.trans ?_ (by assumption)))⟩
theorem rFile_mode (S : Tb) (hok : Ok S) (b : Nat) (fd d : Int) (h : has S fd = true) (h1 : d ≠ 1) (h2 : d ≠ 2) (w : World) (hS : TabR w b S) :
    Calls Try.prog 18 #[.pointer (some ⟨b, 0, none⟩), .int .i64 fd, .int .i64 d] w (FilePost 0 0 0 15 w) := by
  have HG := hid (fun w hS => rget_any S hok b fd w hS)
  have hge : gE S fd = 0 := by simp [gE, h]
  rw [hge] at HG
  generalize gI S fd = i1 at *
  generalize gM S fd = m1 at *
  generalize gP S fd = p1 at *
  have HS := hid hS
  have e1 : (d != 1) = true := by simpa using h1
  have e2 : (d != 2) = true := by simpa using h2
  clear hS h hge h1 h2
  go_enter Try.func18, Try.ntmps18
  go_wp2_with (go_at_call 16; refine (HG.out _ (Kept.blk (by repeat (first | exact Kept.refl _ | assumption | refine Kept.alloc ?_ _ | refine Kept.drew ?_ | refine Kept.drewN ?_ _ | refine Kept.setCell ?_ (by simp; try omega) _ | refine Kept.trans ?_ (by assumption))) HS.out)).mono ?_; rintro e w2 ⟨rfl, k2⟩; have rk0 := k2.keeps (b := w.heap.size) (o := 0) (s := none) (v := .int .i64 0) (by simp [go_sem]); have rk1 := k2.keeps (b := w.heap.size) (o := 1) (s := none) (v := .int .i64 0) (by simp [go_sem]); have rk2 := k2.keeps (b := w.heap.size) (o := 2) (s := none) (v := .int .i64 0) (by simp [go_sem]); have rf0 := k2.free (b := w.heap.size) (o := 0) (s := none) (v := .int .i64 0) (by simp [go_sem]) (by simp [go_sem]); have rf1 := k2.free (b := w.heap.size) (o := 1) (s := none) (v := .int .i64 0) (by simp [go_sem]) (by simp [go_sem]); have rf2 := k2.free (b := w.heap.size) (o := 2) (s := none) (v := .int .i64 0) (by simp [go_sem]) (by simp [go_sem]); have k3 := hid (show Kept w w2 from (by repeat (first | exact Kept.refl _ | assumption | refine Kept.alloc ?_ _ | refine Kept.drew ?_ | refine Kept.drewN ?_ _ | refine Kept.setCell ?_ (by simp; try omega) _ | refine Kept.trans ?_ (by assumption)))); clear k2)
  exact bodyPost_ret (v := .tuple #[.agg #[.int .i64 0, .int .i64 0, .int .i64 0], .int .i64 15]) (by simp [results, Try.results18, go_sem, rk0, rk1, rk2]) rfl ⟨rfl, have k3 := k3.out; (by repeat (first | exact Kept.refl _ | assumption | refine Kept.alloc ?_ _ | refine Kept.drew ?_ | refine Kept.drewN ?_ _ | refine Kept.setCell ?_ (by simp; try omega) _ | refine Kept.trans ?_ (by assumption)))⟩
theorem rFile_dir (S : Tb) (hok : Ok S) (b k : Nat) (hk : k < 8) (i d : Int) (h : S k = .dir i) (hd : d = 1 ∨ d = 2) (w : World) (hS : TabR w b S) :
    Calls Try.prog 18 #[.pointer (some ⟨b, 0, none⟩), .int .i64 k, .int .i64 d] w (FilePost 0 0 0 12 w) := by
  have HG := hid (fun w hS => rget_yes S hok b k hk (by rw [h]; rfl) w hS)
  rw [h] at HG
  simp only [Sl.ino, Sl.mode, Sl.pos] at HG
  have HS := hid hS
  clear hS h
  rcases hd with rfl | rfl
  all_goals
    go_enter Try.func18, Try.ntmps18
    go_wp2_with (go_at_call 16; refine (HG.out _ (Kept.blk (by repeat (first | exact Kept.refl _ | assumption | refine Kept.alloc ?_ _ | refine Kept.drew ?_ | refine Kept.drewN ?_ _ | refine Kept.setCell ?_ (by simp; try omega) _ | refine Kept.trans ?_ (by assumption))) HS.out)).mono ?_; rintro e w2 ⟨rfl, k2⟩; have rk0 := k2.keeps (b := w.heap.size) (o := 0) (s := none) (v := .int .i64 0) (by simp [go_sem]); have rk1 := k2.keeps (b := w.heap.size) (o := 1) (s := none) (v := .int .i64 0) (by simp [go_sem]); have rk2 := k2.keeps (b := w.heap.size) (o := 2) (s := none) (v := .int .i64 0) (by simp [go_sem]); have rf0 := k2.free (b := w.heap.size) (o := 0) (s := none) (v := .int .i64 0) (by simp [go_sem]) (by simp [go_sem]); have rf1 := k2.free (b := w.heap.size) (o := 1) (s := none) (v := .int .i64 0) (by simp [go_sem]) (by simp [go_sem]); have rf2 := k2.free (b := w.heap.size) (o := 2) (s := none) (v := .int .i64 0) (by simp [go_sem]) (by simp [go_sem]); have k3 := hid (show Kept w w2 from (by repeat (first | exact Kept.refl _ | assumption | refine Kept.alloc ?_ _ | refine Kept.drew ?_ | refine Kept.drewN ?_ _ | refine Kept.setCell ?_ (by simp; try omega) _ | refine Kept.trans ?_ (by assumption)))); clear k2)
    exact bodyPost_ret (v := .tuple #[.agg #[.int .i64 0, .int .i64 0, .int .i64 0], .int .i64 12]) (by simp [results, Try.results18, go_sem, rk0, rk1, rk2]) rfl ⟨rfl, have k3 := k3.out; (by repeat (first | exact Kept.refl _ | assumption | refine Kept.alloc ?_ _ | refine Kept.drew ?_ | refine Kept.drewN ?_ _ | refine Kept.setCell ?_ (by simp; try omega) _ | refine Kept.trans ?_ (by assumption)))⟩
set_option maxHeartbeats 2000000 in
theorem rFile_file (S : Tb) (hok : Ok S) (b k : Nat) (hk : k < 8) (i m p d : Int) (h : S k = .file i m p) (hd : d = 1 ∨ d = 2) (w : World) (hS : TabR w b S) :
    Calls Try.prog 18 #[.pointer (some ⟨b, 0, none⟩), .int .i64 k, .int .i64 d] w (if uses m d then FilePost i m p 0 w else FilePost 0 0 0 15 w) := by
  have HG := hid (fun w hS => rget_yes S hok b k hk (by rw [h]; rfl) w hS)
  have hm := (hok k hk)
  rw [h] at HG hm
  simp only [Sl.ino, Sl.mode, Sl.pos] at HG
  have hm := hm.2.2.1
  have HS := hid hS
  clear hS h
  rcases hd with rfl | rfl <;> rcases hm with rfl | rfl | rfl | rfl | rfl
  all_goals
    first
      | rw [if_pos (show uses _ _ = true from by decide)]
      | rw [if_neg (show ¬ uses _ _ = true from by decide)]
    go_enter Try.func18, Try.ntmps18
    go_wp2_with (go_at_call 16; refine (HG.out _ (Kept.blk (by repeat (first | exact Kept.refl _ | assumption | refine Kept.alloc ?_ _ | refine Kept.drew ?_ | refine Kept.drewN ?_ _ | refine Kept.setCell ?_ (by simp; try omega) _ | refine Kept.trans ?_ (by assumption))) HS.out)).mono ?_; rintro e w2 ⟨rfl, k2⟩; have rk0 := k2.keeps (b := w.heap.size) (o := 0) (s := none) (v := .int .i64 0) (by simp [go_sem]); have rk1 := k2.keeps (b := w.heap.size) (o := 1) (s := none) (v := .int .i64 0) (by simp [go_sem]); have rk2 := k2.keeps (b := w.heap.size) (o := 2) (s := none) (v := .int .i64 0) (by simp [go_sem]); have rf0 := k2.free (b := w.heap.size) (o := 0) (s := none) (v := .int .i64 0) (by simp [go_sem]) (by simp [go_sem]); have rf1 := k2.free (b := w.heap.size) (o := 1) (s := none) (v := .int .i64 0) (by simp [go_sem]) (by simp [go_sem]); have rf2 := k2.free (b := w.heap.size) (o := 2) (s := none) (v := .int .i64 0) (by simp [go_sem]) (by simp [go_sem]); have k3 := hid (show Kept w w2 from (by repeat (first | exact Kept.refl _ | assumption | refine Kept.alloc ?_ _ | refine Kept.drew ?_ | refine Kept.drewN ?_ _ | refine Kept.setCell ?_ (by simp; try omega) _ | refine Kept.trans ?_ (by assumption)))); clear k2)
    first
      | exact bodyPost_ret (v := .tuple #[.agg #[.int .i64 i, .int .i64 _, .int .i64 p], .int .i64 0]) (by simp [results, Try.results18, go_sem, rk0, rk1, rk2]; rfl) rfl ⟨rfl, have k3 := k3.out; (by repeat (first | exact Kept.refl _ | assumption | refine Kept.alloc ?_ _ | refine Kept.drew ?_ | refine Kept.drewN ?_ _ | refine Kept.setCell ?_ (by simp; try omega) _ | refine Kept.trans ?_ (by assumption)))⟩
      | exact bodyPost_ret (v := .tuple #[.agg #[.int .i64 i, .int .i64 1, .int .i64 p], .int .i64 0]) (by simp [results, Try.results18, go_sem, rk0, rk1, rk2]) rfl ⟨rfl, have k3 := k3.out; (by repeat (first | exact Kept.refl _ | assumption | refine Kept.alloc ?_ _ | refine Kept.drew ?_ | refine Kept.drewN ?_ _ | refine Kept.setCell ?_ (by simp; try omega) _ | refine Kept.trans ?_ (by assumption)))⟩
      | exact bodyPost_ret (v := .tuple #[.agg #[.int .i64 i, .int .i64 2, .int .i64 p], .int .i64 0]) (by simp [results, Try.results18, go_sem, rk0, rk1, rk2]) rfl ⟨rfl, have k3 := k3.out; (by repeat (first | exact Kept.refl _ | assumption | refine Kept.alloc ?_ _ | refine Kept.drew ?_ | refine Kept.drewN ?_ _ | refine Kept.setCell ?_ (by simp; try omega) _ | refine Kept.trans ?_ (by assumption)))⟩
      | exact bodyPost_ret (v := .tuple #[.agg #[.int .i64 i, .int .i64 3, .int .i64 p], .int .i64 0]) (by simp [results, Try.results18, go_sem, rk0, rk1, rk2]) rfl ⟨rfl, have k3 := k3.out; (by repeat (first | exact Kept.refl _ | assumption | refine Kept.alloc ?_ _ | refine Kept.drew ?_ | refine Kept.drewN ?_ _ | refine Kept.setCell ?_ (by simp; try omega) _ | refine Kept.trans ?_ (by assumption)))⟩
      | exact bodyPost_ret (v := .tuple #[.agg #[.int .i64 i, .int .i64 6, .int .i64 p], .int .i64 0]) (by simp [results, Try.results18, go_sem, rk0, rk1, rk2]) rfl ⟨rfl, have k3 := k3.out; (by repeat (first | exact Kept.refl _ | assumption | refine Kept.alloc ?_ _ | refine Kept.drew ?_ | refine Kept.drewN ?_ _ | refine Kept.setCell ?_ (by simp; try omega) _ | refine Kept.trans ?_ (by assumption)))⟩
      | exact bodyPost_ret (v := .tuple #[.agg #[.int .i64 i, .int .i64 7, .int .i64 p], .int .i64 0]) (by simp [results, Try.results18, go_sem, rk0, rk1, rk2]) rfl ⟨rfl, have k3 := k3.out; (by repeat (first | exact Kept.refl _ | assumption | refine Kept.alloc ?_ _ | refine Kept.drew ?_ | refine Kept.drewN ?_ _ | refine Kept.setCell ?_ (by simp; try omega) _ | refine Kept.trans ?_ (by assumption)))⟩
      | exact bodyPost_ret (v := .tuple #[.agg #[.int .i64 0, .int .i64 0, .int .i64 0], .int .i64 15]) (by simp [results, Try.results18, go_sem, rk0, rk1, rk2]) rfl ⟨rfl, have k3 := k3.out; (by repeat (first | exact Kept.refl _ | assumption | refine Kept.alloc ?_ _ | refine Kept.drew ?_ | refine Kept.drewN ?_ _ | refine Kept.setCell ?_ (by simp; try omega) _ | refine Kept.trans ?_ (by assumption)))⟩
theorem rFile_any (S : Tb) (hok : Ok S) (b : Nat) (fd d : Int) (w : World) (hS : TabR w b S) :
    Calls Try.prog 18 #[.pointer (some ⟨b, 0, none⟩), .int .i64 fd, .int .i64 d] w (FilePost (fI S fd d) (fM S fd d) (fP S fd d) (fE S fd d) w) := by
  cases h : has S fd with
  | false =>
    have h1 : fE S fd d = 15 := by simp [fE, h]
    rw [fI, fM, fP, h1]
    exact rFile_no S hok b fd d h w hS
  | true =>
    by_cases hd : d = 1 ∨ d = 2
    · obtain ⟨h0, h8, hu⟩ := (has_iff S fd).1 h
      obtain ⟨k, rfl⟩ : ∃ k : Nat, fd = (k : Int) := ⟨fd.toNat, by omega⟩
      cases hx : S k with
      | shut => simp [hx, Sl.up] at hu
      | dir i =>
        have h1 : fE S k d = 12 := by simp [fE, h, hd, hx, Sl.isDir]
        rw [fI, fM, fP, h1]
        exact rFile_dir S hok b k (by omega) i d hx hd w hS
      | file i m p =>
        have hf := rFile_file S hok b k (by omega) i m p d hx hd w hS
        cases hus : uses m d with
        | true =>
          have h1 : fE S k d = 0 := by simp [fE, h, hd, hx, Sl.isDir, Sl.mode, hus]
          rw [fI, fM, fP, h1]
          simp only [Int.toNat_natCast, hx]
          rw [if_pos hus] at hf
          exact hf
        | false =>
          have h1 : fE S k d = 15 := by simp [fE, h, hd, hx, Sl.isDir, Sl.mode, hus]
          rw [fI, fM, fP, h1]
          rw [if_neg (by rw [hus]; decide)] at hf
          exact hf
    · have h1 : fE S fd d = 15 := by simp [fE, hd]
      rw [fI, fM, fP, h1]
      exact rFile_mode S hok b fd d h (by omega) (by omega) w hS

theorem rclose_any (S : Tb) (hok : Ok S) (b : Nat) (fd : Int) (w : World) (hS : TabR w b S) :
    Calls Try.prog 21 #[.pointer (some ⟨b, 0, none⟩), .int .i64 fd] w fun e w' => e = .returned (.int .i64 (cE S fd)) ∧ TabR w' b (cS S fd) ∧ But b w w' := by
  have HG := hid (rget_any S hok b fd w hS)
  have HS := hid hS
  unfold cE cS
  cases h : has S fd with
  | false =>
    have hge : gE S fd = 15 := by simp [gE, h]
    rw [hge] at HG
    generalize gI S fd = i1 at *
    generalize gM S fd = m1 at *
    generalize gP S fd = p1 at *
    clear hS h hge
    go_enter Try.func21, Try.ntmps21
    go_wp2_with (go_at_call 16; refine HG.out.mono ?_; rintro e w2 ⟨rfl, k2⟩)
    go_ret
    exact ⟨rfl, (k2.alloc _).tabR HS.out, (k2.alloc _).but b⟩
  | true =>
    obtain ⟨h0, h8, hu⟩ := (has_iff S fd).1 h
    obtain ⟨k, rfl⟩ : ∃ k : Nat, fd = (k : Int) := ⟨fd.toNat, by omega⟩
    have hge : gE S k = 0 := by simp [gE, h]
    rw [hge] at HG
    have c0 := hS.ino k (by omega)
    have c1 := hS.mode k (by omega)
    have c2 := hS.pos k (by omega)
    have f0 := hS.frozen (k * 3)
    have f1 := hS.frozen (k * 3 + 1)
    have f2 := hS.frozen (k * 3 + 2)
    generalize gI S k = i1 at *
    generalize gM S k = m1 at *
    generalize gP S k = p1 at *
    generalize (S k).ino = y0 at *
    generalize (S k).mode = y1 at *
    generalize (S k).pos = y2 at *
    simp only [Int.toNat_natCast, if_true]
    clear hS h hge hu
    go_enter Try.func21, Try.ntmps21
    go_wp2_with (go_at_call 16; refine HG.out.mono ?_; rintro e w2 ⟨rfl, k2⟩; have f0 := k2.free c0 f0; have f1 := k2.free c1 f1; have f2 := k2.free c2 f2; have c0 := k2.keeps c0; have c1 := k2.keeps c1; have c2 := k2.keeps c2; have k3 := hid (k2.alloc (.cells #[.int .i64 i1, .int .i64 m1, .int .i64 p1] 33)); clear k2)
    go_ret
    refine ⟨rfl, (k3.out.tabR HS.out).upd3 k .shut, ?_⟩
    exact (Kept.but b k3.out).set3 _ _ _ _ _ _

theorem refV_pos (S : Tb) (k : Nat) (p : Int) (j : Nat) (h : ∃ i m q, S k = .file i m q) : (if j = k * 3 + 2 then Value.int .i64 p else refV S j) = refV (upd S k ((S k).put p)) j := by
  obtain ⟨i, m, q, h⟩ := h
  unfold refV upd
  by_cases h2 : j = k * 3 + 2
  · rw [if_pos h2, if_neg (by omega), if_neg (by omega), if_pos (by omega), h]; rfl
  · rw [if_neg h2]
    by_cases h3 : j / 3 = k
    · rw [if_pos h3, h3, h]
      by_cases h0 : j % 3 = 0
      · rw [if_pos h0, if_pos h0]; rfl
      · rw [if_neg h0, if_neg h0, if_pos (by omega), if_pos (by omega)]; rfl
    · rw [if_neg h3]
theorem rseek_any (S : Tb) (hok : Ok S) (b : Nat) (fd p : Int) (w : World) (hS : TabR w b S) :
    Calls Try.prog 20 #[.pointer (some ⟨b, 0, none⟩), .int .i64 fd, .int .i64 p] w fun e w' => e = .returned (.int .i64 (sE S fd p)) ∧ TabR w' b (sS S fd p) ∧ But b w w' := by
  have HG := hid (rget_any S hok b fd w hS)
  have HS := hid hS
  unfold sS
  cases h : has S fd with
  | false =>
    have hge : gE S fd = 15 := by simp [gE, h]
    have hse : sE S fd p = 15 := by simp [sE, h]
    rw [hge] at HG
    rw [hse, if_neg (by decide)]
    generalize gI S fd = i1 at *
    generalize gM S fd = m1 at *
    generalize gP S fd = p1 at *
    clear hS h hge hse
    go_enter Try.func20, Try.ntmps20
    go_wp2_with (go_at_call 16; refine HG.out.mono ?_; rintro e w2 ⟨rfl, k2⟩)
    go_ret
    exact ⟨rfl, (k2.alloc _).tabR HS.out, (k2.alloc _).but b⟩
  | true =>
    obtain ⟨h0, h8, hu⟩ := (has_iff S fd).1 h
    obtain ⟨k, rfl⟩ : ∃ k : Nat, fd = (k : Int) := ⟨fd.toNat, by omega⟩
    have hge : gE S k = 0 := by simp [gE, h]
    have hgm : gM S k = (S k).mode := by simp [gM, h]
    rw [hge, hgm] at HG
    have HX := hid (hok k (by omega))
    have c2 := hS.pos k (by omega)
    have f2 := hS.frozen (k * 3 + 2)
    generalize gI S k = i1 at *
    generalize gP S k = p1 at *
    simp only [Int.toNat_natCast] at hu ⊢
    cases hx : S k with
    | shut => simp [hx, Sl.up] at hu
    | dir i =>
      have hse : sE S k p = 12 := by simp [sE, h, hx, Sl.isDir]
      rw [hse, if_neg (by decide)]
      rw [hx] at HG
      clear hS h hge hse hgm hu hx c2 f2
      simp only [Sl.mode] at HG
      go_enter Try.func20, Try.ntmps20
      go_wp2_with (go_at_call 16; refine HG.out.mono ?_; rintro e w2 ⟨rfl, k2⟩)
      go_ret
      exact ⟨rfl, (k2.alloc _).tabR HS.out, (k2.alloc _).but b⟩
    | file i m q =>
      have hm : (m == 8) = false := by have := HX.out; rw [hx] at this; have := this.2.2.1; simp; omega
      by_cases hp : p < 0
      · have hse : sE S k p = 1 := by simp [sE, h, hx, Sl.isDir, hp]
        rw [hse, if_neg (by decide)]
        rw [hx] at HG
        clear hS h hge hse hgm hu hx c2 f2
        simp only [Sl.mode] at HG
        go_enter Try.func20, Try.ntmps20
        go_wp2_with (go_at_call 16; refine HG.out.mono ?_; rintro e w2 ⟨rfl, k2⟩)
        go_ret
        exact ⟨rfl, (k2.alloc _).tabR HS.out, (k2.alloc _).but b⟩
      · have hse : sE S k p = 0 := by simp [sE, h, hx, Sl.isDir, hp]
        rw [hse, if_pos rfl]
        have HV := hid (fun j => refV_pos S k p j ⟨i, m, q, hx⟩)
        rw [hx] at HG c2
        rw [← hx]
        obtain ⟨S', hS'⟩ : ∃ S', upd S k ((S k).put p) = S' := ⟨_, rfl⟩
        rw [hS'] at HV ⊢
        clear hS h hge hse hgm hu hx hS'
        simp only [Sl.mode, Sl.pos] at HG c2
        go_enter Try.func20, Try.ntmps20
        go_wp2_with (go_at_call 16; refine HG.out.mono ?_; rintro e w2 ⟨rfl, k2⟩; have f2 := k2.free c2 f2; have c2 := k2.keeps c2; have k3 := hid (k2.alloc (.cells #[.int .i64 i1, .int .i64 m, .int .i64 p1] 33)); clear k2)
        go_ret
        refine ⟨rfl, Blk.congr (Blk.set (k3.out.tabR HS.out) _ _) fun j _ => HV.out j, ?_⟩
        exact But.setCell (p := ⟨b, k * 3 + 2, none⟩) (Kept.but b k3.out) (.inl rfl) _
theorem ropens_any (S : Tb) (hok : Ok S) (b : Nat) (i : Int) (w : World) (hS : TabR w b S) :
    Calls Try.prog 22 #[.pointer (some ⟨b, 0, none⟩), .int .i64 i] w fun e w' => e = .returned (.int .i64 (cntTo S i 8)) ∧ w = w' := by
  have HC := hid (fun j (hj : j < 8) => hS.ino j hj)
  have HK := hid (fun j (hj : j < 8) => Sl.ok_ino (hok j hj))
  clear hS hok
  go_enter Try.func22, Try.ntmps22
  go_wp2
  go_loop [5, 6] (fun c t => ∃ k n : Nat, k ≤ 8 ∧ n ≤ k ∧ cntTo S i k = n ∧ t = .int .i64 k ∧ c = .int .i64 n) (fun _ t => (8 - intOf t).toNat)
  case atStart => exact ⟨0, 0, by omega, by omega, rfl, rfl, rfl⟩
  case round =>
    obtain ⟨k, n, hk, hnk, hn, rfl, rfl⟩ := hrel
    have HN := hid hn; clear hn
    by_cases hlt : k < 8
    · have hc := HC.out k hlt
      have hcc := HK.out k hlt
      by_cases hi0 : 0 < i
      · by_cases he : (S k).ino = i
        · have hup : (S k).up = true := by cases h : (S k).up with | true => rfl | false => have := hcc.1.2 h; omega
          have HS := hid (cnt_t S i k hup he)
          have he2 : ((S k).ino == i) = true := by simpa using he
          generalize (S k).ino = x1 at hc he2
          clear he hcc hup
          go_wp2
          go_round
          case rel => exact ⟨k + 1, n + 1, by omega, by omega, by rw [HS.out, HN.out], by go_num, by go_num⟩
          case measure => simp [intOf]; omega
        · have HS := hid (cnt_f S i k (.inr he))
          have he2 : ((S k).ino == i) = false := by simpa using he
          generalize (S k).ino = x1 at hc he2
          clear he hcc
          go_wp2
          go_round
          case rel => exact ⟨k + 1, n, by omega, by omega, by rw [HS.out, HN.out], by go_num, rfl⟩
          case measure => simp [intOf]; omega
      · have HS := hid (cnt_f S i k (by
          cases h : (S k).up with
          | false => exact .inl rfl
          | true => refine .inr fun e => ?_
                    have h1 : ¬ (S k).ino = 0 := fun e0 => by rw [hcc.1.1 e0] at h; cases h
                    omega))
        clear hcc hc
        go_wp2
        go_round
        case rel => exact ⟨k + 1, n, by omega, by omega, by rw [HS.out, HN.out], by go_num, rfl⟩
        case measure => simp [intOf]; omega
    · obtain rfl : k = 8 := by omega
      go_wp2
      go_ret
      exact ⟨ret_int (by rw [HN.out]), rfl⟩
theorem rlist_any (S : Tb) (hok : Ok S) (b : Nat) (w : World) (hS : TabR w b S) :
    Calls Try.prog 24 #[.pointer (some ⟨b, 0, none⟩)] w (NextPost (upsTo S 8) w) := by
  have HC := hid (fun j (hj : j < 8) => hS.ino j hj)
  have HK := hid (fun j (hj : j < 8) => Sl.ok_ino (hok j hj))
  clear hS hok
  go_enter Try.func24, Try.ntmps24
  go_wp2
  go_loopw [3, 4] (fun c t wl => ∃ k n : Nat, k ≤ 8 ∧ n ≤ k ∧ t = .int .i64 k ∧ wl.ownsRow w.heap.size 3 1 c n ((upsTo S k).map (Value.int .i64)) ∧ Kept w wl) (fun _ t _ => (8 - intOf t).toNat)
  case atStart => exact ⟨0, 0, by omega, by omega, rfl, World.ownsRow_nil _ _ _ _, (by repeat (first | exact Kept.refl _ | assumption | refine Kept.alloc ?_ _ | refine Kept.drew ?_ | refine Kept.drewN ?_ _ | refine Kept.setCell ?_ (by simp; try omega) _ | refine Kept.trans ?_ (by assumption)))⟩
  case round =>
    obtain ⟨k, n, hk, hnk, rfl, hown, hkl⟩ := hrel
    by_cases hlt : k < 8
    · have hc := hkl.keeps (HC.out k hlt)
      have hcc := HK.out k hlt
      cases hup : (S k).up with
      | false =>
        have HS := hid (ups_f S k hup)
        rw [hcc.1.2 hup] at hc
        clear hup hcc
        go_wp2
        go_roundw
        case rel => exact ⟨k + 1, n, by omega, by omega, by go_num, by rw [HS.out]; exact hown, hkl⟩
        case measure => simp [intOf]; omega
      | true =>
        have HS := hid (ups_t S k hup)
        have hpos : 0 < (S k).ino := by
          have h1 : ¬ (S k).ino = 0 := fun e0 => by rw [hcc.1.1 e0] at hup; cases hup
          omega
        generalize (S k).ino = x1 at hc hpos
        clear hup hcc
        go_wp2_with (at_builtin; refine wpList_pushI (W := w) rfl (.tmp 17) (.tmp 19) rfl _ n (upsTo S k) k _ _ rfl hown rfl (by simp) (by omega) hkl ?_; intro v3 w3 hown3 hk3)
        go_roundw
        case rel => exact ⟨k + 1, n + 1, by omega, by omega, by go_num, by rw [HS.out]; exact hown3, hk3⟩
        case measure => simp [intOf]; omega
    · obtain rfl : k = 8 := by omega
      go_wp2
      go_ret
      exact ⟨_, rfl, (ints_own hown).1, (by repeat (first | exact Kept.refl _ | assumption | refine Kept.alloc ?_ _ | refine Kept.drew ?_ | refine Kept.drewN ?_ _ | refine Kept.setCell ?_ (by simp; try omega) _ | refine Kept.trans ?_ (by assumption)))⟩
end Go.Proofs.Ythbnkoaigeffnaa
