/- Package table: File, Open, Seek, Close, Opens, List. -/
import Derived.Test.Ythbnkoaigeffnaa20B
namespace Go.Proofs.Ythbnkoaigeffnaa
set_option linter.unusedSimpArgs false
set_option linter.unusedVariables false
open Go.RowKit

theorem File_any (S : Tb) (hok : Ok S) (a : Nat) (fd d : Int) (w : World) (hS : TabP w a S) :
    Calls Try.prog 17 #[.pointer (some ⟨a, 0, none⟩), .int .i64 fd, .int .i64 d] w (FilePost (fI S fd d) (fM S fd d) (fP S fd d) (fE S fd d) w) := by
  by_cases hd : d = 1 ∨ d = 2
  · cases h : has S fd with
    | false =>
      have h1 : fE S fd d = 15 := by simp [fE, h]
      rw [fI, fM, fP, h1]
      exact File_err a fd d 15 hd (by decide) w (hid fun w' k => fil_no S a fd h w' (k.blk hS))
    | true =>
      obtain ⟨h0, h8, hu⟩ := (has_iff S fd).1 h
      obtain ⟨k, rfl⟩ : ∃ k : Nat, fd = (k : Int) := ⟨fd.toNat, by omega⟩
      have hkk := hok k (by omega)
      cases hx : S k with
      | shut => simp [hx, Sl.up] at hu
      | dir i =>
        have h1 : fE S k d = 12 := by simp [fE, h, hd, hx, Sl.isDir]
        rw [fI, fM, fP, h1]
        exact File_err a k d 12 hd (by decide) w (hid fun w' kp => fil_dir S a k h8 i hx w' (kp.blk hS))
      | file i m p =>
        rw [hx] at hkk
        cases hus : uses m d with
        | true =>
          have h1 : fE S k d = 0 := by simp [fE, h, hd, hx, Sl.isDir, Sl.mode, hus]
          rw [fI, fM, fP, h1]
          simp only [Int.toNat_natCast, hx]
          exact File_use S a k h8 i m p d hx hkk.2.2.1 hd hus w hS
        | false =>
          have h1 : fE S k d = 15 := by simp [fE, h, hd, hx, Sl.isDir, Sl.mode, hus]
          rw [fI, fM, fP, h1]
          exact File_not S a k h8 i m p d hx hkk.2.2.1 hd hus w hS
  · have h1 : fE S fd d = 15 := by simp [fE, hd]
    rw [fI, fM, fP, h1]
    exact File_mode a fd d (by omega) (by omega) w

theorem idx_tab (cs : Array Value) (v : Value) (k : Nat) (hk : k < 8) (h : cs[k]? = some v) (w : World) :
    (Instr.index 56 (.agg cs) (.int .i64 k)).run Try.prog w = .ok v w := by
  have hp : (part 20 cs k).run Try.prog w = .ok v w := by simp [part, isAgg, run_underlying Try.underlying20, h]
  have hz : ∀ w, (sizeOf 20).run Try.prog w = .ok 1 w := fun _ => by kernel_rfl
  have hj2 : (k : Int) < 8 := by omega
  simp [Instr.index, run_underlying Try.underlying56, asIntOf, hj2, hz, hp]
  intro hh; omega

theorem open_no (S : Tb) (a : Nat) (i m : Int) (h : okO i m = false) (w : World) :
    Calls Try.prog 11 #[.pointer (some ⟨a, 0, none⟩), .int .i64 i, .int .i64 m] w fun e w' => e = .returned (.tuple #[.int .i64 0, .int .i64 1]) ∧ w = w' := by
  have HM := hid (mode_any m)
  unfold okO at h
  cases hm : modeB m with
  | false =>
    rw [hm] at HM
    clear h hm
    go_enter Try.func11, Try.ntmps11
    go_wp2_with (go_at_call 14; refine (HM.out _).mono ?_; rintro e w2 ⟨rfl, rfl⟩)
    go_ret2
    exact ⟨rfl, rfl⟩
  | true =>
    rw [hm] at HM h
    by_cases h1 : i < 1
    · clear h hm
      go_enter Try.func11, Try.ntmps11
      go_wp2_with (go_at_call 14; refine (HM.out _).mono ?_; rintro e w2 ⟨rfl, rfl⟩)
      go_ret2
      exact ⟨rfl, rfl⟩
    · have h2 : 39 < i := by simp at h; omega
      clear h hm
      go_enter Try.func11, Try.ntmps11
      go_wp2_with (go_at_call 14; refine (HM.out _).mono ?_; rintro e w2 ⟨rfl, rfl⟩)
      go_ret2
      exact ⟨rfl, rfl⟩
set_option maxHeartbeats 1000000 in
theorem open_full (S : Tb) (a : Nat) (i m : Int) (hm : modeB m = true) (h1 : 1 ≤ i) (h2 : i ≤ 39) (hf : ∀ j, j < 8 → (S j).up = true) (w : World) (hS : TabP w a S) :
    Calls Try.prog 11 #[.pointer (some ⟨a, 0, none⟩), .int .i64 i, .int .i64 m] w fun e w' => e = .returned (.tuple #[.int .i64 0, .int .i64 8]) ∧ Kept w w' := by
  have HM := hid (mode_any m)
  rw [hm] at HM
  clear hm
  have HU := hid hf; clear hf
  have HS := hid hS
  obtain ⟨cs, t, hg, hs, hcs⟩ := hS
  have HCS := hid hcs; clear hcs
  have HG := hid hg; clear hg
  have HSZ := hid hs; clear hs
  have n1 : ¬ i < 1 := by omega
  have n2 : ¬ 39 < i := by omega
  go_enter Try.func11, Try.ntmps11
  go_wp2_with (first | (go_at_call 14; refine (HM.out _).mono ?_; rintro e w2 ⟨rfl, rfl⟩) | (refine wpList_load_row rfl 56 (.tmp 25) rfl a rfl t cs (0, 0) _ HG.out Try.underlying56 rfl (by rw [HSZ.out]; kernel_rfl) ?_))
  have HIX := hid (fun (w : World) (j : Nat) (hj : j < 8) => idx_tab cs _ j hj (HCS.out j hj) w)
  go_loopw [27] (fun t wl => ∃ k : Nat, k ≤ 8 ∧ t = .int .i64 k ∧ Kept w wl) (fun t _ => (8 - intOf t).toNat)
  case atStart => exact ⟨0, by omega, rfl, (by repeat (first | exact Kept.refl _ | assumption | refine Kept.alloc ?_ _ | refine Kept.drew ?_ | refine Kept.drewN ?_ _ | refine Kept.setCell ?_ (by simp; try omega) _ | refine Kept.trans ?_ (by assumption)))⟩
  case round =>
    obtain ⟨k, hk, rfl, hkl⟩ := hrel
    by_cases hlt : k < 8
    · have hix := fun w => HIX.out w k hlt
      have HT := hid (told_any (S k))
      rw [HU.out k hlt] at HT
      generalize (S k).val = v at *
      generalize (S k).ino = x1 at *
      generalize (S k).mode = x2 at *
      generalize (S k).pos = x3 at *
      go_wp2_with (go_at_call 25; refine (HT.out _).mono ?_; rintro e w2 ⟨rfl, k2⟩)
      go_roundw
      case rel => exact ⟨k + 1, by omega, by go_num, (by repeat (first | exact Kept.refl _ | assumption | refine Kept.alloc ?_ _ | refine Kept.drew ?_ | refine Kept.drewN ?_ _ | refine Kept.setCell ?_ (by simp; try omega) _ | refine Kept.trans ?_ (by assumption)))⟩
      case measure => simp [intOf]; omega
    · obtain rfl : k = 8 := by omega
      go_wp2
      go_ret2
      exact ⟨rfl, (by repeat (first | exact Kept.refl _ | assumption | refine Kept.alloc ?_ _ | refine Kept.drew ?_ | refine Kept.drewN ?_ _ | refine Kept.setCell ?_ (by simp; try omega) _ | refine Kept.trans ?_ (by assumption)))⟩
set_option maxHeartbeats 1000000 in
theorem open_yes (S : Tb) (a q : Nat) (i m : Int) (hm : modeB m = true) (h1 : 1 ≤ i) (h2 : i ≤ 39) (hq : q < 8) (hf : ∀ j, j < q → (S j).up = true) (hn : (S q).up = false) (w : World) (hS : TabP w a S) :
    Calls Try.prog 11 #[.pointer (some ⟨a, 0, none⟩), .int .i64 i, .int .i64 m] w fun e w' => e = .returned (.tuple #[.int .i64 q, .int .i64 0]) ∧ TabP w' a (upd S q (if m = 8 then .dir i else .file i m 0)) ∧ But a w w' := by
  have HM := hid (mode_any m)
  rw [hm] at HM
  clear hm
  have HU := hid hf; clear hf
  have HN := hid hn; clear hn
  have HS := hid hS
  obtain ⟨cs, t, hg, hs, hcs⟩ := hS
  have HCS := hid hcs; clear hcs
  have HG := hid hg; clear hg
  have HSZ := hid hs; clear hs
  have n1 : ¬ i < 1 := by omega
  have n2 : ¬ 39 < i := by omega
  obtain ⟨s, hs⟩ : ∃ s : Sl, s = (if m = 8 then .dir i else .file i m 0) := ⟨_, rfl⟩
  rw [← hs]
  have HSS := hid hs; clear hs
  by_cases h8 : m = 8
  all_goals
    have HS8 := HSS.out
    first | rw [if_pos h8] at HS8 | rw [if_neg h8] at HS8
    subst HS8
    clear HSS
    first | (have e8 : (m == 8) = true := by simpa using h8) | (have e8 : (m == 8) = false := by simpa using h8)
    clear h8
    go_enter Try.func11, Try.ntmps11
    go_wp2_with (first | (go_at_call 14; refine (HM.out _).mono ?_; rintro e w2 ⟨rfl, rfl⟩) | (refine wpList_load_row rfl 56 (.tmp 25) rfl a rfl t cs (0, 0) _ HG.out Try.underlying56 rfl (by rw [HSZ.out]; kernel_rfl) ?_))
    have HIX := hid (fun (w : World) (j : Nat) (hj : j < 8) => idx_tab cs _ j hj (HCS.out j hj) w)
    go_loopw [27] (fun t wl => ∃ k : Nat, k ≤ q ∧ t = .int .i64 k ∧ Kept w wl) (fun t _ => (q + 1 - intOf t).toNat)
    case atStart => exact ⟨0, by omega, rfl, (by repeat (first | exact Kept.refl _ | assumption | refine Kept.alloc ?_ _ | refine Kept.drew ?_ | refine Kept.drewN ?_ _ | refine Kept.setCell ?_ (by simp; try omega) _ | refine Kept.trans ?_ (by assumption)))⟩
    case round =>
      obtain ⟨k, hk, rfl, hkl⟩ := hrel
      have hk8 : k < 8 := by omega
      have hix := fun w => HIX.out w k hk8
      have HT := hid (told_any (S k))
      by_cases hlt : k < q
      · rw [HU.out k hlt] at HT
        generalize (S k).val = v at *
        generalize (S k).ino = x1 at *
        generalize (S k).mode = x2 at *
        generalize (S k).pos = x3 at *
        go_wp2_with (go_at_call 25; refine (HT.out _).mono ?_; rintro e w2 ⟨rfl, k2⟩)
        go_roundw
        case rel => exact ⟨k + 1, by omega, by go_num, (by repeat (first | exact Kept.refl _ | assumption | refine Kept.alloc ?_ _ | refine Kept.drew ?_ | refine Kept.drewN ?_ _ | refine Kept.setCell ?_ (by simp; try omega) _ | refine Kept.trans ?_ (by assumption)))⟩
        case measure => simp [intOf]; omega
      · obtain rfl : k = q := by omega
        rw [HN.out] at HT
        have hck := HS.out.cell k hk8
        have hfk := HS.out.frozen k
        generalize (S k).val = v at *
        generalize (S k).ino = x1 at *
        generalize (S k).mode = x2 at *
        generalize (S k).pos = x3 at *
        go_wp2_with (go_at_call 25; refine (HT.out _).mono ?_; rintro e w2 ⟨rfl, k2⟩; have k3 := hid (hkl.trans k2); have hck3 := k3.out.keeps hck; have hfk3 := k3.out.free hck hfk; clear k2)
        go_ret2
        refine ⟨rfl, Blk.congr (((k3.out.blk HS.out).alloc _).set k _) fun j hj => ?_, But.setCell (Kept.but a (k3.out.alloc _)) (.inl rfl) _⟩
        unfold upd
        by_cases hjk : j = k
        · simp [hjk]; rfl
        · simp [hjk]
theorem open_any (S : Tb) (a : Nat) (i m : Int) (w : World) (hS : TabP w a S) :
    Calls Try.prog 11 #[.pointer (some ⟨a, 0, none⟩), .int .i64 i, .int .i64 m] w fun e w' => e = .returned (.tuple #[.int .i64 (oF S i m), .int .i64 (oE S i m)]) ∧ TabP w' a (oS S i m) ∧ But a w w' := by
  unfold oF oE oS
  cases h : okO i m with
  | false =>
    refine (open_no S a i m h w).mono fun e w' ⟨he, hw⟩ => ?_
    subst hw
    exact ⟨he, by simpa using hS, But.refl _ _⟩
  | true =>
    have hh := h
    simp [okO] at hh
    rcases lst_spec S with ⟨h1, h2, h3⟩ | ⟨h1, h2⟩
    · simp only [h1, and_self, if_true]
      exact open_yes S a _ i m hh.1.1 hh.1.2 hh.2 h1 h3 h2 w hS
    · simp only [h1]
      refine (open_full S a i m hh.1.1 hh.1.2 hh.2 h2 w hS).mono fun e w' ⟨he, hw⟩ => ?_
      exact ⟨he, hw.blk hS, hw.but a⟩
end Go.Proofs.Ythbnkoaigeffnaa
