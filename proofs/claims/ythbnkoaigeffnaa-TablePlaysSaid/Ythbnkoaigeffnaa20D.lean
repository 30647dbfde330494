/- Package table: Seek, Close, Opens, List. -/
import Derived.Test.Ythbnkoaigeffnaa20C
import Derived.RegionTactic
namespace Go.Proofs.Ythbnkoaigeffnaa
set_option linter.unusedSimpArgs false
set_option linter.unusedVariables false
open Go.RowKit

theorem close_no (S : Tb) (a : Nat) (fd : Int) (h : has S fd = false) (w : World) (hS : TabP w a S) :
    Calls Try.prog 8 #[.pointer (some ⟨a, 0, none⟩), .int .i64 fd] w fun e w' => e = .returned (.int .i64 15) ∧ Kept w w' := by
  have HG := hid (get_any S a fd w hS)
  unfold gI gM gP gE at HG
  rw [h] at HG
  clear hS h
  go_enter Try.func8, Try.ntmps8
  go_wp2_with (go_at_call 9; refine HG.out.mono ?_; rintro e w2 ⟨rfl, k2⟩)
  go_ret
  exact ⟨rfl, (by repeat (first | exact Kept.refl _ | assumption | refine Kept.alloc ?_ _ | refine Kept.drew ?_ | refine Kept.drewN ?_ _ | refine Kept.setCell ?_ (by simp; try omega) _ | refine Kept.trans ?_ (by assumption)))⟩
theorem close_yes (S : Tb) (a k : Nat) (hk : (k : Int) < 8) (hu : (S k).up = true) (w : World) (hS : TabP w a S) :
    Calls Try.prog 8 #[.pointer (some ⟨a, 0, none⟩), .int .i64 k] w fun e w' => e = .returned (.int .i64 0) ∧ TabP w' a (upd S k .shut) ∧ But a w w' := by
  have HG := hid (get_yes S a k hk hu w hS)
  have HS := hid hS
  have hck := hS.cell k (by omega)
  have hfk := hS.frozen k
  clear hS hu
  generalize (S k).val = v at *
  go_enter Try.func8, Try.ntmps8
  go_wp2_with (go_at_call 9; refine HG.out.mono ?_; rintro e w2 ⟨rfl, k2⟩; have k3 := hid k2; have hck3 := k3.out.keeps hck; have hfk3 := k3.out.free hck hfk; clear k2)
  go_ret
  refine ⟨rfl, Blk.congr (((k3.out.blk HS.out).alloc _).set k _) fun j hj => ?_, But.setCell (Kept.but a (k3.out.alloc _)) (.inl rfl) _⟩
  unfold upd
  by_cases hjk : j = k
  · simp [hjk]; rfl
  · simp [hjk]
theorem close_any (S : Tb) (a : Nat) (fd : Int) (w : World) (hS : TabP w a S) :
    Calls Try.prog 8 #[.pointer (some ⟨a, 0, none⟩), .int .i64 fd] w fun e w' => e = .returned (.int .i64 (cE S fd)) ∧ TabP w' a (cS S fd) ∧ But a w w' := by
  unfold cE cS
  cases h : has S fd with
  | false => exact (close_no S a fd h w hS).mono fun e w' ⟨he, hw⟩ => ⟨he, hw.blk hS, hw.but a⟩
  | true =>
    obtain ⟨h0, h8, hu⟩ := (has_iff S fd).1 h
    obtain ⟨k, rfl⟩ : ∃ k : Nat, fd = (k : Int) := ⟨fd.toNat, by omega⟩
    exact close_yes S a k h8 hu w hS

theorem seek_err (a : Nat) (fd p x : Int) (hx : (x != 0) = true) (w : World) (HF : Hid (Calls Try.prog 26 #[.pointer (some ⟨a, 0, none⟩), .int .i64 fd] w fun e w2 => e = .returned (.tuple #[.agg #[.int .i64 0, .int .i64 0, .int .i64 0], .int .i64 x]) ∧ Kept w w2)) :
    Calls Try.prog 19 #[.pointer (some ⟨a, 0, none⟩), .int .i64 fd, .int .i64 p] w fun e w' => e = .returned (.int .i64 x) ∧ Kept w w' := by
  go_enter Try.func19, Try.ntmps19
  go_wp2_with (go_at_call 26; refine HF.out.mono ?_; rintro e w2 ⟨rfl, k2⟩)
  go_ret
  exact ⟨rfl, (by repeat (first | exact Kept.refl _ | assumption | refine Kept.alloc ?_ _ | refine Kept.drew ?_ | refine Kept.drewN ?_ _ | refine Kept.setCell ?_ (by simp; try omega) _ | refine Kept.trans ?_ (by assumption)))⟩
theorem seek_neg (S : Tb) (a k : Nat) (hk : (k : Int) < 8) (i m q p : Int) (h : S k = .file i m q) (hp : p < 0) (w : World) (hS : TabP w a S) :
    Calls Try.prog 19 #[.pointer (some ⟨a, 0, none⟩), .int .i64 k, .int .i64 p] w fun e w' => e = .returned (.int .i64 1) ∧ Kept w w' := by
  have HF := hid (fil_file S a k hk i m q h w hS)
  clear hS h
  go_enter Try.func19, Try.ntmps19
  go_wp2_with (go_at_call 26; refine HF.out.mono ?_; rintro e w2 ⟨rfl, k2⟩)
  go_ret
  exact ⟨rfl, (by repeat (first | exact Kept.refl _ | assumption | refine Kept.alloc ?_ _ | refine Kept.drew ?_ | refine Kept.drewN ?_ _ | refine Kept.setCell ?_ (by simp; try omega) _ | refine Kept.trans ?_ (by assumption)))⟩
theorem seek_yes (S : Tb) (a k : Nat) (hk : (k : Int) < 8) (i m q p : Int) (h : S k = .file i m q) (hp : ¬ p < 0) (w : World) (hS : TabP w a S) :
    Calls Try.prog 19 #[.pointer (some ⟨a, 0, none⟩), .int .i64 k, .int .i64 p] w fun e w' => e = .returned (.int .i64 0) ∧ TabP w' a (upd S k (.file i m p)) ∧ But a w w' := by
  have HF := hid (fil_file S a k hk i m q h w hS)
  have HS := hid hS
  have hck := hS.cell k (by omega)
  have hfk := hS.frozen k
  clear hS h
  generalize (S k).val = v at *
  go_enter Try.func19, Try.ntmps19
  go_wp2_with (go_at_call 26; refine HF.out.mono ?_; rintro e w2 ⟨rfl, k2⟩; have k3 := hid k2; have hck3 := k3.out.keeps hck; have hfk3 := k3.out.free hck hfk; clear k2)
  go_region
  all_goals
    go_wp2
    go_ret
    refine ⟨rfl, Blk.drew (Blk.congr (((k3.out.blk HS.out).alloc _).set k _) fun j hj => ?_), (But.setCell (Kept.but a (k3.out.alloc _)) (.inl rfl) _).drew⟩
    unfold upd
    by_cases hjk : j = k
    · simp [hjk]; rfl
    · simp [hjk]
theorem seek_any (S : Tb) (a : Nat) (fd p : Int) (w : World) (hS : TabP w a S) :
    Calls Try.prog 19 #[.pointer (some ⟨a, 0, none⟩), .int .i64 fd, .int .i64 p] w fun e w' => e = .returned (.int .i64 (sE S fd p)) ∧ TabP w' a (sS S fd p) ∧ But a w w' := by
  unfold sS
  have keep : ∀ x, (x != 0) = true → sE S fd p = x → (Calls Try.prog 19 #[.pointer (some ⟨a, 0, none⟩), .int .i64 fd, .int .i64 p] w fun e w' => e = .returned (.int .i64 x) ∧ Kept w w') →
      Calls Try.prog 19 #[.pointer (some ⟨a, 0, none⟩), .int .i64 fd, .int .i64 p] w fun e w' => e = .returned (.int .i64 (sE S fd p)) ∧ TabP w' a (if sE S fd p = 0 then upd S fd.toNat ((S fd.toNat).put p) else S) ∧ But a w w' := by
    intro x hx he hc
    rw [he, if_neg (by simpa using hx)]
    exact hc.mono fun e w' ⟨he, hw⟩ => ⟨he, hw.blk hS, hw.but a⟩
  cases h : has S fd with
  | false => exact keep 15 (by decide) (by simp [sE, h]) (seek_err a fd p 15 (by decide) w (hid (fil_no S a fd h w hS)))
  | true =>
    obtain ⟨h0, h8, hu⟩ := (has_iff S fd).1 h
    obtain ⟨k, rfl⟩ : ∃ k : Nat, fd = (k : Int) := ⟨fd.toNat, by omega⟩
    simp only [Int.toNat_natCast] at *
    cases hx : S k with
    | shut => simp [hx, Sl.up] at hu
    | dir i =>
      rw [← hx]
      exact keep 12 (by decide) (by simp [sE, h, hx, Sl.isDir]) (seek_err a k p 12 (by decide) w (hid (fil_dir S a k h8 i hx w hS)))
    | file i m q =>
      by_cases hp : p < 0
      · rw [← hx]
        exact keep 1 (by decide) (by simp [sE, h, hx, Sl.isDir, hp]) (seek_neg S a k h8 i m q p hx hp w hS)
      · have he : sE S k p = 0 := by simp [sE, h, hx, Sl.isDir, hp]
        rw [he, if_pos rfl]
        exact seek_yes S a k h8 i m q p hx hp w hS

set_option maxHeartbeats 1000000 in
theorem opens_any (S : Tb) (a : Nat) (i : Int) (w : World) (hS : TabP w a S) :
    Calls Try.prog 10 #[.pointer (some ⟨a, 0, none⟩), .int .i64 i] w fun e w' => e = .returned (.int .i64 (cntTo S i 8)) ∧ Kept w w' := by
  obtain ⟨cs, t, hg, hs, hcs⟩ := hS
  have HCS := hid hcs; clear hcs
  have HG := hid hg; clear hg
  have HSZ := hid hs; clear hs
  go_enter Try.func10, Try.ntmps10
  go_wp2_with (refine wpList_load_row rfl 56 (.tmp 12) rfl a rfl t cs (0, 0) _ HG.out Try.underlying56 rfl (by rw [HSZ.out]; kernel_rfl) ?_)
  have HIX := hid (fun (w : World) (j : Nat) (hj : j < 8) => idx_tab cs _ j hj (HCS.out j hj) w)
  go_loopw [5, 14] (fun c t wl => ∃ k n : Nat, k ≤ 8 ∧ n ≤ k ∧ cntTo S i k = n ∧ t = .int .i64 k ∧ c = .int .i64 n ∧ Kept w wl) (fun _ t _ => (8 - intOf t).toNat)
  case atStart => exact ⟨0, 0, by omega, by omega, rfl, rfl, rfl, (by repeat (first | exact Kept.refl _ | assumption | refine Kept.alloc ?_ _ | refine Kept.drew ?_ | refine Kept.drewN ?_ _ | refine Kept.setCell ?_ (by simp; try omega) _ | refine Kept.trans ?_ (by assumption)))⟩
  case round =>
    obtain ⟨k, n, hk, hnk, hn, rfl, rfl, hkl⟩ := hrel
    have HN := hid hn; clear hn
    by_cases hlt : k < 8
    · have hix := fun w => HIX.out w k hlt
      have HT := hid (told_any (S k))
      have HC1 := hid (cnt_t S i k)
      have HC2 := hid (cnt_f S i k)
      generalize (S k).val = v at *
      generalize (S k).ino = x1 at *
      generalize (S k).mode = x2 at *
      generalize (S k).pos = x3 at *
      cases hup : (S k).up with
      | false =>
        rw [hup] at HT HC2
        clear hup
        go_wp2_with (go_at_call 25; refine (HT.out _).mono ?_; rintro e w2 ⟨rfl, k2⟩)
        go_roundw
        case rel => exact ⟨k + 1, n, by omega, by omega, (HC2.out (by simp)).trans HN.out, by go_num, rfl, (by repeat (first | exact Kept.refl _ | assumption | refine Kept.alloc ?_ _ | refine Kept.drew ?_ | refine Kept.drewN ?_ _ | refine Kept.setCell ?_ (by simp; try omega) _ | refine Kept.trans ?_ (by assumption)))⟩
        case measure => simp [intOf]; omega
      | true =>
        rw [hup] at HT HC1
        clear hup
        by_cases he : x1 = i
        · have he2 : (x1 == i) = true := by simpa using he
          have HE := hid he; clear he
          go_wp2_with (go_at_call 25; refine (HT.out _).mono ?_; rintro e w2 ⟨rfl, k2⟩)
          go_roundw
          case rel => exact ⟨k + 1, n + 1, by omega, by omega, by rw [HC1.out (by simp) HE.out, HN.out], by go_num, by go_num, (by repeat (first | exact Kept.refl _ | assumption | refine Kept.alloc ?_ _ | refine Kept.drew ?_ | refine Kept.drewN ?_ _ | refine Kept.setCell ?_ (by simp; try omega) _ | refine Kept.trans ?_ (by assumption)))⟩
          case measure => simp [intOf]; omega
        · have he2 : (x1 == i) = false := by simpa using he
          have HE := hid he; clear he
          go_wp2_with (go_at_call 25; refine (HT.out _).mono ?_; rintro e w2 ⟨rfl, k2⟩)
          go_roundw
          case rel => exact ⟨k + 1, n, by omega, by omega, (HC2.out (.inr HE.out)).trans HN.out, by go_num, rfl, (by repeat (first | exact Kept.refl _ | assumption | refine Kept.alloc ?_ _ | refine Kept.drew ?_ | refine Kept.drewN ?_ _ | refine Kept.setCell ?_ (by simp; try omega) _ | refine Kept.trans ?_ (by assumption)))⟩
          case measure => simp [intOf]; omega
    · obtain rfl : k = 8 := by omega
      go_wp2
      go_ret
      exact ⟨ret_int (by rw [HN.out]), (by repeat (first | exact Kept.refl _ | assumption | refine Kept.alloc ?_ _ | refine Kept.drew ?_ | refine Kept.drewN ?_ _ | refine Kept.setCell ?_ (by simp; try omega) _ | refine Kept.trans ?_ (by assumption)))⟩
set_option maxHeartbeats 1000000 in
theorem list_any (S : Tb) (a : Nat) (w : World) (hS : TabP w a S) :
    Calls Try.prog 7 #[.pointer (some ⟨a, 0, none⟩)] w (NextPost (upsTo S 8) w) := by
  obtain ⟨cs, t, hg, hs, hcs⟩ := hS
  have HCS := hid hcs; clear hcs
  have HG := hid hg; clear hg
  have HSZ := hid hs; clear hs
  go_enter Try.func7, Try.ntmps7
  go_wp2_with (refine wpList_load_row rfl 56 (.tmp 10) rfl a rfl t cs (0, 0) _ HG.out Try.underlying56 rfl (by rw [HSZ.out]; kernel_rfl) ?_)
  have HIX := hid (fun (w : World) (j : Nat) (hj : j < 8) => idx_tab cs _ j hj (HCS.out j hj) w)
  go_loopw [3, 12] (fun c t wl => ∃ k n : Nat, k ≤ 8 ∧ n ≤ k ∧ t = .int .i64 k ∧ wl.ownsRow w.heap.size 3 1 c n ((upsTo S k).map (Value.int .i64)) ∧ Kept w wl) (fun _ t _ => (8 - intOf t).toNat)
  case atStart => exact ⟨0, 0, by omega, by omega, rfl, World.ownsRow_nil _ _ _ _, (by repeat (first | exact Kept.refl _ | assumption | refine Kept.alloc ?_ _ | refine Kept.drew ?_ | refine Kept.drewN ?_ _ | refine Kept.setCell ?_ (by simp; try omega) _ | refine Kept.trans ?_ (by assumption)))⟩
  case round =>
    obtain ⟨k, n, hk, hnk, rfl, hown, hkl⟩ := hrel
    by_cases hlt : k < 8
    · have hix := fun w => HIX.out w k hlt
      have HT := hid (told_any (S k))
      generalize (S k).val = v at *
      generalize (S k).ino = x1 at *
      generalize (S k).mode = x2 at *
      generalize (S k).pos = x3 at *
      cases hup : (S k).up with
      | false =>
        rw [hup] at HT
        have HC := hid (ups_f S k hup)
        clear hup
        go_wp2_with (go_at_call 25; refine (HT.out _).mono ?_; rintro e w2 ⟨rfl, k2⟩; have hown2 := hid (k2.row hown))
        go_roundw
        case rel => exact ⟨k + 1, n, by omega, by omega, by go_num, by rw [HC.out]; exact hown2.out.alloc _, (by repeat (first | exact Kept.refl _ | assumption | refine Kept.alloc ?_ _ | refine Kept.drew ?_ | refine Kept.drewN ?_ _ | refine Kept.setCell ?_ (by simp; try omega) _ | refine Kept.trans ?_ (by assumption)))⟩
        case measure => simp [intOf]; omega
      | true =>
        rw [hup] at HT
        have HC := hid (ups_t S k hup)
        clear hup
        go_wp2_with (first
          | (go_at_call 25; refine (HT.out _).mono ?_; rintro e w2 ⟨rfl, k2⟩; have hown2 := (k2.row hown).alloc (.cells #[.int .i64 x1, .int .i64 x2, .int .i64 x3] 33); clear hown)
          | (at_builtin; refine wpList_pushI (W := w) rfl (.tmp 22) (.tmp 24) rfl _ n (upsTo S k) k _ _ rfl hown2 rfl (by simp) (by omega) (by repeat (first | exact Kept.refl _ | assumption | refine Kept.alloc ?_ _ | refine Kept.drew ?_ | refine Kept.drewN ?_ _ | refine Kept.setCell ?_ (by simp; try omega) _ | refine Kept.trans ?_ (by assumption))) ?_; intro v3 w3 hown3 hk3))
        go_roundw
        case rel => exact ⟨k + 1, n + 1, by omega, by omega, by go_num, by rw [HC.out]; exact hown3, (by repeat (first | exact Kept.refl _ | assumption | refine Kept.alloc ?_ _ | refine Kept.drew ?_ | refine Kept.drewN ?_ _ | refine Kept.setCell ?_ (by simp; try omega) _ | refine Kept.trans ?_ (by assumption)))⟩
        case measure => simp [intOf]; omega
    · obtain rfl : k = 8 := by omega
      go_wp2
      go_ret
      exact ⟨_, rfl, (ints_own hown).1, (by repeat (first | exact Kept.refl _ | assumption | refine Kept.alloc ?_ _ | refine Kept.drew ?_ | refine Kept.drewN ?_ _ | refine Kept.setCell ?_ (by simp; try omega) _ | refine Kept.trans ?_ (by assumption)))⟩
end Go.Proofs.Ythbnkoaigeffnaa
