/- haymowref20: the document's table. -/
import Derived.Test.Ythbnkoaigeffnaa20L3
import Derived.Deep.QuietTactic
import Derived.BigQuiet
namespace Go.Proofs.Ythbnkoaigeffnaa
set_option linter.unusedSimpArgs false
set_option linter.unusedVariables false
open Go.RowKit

theorem rmode_any (m : Int) (w : World) : Calls Try.prog 15 #[.int .i64 m] w fun e w' => e = .returned (.bool (modeB m)) ∧ w = w' := by
  by_cases h1 : m = 1
  · subst h1
    go_enter Try.func15, Try.ntmps15
    go_wp2
    go_ret
    exact ⟨rfl, rfl⟩
  by_cases h2 : m = 2
  · subst h2
    go_enter Try.func15, Try.ntmps15
    go_wp2
    go_ret
    exact ⟨rfl, rfl⟩
  by_cases h3 : m = 3
  · subst h3
    go_enter Try.func15, Try.ntmps15
    go_wp2
    go_ret
    exact ⟨rfl, rfl⟩
  by_cases h6 : m = 6
  · subst h6
    go_enter Try.func15, Try.ntmps15
    go_wp2
    go_ret
    exact ⟨rfl, rfl⟩
  by_cases h7 : m = 7
  · subst h7
    go_enter Try.func15, Try.ntmps15
    go_wp2
    go_ret
    exact ⟨rfl, rfl⟩
  by_cases h8 : m = 8
  · subst h8
    go_enter Try.func15, Try.ntmps15
    go_wp2
    go_ret
    exact ⟨rfl, rfl⟩
  have hm : modeB m = false := by simp [modeB]; omega
  rw [hm]
  have e1 : (m == 1) = false := by simpa using h1
  have e2 : (m == 2) = false := by simpa using h2
  have e3 : (m == 3) = false := by simpa using h3
  have e6 : (m == 6) = false := by simpa using h6
  have e7 : (m == 7) = false := by simpa using h7
  have e8 : (m == 8) = false := by simpa using h8
  clear hm h1 h2 h3 h6 h7 h8
  go_enter Try.func15, Try.ntmps15
  go_wp2
  go_ret
  exact ⟨rfl, rfl⟩

theorem refV_upd (S : Tb) (k : Nat) (s : Sl) (j : Nat) : (if j = k * 3 + 2 then Value.int .i64 s.pos else if j = k * 3 + 1 then .int .i64 s.mode else if j = k * 3 then .int .i64 s.ino else refV S j) = refV (upd S k s) j := by
  unfold refV upd
  by_cases h2 : j = k * 3 + 2
  · rw [if_pos h2, if_neg (by omega), if_neg (by omega), if_pos (by omega)]
  · rw [if_neg h2]
    by_cases h1 : j = k * 3 + 1
    · rw [if_pos h1, if_neg (by omega), if_pos (by omega), if_pos (by omega)]
    · rw [if_neg h1]
      by_cases h0 : j = k * 3
      · rw [if_pos h0, if_pos (by omega), if_pos (by omega)]
      · rw [if_neg h0, if_neg (show ¬ j / 3 = k by omega)]
theorem TabR.upd3 {w : World} {b : Nat} {S : Tb} (h : TabR w b S) (k : Nat) (s : Sl) :
    TabR (((w.setCell ⟨b, k * 3, none⟩ (.int .i64 s.ino)).setCell ⟨b, k * 3 + 1, none⟩ (.int .i64 s.mode)).setCell ⟨b, k * 3 + 2, none⟩ (.int .i64 s.pos)) b (upd S k s) := by
  refine Blk.congr (((Blk.set h _ _).set _ _).set _ _) fun j _ => ?_
  exact refV_upd S k s j
theorem TabR.frozen {w : World} {b : Nat} {S : Tb} (h : TabR w b S) (j : Nat) : w.frozen? ⟨b, j, none⟩ = false := Blk.frozen h j
theorem Kept.tabR {w w1 : World} {b : Nat} {S : Tb} (hk : Kept w w1) (h : TabR w b S) : TabR w1 b S := hk.blk h

theorem But.set3 {w w1 : World} {b : Nat} (h : But b w w1) (o0 o1 o2 : Nat) (v0 v1 v2 : Value) : But b w (((w1.setCell ⟨b, o0, none⟩ v0).setCell ⟨b, o1, none⟩ v1).setCell ⟨b, o2, none⟩ v2) :=
  But.setCell (p := ⟨b, o2, none⟩) (But.setCell (p := ⟨b, o1, none⟩) (But.setCell (p := ⟨b, o0, none⟩) h (.inl rfl) v0) (.inl rfl) v1) (.inl rfl) v2

theorem ropen_no (S : Tb) (b : Nat) (i m : Int) (h : okO i m = false) (w : World) :
    Calls Try.prog 13 #[.pointer (some ⟨b, 0, none⟩), .int .i64 i, .int .i64 m] w fun e w' => e = .returned (.tuple #[.int .i64 0, .int .i64 1]) ∧ w = w' := by
  have HM := hid (rmode_any m)
  unfold okO at h
  cases hm : modeB m with
  | false =>
    rw [hm] at HM
    clear h hm
    go_enter Try.func13, Try.ntmps13
    go_wp2_with (go_at_call 15; refine (HM.out _).mono ?_; rintro e w2 ⟨rfl, rfl⟩)
    go_ret2
    exact ⟨rfl, rfl⟩
  | true =>
    rw [hm] at HM h
    by_cases h1 : i < 1
    · clear h hm
      go_enter Try.func13, Try.ntmps13
      go_wp2_with (go_at_call 15; refine (HM.out _).mono ?_; rintro e w2 ⟨rfl, rfl⟩)
      go_ret2
      exact ⟨rfl, rfl⟩
    · have h2 : 39 < i := by simp at h; omega
      clear h hm
      go_enter Try.func13, Try.ntmps13
      go_wp2_with (go_at_call 15; refine (HM.out _).mono ?_; rintro e w2 ⟨rfl, rfl⟩)
      go_ret2
      exact ⟨rfl, rfl⟩
set_option maxHeartbeats 1000000 in
theorem ropen_full (S : Tb) (hok : Ok S) (b : Nat) (i m : Int) (hm : modeB m = true) (h1 : 1 ≤ i) (h2 : i ≤ 39) (hf : ∀ j, j < 8 → (S j).up = true) (w : World) (hS : TabR w b S) :
    Calls Try.prog 13 #[.pointer (some ⟨b, 0, none⟩), .int .i64 i, .int .i64 m] w fun e w' => e = .returned (.tuple #[.int .i64 0, .int .i64 8]) ∧ w = w' := by
  have HM := hid (rmode_any m)
  rw [hm] at HM
  clear hm
  have HU := hid (fun j (hj : j < 8) => (show ((S j).ino == 0) = false by
    have := (Sl.ok_ino (hok j hj)).1
    rw [hf j hj] at this
    simpa using this))
  have HC := hid (fun j (hj : j < 8) => hS.ino j hj)
  clear hf hS
  have n1 : ¬ i < 1 := by omega
  have n2 : ¬ 39 < i := by omega
  go_enter Try.func13, Try.ntmps13
  go_wp2_with (go_at_call 15; refine (HM.out _).mono ?_; rintro e w2 ⟨rfl, rfl⟩)
  go_loop [8] (fun t => ∃ k : Nat, k ≤ 8 ∧ t = .int .i64 k) (fun t => (8 - intOf t).toNat)
  case atStart => exact ⟨0, by omega, rfl⟩
  case round =>
    obtain ⟨k, hk, rfl⟩ := hrel
    by_cases hlt : k < 8
    · have hc := HC.out k hlt
      have hu := HU.out k hlt
      generalize (S k).ino = x1 at *
      go_wp2
      go_round
      case rel => exact ⟨k + 1, by omega, by go_num⟩
      case measure => simp [intOf]; omega
    · obtain rfl : k = 8 := by omega
      go_wp2
      go_ret2
      exact ⟨rfl, rfl⟩
set_option maxHeartbeats 1000000 in
theorem ropen_yes (S : Tb) (hok : Ok S) (b q : Nat) (i m : Int) (hm : modeB m = true) (h1 : 1 ≤ i) (h2 : i ≤ 39) (hq : q < 8) (hf : ∀ j, j < q → (S j).up = true) (hn : (S q).up = false) (w : World) (hS : TabR w b S) :
    Calls Try.prog 13 #[.pointer (some ⟨b, 0, none⟩), .int .i64 i, .int .i64 m] w fun e w' => e = .returned (.tuple #[.int .i64 q, .int .i64 0]) ∧ TabR w' b (upd S q (if m = 8 then .dir i else .file i m 0)) ∧ But b w w' := by
  obtain ⟨s, hs⟩ : ∃ s : Sl, s = (if m = 8 then .dir i else .file i m 0) := ⟨_, rfl⟩
  rw [← hs]
  have e1 : s.ino = i := by rw [hs]; split <;> rfl
  have e2 : s.mode = m := by rw [hs]; split <;> simp_all [Sl.mode]
  have e3 : s.pos = 0 := by rw [hs]; split <;> rfl
  have HT := hid (hS.upd3 q s)
  rw [e1, e2, e3] at HT
  have HM := hid (rmode_any m)
  rw [hm] at HM
  have HU := hid (fun j (hj : j < q) => (show ((S j).ino == 0) = false by
    have := (Sl.ok_ino (hok j (by omega))).1
    rw [hf j hj] at this
    simpa using this))
  have HN := hid ((Sl.ok_ino (hok q hq)).1.2 hn)
  have HC := hid (fun j (hj : j < 8) => hS.ino j hj)
  have h0 := hS.ino q hq
  have h1' := hS.mode q hq
  have h2' := hS.pos q hq
  have f0 := hS.frozen (q * 3)
  have f1 := hS.frozen (q * 3 + 1)
  have f2 := hS.frozen (q * 3 + 2)
  rw [HN.out] at h0
  generalize (S q).mode = y1 at *
  generalize (S q).pos = y2 at *
  clear hm hf hn hS hs e1 e2 e3
  have n1 : ¬ i < 1 := by omega
  have n2 : ¬ 39 < i := by omega
  go_enter Try.func13, Try.ntmps13
  go_wp2_with (go_at_call 15; refine (HM.out _).mono ?_; rintro e w2 ⟨rfl, rfl⟩)
  go_loop [8] (fun t => ∃ k : Nat, k ≤ q ∧ t = .int .i64 k) (fun t => (q + 1 - intOf t).toNat)
  case atStart => exact ⟨0, by omega, rfl⟩
  case round =>
    obtain ⟨k, hk, rfl⟩ := hrel
    have hk8 : k < 8 := by omega
    by_cases hlt : k < q
    · have hc := HC.out k hk8
      have hu := HU.out k hlt
      generalize (S k).ino = x1 at *
      go_wp2
      go_round
      case rel => exact ⟨k + 1, by omega, by go_num⟩
      case measure => simp [intOf]; omega
    · obtain rfl : k = q := by omega
      go_wp2
      go_ret2
      refine ⟨rfl, ?_, ?_⟩
      · exact HT.out
      · exact (But.refl b w).set3 _ _ _ _ _ _
theorem ropen_any (S : Tb) (hok : Ok S) (b : Nat) (i m : Int) (w : World) (hS : TabR w b S) :
    Calls Try.prog 13 #[.pointer (some ⟨b, 0, none⟩), .int .i64 i, .int .i64 m] w fun e w' => e = .returned (.tuple #[.int .i64 (oF S i m), .int .i64 (oE S i m)]) ∧ TabR w' b (oS S i m) ∧ But b w w' := by
  unfold oF oE oS
  cases h : okO i m with
  | false =>
    refine (ropen_no S b i m h w).mono fun e w' ⟨he, hw⟩ => ?_
    subst hw
    exact ⟨he, by simpa using hS, But.refl _ _⟩
  | true =>
    have hh := h
    simp [okO] at hh
    rcases lst_spec S with ⟨h1, h2, h3⟩ | ⟨h1, h2⟩
    · simp only [h1, and_self, if_true]
      exact ropen_yes S hok b _ i m hh.1.1 hh.1.2 hh.2 h1 h3 h2 w hS
    · simp only [h1]
      refine (ropen_full S hok b i m hh.1.1 hh.1.2 hh.2 h2 w hS).mono fun e w' ⟨he, hw⟩ => ?_
      subst hw
      exact ⟨he, hS, But.refl _ _⟩

theorem rget_yes (S : Tb) (hok : Ok S) (b k : Nat) (hk : k < 8) (hu : (S k).up = true) (w : World) (hS : TabR w b S) :
    Calls Try.prog 16 #[.pointer (some ⟨b, 0, none⟩), .int .i64 k] w fun e w' => e = .returned (.tuple #[.agg #[.int .i64 (S k).ino, .int .i64 (S k).mode, .int .i64 (S k).pos], .int .i64 0]) ∧ Kept w w' := by
  have h0 := hS.ino k hk
  have h1 := hS.mode k hk
  have h2 := hS.pos k hk
  have hz : ((S k).ino == 0) = false := by
    have := (Sl.ok_ino (hok k hk)).1
    rw [hu] at this
    simpa using this
  have hk7 : ¬ (7 : Int) < (k : Int) := by omega
  have hk8 : (k : Int) < 8 := by omega
  generalize (S k).ino = i at *
  generalize (S k).mode = m at *
  generalize (S k).pos = p at *
  clear hS hu
  go_enter Try.func16, Try.ntmps16
  go_wp2
  exact bodyPost_ret (v := .tuple #[.agg #[.int .i64 i, .int .i64 m, .int .i64 p], .int .i64 0]) (by simp [results, Try.results16, go_sem]) rfl ⟨rfl, (by repeat (first | exact Kept.refl _ | assumption | refine Kept.alloc ?_ _ | refine Kept.drew ?_ | refine Kept.drewN ?_ _ | refine Kept.setCell ?_ (by simp; try omega) _ | refine Kept.trans ?_ (by assumption)))⟩
theorem rget_out (b : Nat) (fd : Int) (h : fd < 0 ∨ 8 ≤ fd) (w : World) :
    Calls Try.prog 16 #[.pointer (some ⟨b, 0, none⟩), .int .i64 fd] w fun e w' => e = .returned (.tuple #[.agg #[.int .i64 0, .int .i64 0, .int .i64 0], .int .i64 15]) ∧ Kept w w' := by
  rcases h with h | h
  · go_enter Try.func16, Try.ntmps16
    go_wp2
    exact bodyPost_ret (v := .tuple #[.agg #[.int .i64 0, .int .i64 0, .int .i64 0], .int .i64 15]) (by simp [results, Try.results16, go_sem]) rfl ⟨rfl, (by repeat (first | exact Kept.refl _ | assumption | refine Kept.alloc ?_ _ | refine Kept.drew ?_ | refine Kept.drewN ?_ _ | refine Kept.setCell ?_ (by simp; try omega) _ | refine Kept.trans ?_ (by assumption)))⟩
  · have h' : ¬ fd < 0 := by omega
    have h7 : 7 < fd := by omega
    go_enter Try.func16, Try.ntmps16
    go_wp2
    exact bodyPost_ret (v := .tuple #[.agg #[.int .i64 0, .int .i64 0, .int .i64 0], .int .i64 15]) (by simp [results, Try.results16, go_sem]) rfl ⟨rfl, (by repeat (first | exact Kept.refl _ | assumption | refine Kept.alloc ?_ _ | refine Kept.drew ?_ | refine Kept.drewN ?_ _ | refine Kept.setCell ?_ (by simp; try omega) _ | refine Kept.trans ?_ (by assumption)))⟩
theorem rget_shut (S : Tb) (hok : Ok S) (b k : Nat) (hk : k < 8) (hu : (S k).up = false) (w : World) (hS : TabR w b S) :
    Calls Try.prog 16 #[.pointer (some ⟨b, 0, none⟩), .int .i64 k] w fun e w' => e = .returned (.tuple #[.agg #[.int .i64 0, .int .i64 0, .int .i64 0], .int .i64 15]) ∧ Kept w w' := by
  have h0 := hS.ino k hk
  rw [(Sl.ok_ino (hok k hk)).1.2 hu] at h0
  have hk7 : ¬ (7 : Int) < (k : Int) := by omega
  have hk8 : (k : Int) < 8 := by omega
  clear hS hu
  go_enter Try.func16, Try.ntmps16
  go_wp2
  exact bodyPost_ret (v := .tuple #[.agg #[.int .i64 0, .int .i64 0, .int .i64 0], .int .i64 15]) (by simp [results, Try.results16, go_sem]) rfl ⟨rfl, (by repeat (first | exact Kept.refl _ | assumption | refine Kept.alloc ?_ _ | refine Kept.drew ?_ | refine Kept.drewN ?_ _ | refine Kept.setCell ?_ (by simp; try omega) _ | refine Kept.trans ?_ (by assumption)))⟩
theorem rget_any (S : Tb) (hok : Ok S) (b : Nat) (fd : Int) (w : World) (hS : TabR w b S) :
    Calls Try.prog 16 #[.pointer (some ⟨b, 0, none⟩), .int .i64 fd] w fun e w' => e = .returned (.tuple #[.agg #[.int .i64 (gI S fd), .int .i64 (gM S fd), .int .i64 (gP S fd)], .int .i64 (gE S fd)]) ∧ Kept w w' := by
  unfold gI gM gP gE
  cases h : has S fd with
  | true =>
    obtain ⟨h0, h1, h2⟩ := (has_iff S fd).1 h
    have := rget_yes S hok b fd.toNat (by omega) h2 w hS
    rw [show ((fd.toNat : Nat) : Int) = fd by omega] at this
    exact this
  | false =>
    by_cases hr : 0 ≤ fd ∧ fd < 8
    · have hu : (S fd.toNat).up = false := by
        cases hx : (S fd.toNat).up with
        | false => rfl
        | true => rw [(has_iff S fd).2 ⟨hr.1, hr.2, hx⟩] at h; cases h
      have := rget_shut S hok b fd.toNat (by omega) hu w hS
      rw [show ((fd.toNat : Nat) : Int) = fd by omega] at this
      exact this
    · exact rget_out b fd (by omega) w
end Go.Proofs.Ythbnkoaigeffnaa
