/- The device's small methods. -/
import Derived.Test.Ytpbmkokjjcdhfaa4B
import Derived.Deep.QuietTactic
import Derived.BigQuiet
namespace Go.Proofs.Ytpbmkokjjcdhfaa
set_option linter.unusedSimpArgs false
set_option linter.unusedVariables false
open Go.RowKit

def DPost (r : Value) (S' : DS) (B : Nat) (h : DH) (w : World) (e : Ending) (w' : World) : Prop := e = .returned r ∧ ∃ h', DevAt w' B h' S' ∧ Step h h' w w'
def isB (n : Nat) (i : Int) : Bool := decide (0 ≤ i) && decide (i < (n : Int))
theorem isB_t {n : Nat} {i : Int} (h : isB n i = true) : 0 ≤ i ∧ i < (n : Int) := by simpa [isB] using h
theorem isB_f {n : Nat} {i : Int} (h : isB n i = false) : i < 0 ∨ (n : Int) ≤ i := by simp [isB] at h; omega

section
variable {w : World} {B : Nat} {h : DH} {S : DS}

theorem there_any (i : Int) (w : World) (d : DevAt w B h S) : Calls Try.prog 32 #[.pointer (some ⟨h.P, 0, none⟩), .int .i64 i] w fun e w' => e = .returned (.bool (isB S.n i)) ∧ w = w' := by
  have c0 := d.c0
  have hn := d.ok.n2
  generalize hb : isB S.n i = b
  generalize S.n = n at *
  generalize h.P = P at *
  generalize h.gB = gB at *
  clear d
  by_cases h0 : 0 ≤ i
  · by_cases h1 : i < (n : Int)
    · obtain rfl : b = true := by rw [← hb]; simp [isB, h0, h1]
      clear hb
      go_enter Try.func32, Try.ntmps32
      go_wp2
      go_ret
      exact ⟨rfl, rfl⟩
    · obtain rfl : b = false := by rw [← hb]; simp [isB, h1]
      clear hb
      have hd : decide (i < (n : Int)) = false := decide_eq_false h1
      go_enter Try.func32, Try.ntmps32
      go_wp2
      go_ret
      exact ⟨rfl, rfl⟩
  · obtain rfl : b = false := by rw [← hb]; simp [isB, h0]
    clear hb
    have hd : decide (0 ≤ i) = false := decide_eq_false h0
    go_enter Try.func32, Try.ntmps32
    go_wp2
    go_ret
    exact ⟨rfl, rfl⟩

theorem size_any (w : World) (d : DevAt w B h S) : Calls Try.prog 40 #[.pointer (some ⟨h.P, 0, none⟩)] w fun e w' => e = .returned (.int .i64 S.n) ∧ w = w' := by
  have c0 := d.c0
  have hn := d.ok.n2
  generalize S.n = n at *
  generalize h.P = P at *
  generalize h.gB = gB at *
  clear d
  go_enter Try.func40, Try.ntmps40
  go_wp2
  go_ret
  exact ⟨rfl, rfl⟩
theorem power_any (w : World) (d : DevAt w B h S) : Calls Try.prog 19 #[.pointer (some ⟨h.P, 0, none⟩)] w fun e w' => e = .returned (.bool S.pow) ∧ w = w' := by
  have c0 := d.c5
  generalize S.pow = n at *
  generalize h.P = P at *
  clear d
  go_enter Try.func19, Try.ntmps19
  go_wp2
  go_ret
  exact ⟨rfl, rfl⟩
theorem mounted_any (w : World) (d : DevAt w B h S) : Calls Try.prog 41 #[.pointer (some ⟨h.P, 0, none⟩)] w fun e w' => e = .returned (.bool S.mnt) ∧ w = w' := by
  have c0 := d.c6
  generalize S.mnt = n at *
  generalize h.P = P at *
  clear d
  go_enter Try.func41, Try.ntmps41
  go_wp2
  go_ret
  exact ⟨rfl, rfl⟩
theorem mount_any (b : Bool) (w : World) (d : DevAt w B h S) : Calls Try.prog 17 #[.pointer (some ⟨h.P, 0, none⟩), .bool b] w (DPost (.tuple #[]) { S with mnt := b } B h w) := by
  have c6 := d.c6
  have f6 := d.fz 6
  have HD := hid (d.field 6 (.bool b) { S with mnt := b } rfl rfl rfl rfl rfl rfl ⟨d.ok.n1, d.ok.n2, d.ok.blk, d.ok.pend, d.ok.bud, d.ok.flt⟩)
  have HS := hid (Step.field d 6 (.bool b))
  generalize S.mnt = m at c6
  clear d
  obtain ⟨P, hP⟩ : ∃ P, P = h.P := ⟨_, rfl⟩
  rw [← hP] at c6 f6 HD HS ⊢
  clear hP
  go_enter Try.func17, Try.ntmps17
  go_wp2
  go_end0
  exact ⟨rfl, _, HD.out, HS.out⟩
theorem budget_any (k : Int) (w : World) (d : DevAt w B h S) (hk : k ≤ 9223372036854775807) : Calls Try.prog 26 #[.pointer (some ⟨h.P, 0, none⟩), .int .i64 k] w (DPost (.int .i64 (if -1 ≤ k then 0 else 1)) (if -1 ≤ k then { S with bud := k } else S) B h w) := by
  by_cases h0 : -1 ≤ k
  · rw [if_pos h0, if_pos h0]
    have c4 := d.c4
    have f4 := d.fz 4
    have HD := hid (d.field 4 (.int .i64 k) { S with bud := k } rfl rfl rfl rfl rfl rfl ⟨d.ok.n1, d.ok.n2, d.ok.blk, d.ok.pend, ⟨h0, hk⟩, d.ok.flt⟩)
    have HS := hid (Step.field d 4 (.int .i64 k))
    generalize S.bud = m at c4
    clear d
    obtain ⟨P, hP⟩ : ∃ P, P = h.P := ⟨_, rfl⟩
    rw [← hP] at c4 f4 HD HS ⊢
    clear hP
    have hd : ¬ k < -1 := by omega
    go_enter Try.func26, Try.ntmps26
    go_wp2
    go_ret
    exact ⟨rfl, _, HD.out, HS.out⟩
  · rw [if_neg h0, if_neg h0]
    have HD := hid d
    clear d
    have hd : k < -1 := by omega
    go_enter Try.func26, Try.ntmps26
    go_wp2
    go_ret
    exact ⟨rfl, _, HD.out, Step.refl _ _⟩

def spendP (S : DS) : Bool := S.pow && decide (S.bud ≠ 0)
def spendS (S : DS) : DS := { S with pow := spendP S, bud := if spendP S = true ∧ 0 < S.bud then S.bud - 1 else S.bud }
def spendE (S : DS) : Int := if spendP S = false then 10 else if S.mnt = false then 9 else 0
theorem DS.ok.spend (o : S.ok) : (spendS S).ok := ⟨o.n1, o.n2, o.blk, o.pend, by have := o.bud; simp only [spendS]; split <;> omega, o.flt⟩
theorem spend_any (w : World) (d : DevAt w B h S) : Calls Try.prog 33 #[.pointer (some ⟨h.P, 0, none⟩)] w (DPost (.int .i64 (spendE S)) (spendS S) B h w) := by
  have hbd := d.ok.bud
  have c4 := d.c4
  have c5 := d.c5
  have c6 := d.c6
  have f4 := d.fz 4
  have f5 := d.fz 5
  have HD := hid d
  have h5 := Step.field d 5 (.bool false)
  have ok := d.ok
  clear d
  obtain ⟨n, blk, pend, flt, fn, bud, pow, mnt⟩ := S
  dsimp only at hbd c4 c5 c6
  have HOK := hid ok.spend
  by_cases hb0 : bud = 0
  · subst hb0
    have HE := hid (show spendE ⟨n, blk, pend, flt, fn, 0, pow, mnt⟩ = 10 by simp [spendE, spendP])
    have HS := hid (show spendS ⟨n, blk, pend, flt, fn, 0, pow, mnt⟩ = ⟨n, blk, pend, flt, fn, 0, false, mnt⟩ by simp [spendS, spendP])
    rw [HS.out] at HOK
    have HN := hid (HD.out.field 5 (.bool false) ⟨n, blk, pend, flt, fn, 0, false, mnt⟩ rfl rfl rfl rfl rfl rfl HOK.out)
    have H5 := hid h5
    rw [HE.out, HS.out]
    clear h5 ok HD HE HS HOK
    obtain ⟨P, hP⟩ : ∃ P, P = h.P := ⟨_, rfl⟩
    rw [← hP] at c4 c5 c6 f4 f5 HN H5 ⊢
    clear hP
    go_enter Try.func33, Try.ntmps33
    go_wp2
    go_ret
    exact ⟨rfl, _, HN.out, H5.out⟩
  · cases pow with
    | false =>
      have HE := hid (show spendE ⟨n, blk, pend, flt, fn, bud, false, mnt⟩ = 10 by simp [spendE, spendP])
      have HS := hid (show spendS ⟨n, blk, pend, flt, fn, bud, false, mnt⟩ = ⟨n, blk, pend, flt, fn, bud, false, mnt⟩ by simp [spendS, spendP])
      rw [HE.out, HS.out]
      clear h5 ok HE HS HOK
      have hne : (bud == 0) = false := by simpa using hb0
      obtain ⟨P, hP⟩ : ∃ P, P = h.P := ⟨_, rfl⟩
      rw [← hP] at c4 c5 c6 f4 f5 ⊢
      clear hP
      go_enter Try.func33, Try.ntmps33
      go_wp2
      go_ret
      exact ⟨rfl, _, HD.out, Step.refl _ _⟩
    | true =>
      have hne : (bud == 0) = false := by simpa using hb0
      by_cases hb1 : 0 < bud
      · have HS := hid (show spendS ⟨n, blk, pend, flt, fn, bud, true, mnt⟩ = ⟨n, blk, pend, flt, fn, bud - 1, true, mnt⟩ by simp [spendS, spendP, hb0, hb1])
        rw [HS.out] at HOK
        have HN := hid (HD.out.field 4 (.int .i64 (bud - 1)) ⟨n, blk, pend, flt, fn, bud - 1, true, mnt⟩ rfl rfl rfl rfl rfl rfl HOK.out)
        have H4 := hid (Step.field HD.out 4 (.int .i64 (bud - 1)))
        have HE := hid (show spendE ⟨n, blk, pend, flt, fn, bud, true, mnt⟩ = if mnt = false then 9 else 0 by simp [spendE, spendP, hb0])
        rw [HE.out, HS.out]
        clear h5 ok HE HS HOK HD
        obtain ⟨P, hP⟩ : ∃ P, P = h.P := ⟨_, rfl⟩
        rw [← hP] at c4 c5 c6 f4 f5 HN H4 ⊢
        clear hP
        cases mnt with
        | false =>
          go_enter Try.func33, Try.ntmps33
          go_wp2
          go_ret
          exact ⟨rfl, _, HN.out, H4.out⟩
        | true =>
          go_enter Try.func33, Try.ntmps33
          go_wp2
          go_ret
          exact ⟨rfl, _, HN.out, H4.out⟩
      · have HS := hid (show spendS ⟨n, blk, pend, flt, fn, bud, true, mnt⟩ = ⟨n, blk, pend, flt, fn, bud, true, mnt⟩ by simp [spendS, spendP, hb0, hb1])
        have HE := hid (show spendE ⟨n, blk, pend, flt, fn, bud, true, mnt⟩ = if mnt = false then 9 else 0 by simp [spendE, spendP, hb0])
        rw [HE.out, HS.out]
        clear h5 ok HE HS HOK
        obtain ⟨P, hP⟩ : ∃ P, P = h.P := ⟨_, rfl⟩
        rw [← hP] at c4 c5 c6 f4 f5 ⊢
        clear hP
        have hd : decide (0 < bud) = false := decide_eq_false hb1
        cases mnt with
        | false =>
          go_enter Try.func33, Try.ntmps33
          go_wp2
          go_ret
          exact ⟨rfl, _, HD.out, Step.refl _ _⟩
        | true =>
          go_enter Try.func33, Try.ntmps33
          go_wp2
          go_ret
          exact ⟨rfl, _, HD.out, Step.refl _ _⟩
end
end Go.Proofs.Ytpbmkokjjcdhfaa
