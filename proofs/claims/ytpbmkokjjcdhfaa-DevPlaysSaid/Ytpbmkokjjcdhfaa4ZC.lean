/- The document's device: Read. -/
import Derived.Test.Ytpbmkokjjcdhfaa4ZB
namespace Go.Proofs.Ytpbmkokjjcdhfaa
set_option linter.unusedSimpArgs false
set_option linter.unusedVariables false
open Go.RowKit

def RdPost (l : List UInt8) (k : Int) (w : World) (e : Ending) (w' : World) : Prop := e = .returned (.tuple #[.string (bstr l), .int .i64 k]) ∧ w = w'
theorem take_snocR {α : Type} (l : List α) (k : Nat) (hk : k < l.length) : l.take (k + 1) = l.take k ++ [l[k]] := by
  rw [List.take_add_one, List.getElem?_eq_getElem hk]; rfl
section
variable {w : World} {B : Nat} {h : RH} {S : DS}
theorem rd_bad (S : DS) (i k : Int) (hk : rdE S i = k) (h0 : k ≠ 0) (w : World) : RdPost (rdL S i) (rdE S i) w (.returned (.tuple #[.string ByteArray.empty, .int .i64 k])) w := ⟨by rw [hk, rdL, hk, if_neg h0]; rfl, rfl⟩
set_option maxHeartbeats 2000000 in
theorem rread_any (i : Int) (w : World) (r : RefAt w B h S) (ok : S.ok) :
    Calls Try.prog 23 #[.pointer (some ⟨h.P, 0, none⟩), .int .i64 i] w (RdPost (rdL S i) (rdE S i) w) := by
  have hn := ok.n2
  have hn1 := ok.n1
  obtain ⟨g0, k0, hv0, hk0, -⟩ := row_some r.hH (by omega)
  have c0 := r.c0
  rw [hv0] at c0
  cases hbb : isB S.n i with
  | false =>
    have HE := hid (show rdE S i = 4 by simp [rdE, hbb])
    have hd := isB_f hbb
    clear r hbb hv0 ok
    generalize S.n = n at *
    by_cases h0 : i < 0
    · go_enter Try.func23, Try.ntmps23
      go_wp2
      go_ret2
      exact rd_bad S _ 4 HE.out (by decide) _
    · have h1 : (n : Int) ≤ i := by omega
      have h0' : decide (i < 0) = false := decide_eq_false h0
      clear hd h0
      go_enter Try.func23, Try.ntmps23
      go_wp2
      go_ret2
      exact rd_bad S _ 4 HE.out (by decide) _
  | true =>
    obtain ⟨hi0, hi1⟩ := isB_t hbb
    have h0' : decide (i < 0) = false := decide_eq_false (by omega)
    have h1' : decide ((S.n : Int) ≤ i) = false := decide_eq_false (by omega)
    obtain ⟨q, rfl⟩ : ∃ q : Nat, i = (q : Int) := ⟨i.toNat, by omega⟩
    have hq : q < S.n := by omega
    have c4 := r.c4
    have c5 := r.c5
    cases hpw : S.pow with
    | false =>
      have HE := hid (show rdE S q = 10 by simp [rdE, hbb, hpw])
      rw [hpw] at c4
      clear r hbb hv0 ok c5
      generalize S.n = n at *
      go_enter Try.func23, Try.ntmps23
      go_wp2
      go_ret2
      exact rd_bad S _ 10 HE.out (by decide) _
    | true =>
      rw [hpw] at c4
      cases hmn : S.mnt with
      | false =>
        have HE := hid (show rdE S q = 9 by simp [rdE, hbb, hpw, hmn])
        rw [hmn] at c5
        clear r hbb hv0 ok
        generalize S.n = n at *
        go_enter Try.func23, Try.ntmps23
        go_wp2
        go_ret2
        exact rd_bad S _ 9 HE.out (by decide) _
      | true =>
        rw [hmn] at c5
        have hfl : (S.flt (q : Int)).getD 0 = 0 ∨ (S.flt (q : Int)).getD 0 = 1 ∨ (S.flt (q : Int)).getD 0 = 2 ∨ (S.flt (q : Int)).getD 0 = 3 := by
          cases hf : S.flt (q : Int) with
          | none => simp
          | some v => have := ok.flt q v hf; simp only [Option.getD_some]; omega
        obtain ⟨gH, cH, gF, cF, d0, d1, hcH, hcF, dH, dF, -⟩ := r.looks q hq
        by_cases hodd : (S.flt (q : Int)).getD 0 % 2 = 1
        · have HE := hid (show rdE S q = 9 by simp [rdE, hbb, hpw, hmn, hodd])
          clear r hbb hv0 ok c0
          generalize S.n = n at *
          generalize (S.flt (q : Int)).getD 0 = v at *
          have hv : v = 1 ∨ v = 3 := by omega
          clear hodd hfl
          rcases hv with rfl | rfl
          all_goals (
            go_enter Try.func23, Try.ntmps23
            go_wp2
            go_ret2
            exact rd_bad S _ 9 HE.out (by decide) _)
        · have HE := hid (show rdE S q = 0 by simp [rdE, hbb, hpw, hmn, hodd])
          have HL := hid (show rdL S q = rdF S.blk S.pend q by rw [rdL, HE.out, if_pos rfl]; rfl)
          rw [HE.out, HL.out]
          have HR := hid r
          have c2 := r.c2
          obtain ⟨AL, cL, hvL, hnc, -⟩ := row_len r.hL
          rw [hvL] at c2
          have HVL := hid hvL
          obtain ⟨np, hnp⟩ : ∃ np, np = S.pend.length := ⟨_, rfl⟩
          rw [← hnp] at c2 hnc
          have HNP := hid hnp
          clear r hbb hv0 ok c0 hvL hnp hpw hmn HE HL
          have HBK := hid (show bstr (S.blk q) = bstr (rdF S.blk (S.pend.take 0) q) from rfl)
          rw [HBK.out] at dH
          clear HBK
          generalize (S.flt (q : Int)).getD 0 = v at *
          have hv : v = 0 ∨ v = 2 := by omega
          clear hodd hfl
          have hnp9 : np ≤ 9223372036854775807 := by
            have := (row_len HR.out.hL)
            obtain ⟨_, c, -, h1, h2⟩ := this
            rw [← HNP.out] at h1; omega
          rcases hv with rfl | rfl
          all_goals (
            go_enter Try.func23, Try.ntmps23
            go_wp2
            go_loopw [6, 7] (fun ts t wr => ∃ k : Nat, k ≤ np ∧ ts = .string (bstr (rdF S.blk (S.pend.take k) q)) ∧ t = .int .i64 k ∧ w = wr) (fun _ t _ => np - (intOf t).toNat)
            case atStart => exact ⟨0, by omega, rfl, rfl, rfl⟩
            case round =>
              obtain ⟨k, hk, rfl, rfl, rfl⟩ := hrel
              by_cases hlt : k < np
              · have hkl : k < S.pend.length := by rw [← HNP.out]; exact hlt
                obtain ⟨g, c, hv, hc1, hc2, l0, l1⟩ := HR.out.atL k hkl
                rw [HVL.out, ← HNP.out] at hv
                injection hv with eA _ ec
                subst eA; subst ec
                have HSU := hid (show rdF S.blk (S.pend.take (k + 1)) q = if (S.pend[k]).1 = q then (S.pend[k]).2 else rdF S.blk (S.pend.take k) q by rw [take_snocR _ _ hkl, rdF_snoc])
                generalize hpk : S.pend[k] = pk at *
                obtain ⟨at', l⟩ := pk
                dsimp only at l0 l1 HSU
                clear hpk hc1 hc2
                have q0 : (0 : Int) ≤ (k : Int) := by omega
                have q1 : (k : Int) < (np : Int) := by omega
                by_cases hat : at' = q
                · have HS2 := hid (HSU.out.trans (if_pos hat))
                  subst hat
                  clear HSU
                  go_wp2
                  go_roundw
                  case rel => exact ⟨k + 1, by omega, by rw [HS2.out], by go_num, by first | rfl | trivial⟩
                  case measure => simp [intOf]; omega
                · have HS2 := hid (HSU.out.trans (if_neg hat))
                  have hat2 : ((at' : Int) == (q : Int)) = false := by simp; omega
                  clear HSU hat
                  go_wp2
                  go_roundw
                  case rel => exact ⟨k + 1, by omega, by rw [HS2.out], by go_num, by first | rfl | trivial⟩
                  case measure => simp [intOf]; omega
              · have hkn : k = np := by omega
                have HT := hid (show S.pend.take k = S.pend from List.take_of_length_le (by rw [hkn, HNP.out]; exact Nat.le_refl _))
                rw [HT.out]
                have hlt2 : ¬ (k : Int) < (np : Int) := by omega
                go_wp2
                go_ret2
                exact ⟨rfl, rfl⟩)
end
end Go.Proofs.Ytpbmkokjjcdhfaa
