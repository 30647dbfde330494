/- The device: Write. -/
import Derived.Test.Ytpbmkokjjcdhfaa4F
import Derived.Deep.RegionHeld3
import Derived.Deep.RegionWith
import Derived.StillTailTactics
namespace Go.Proofs.Ytpbmkokjjcdhfaa
set_option linter.unusedSimpArgs false
set_option linter.unusedVariables false
open Go.RowKit

/-- a slice of octets that is handed to a method -/
def BIn (h : DH) (w : World) (v : Value) (l : List UInt8) : Prop :=
  ∃ A c, v = .slice A l.length c ∧ l.length ≤ c ∧ c ≤ 9223372036854775807 ∧ (0 < l.length → ∃ b o, A = some ⟨b, o, none⟩ ∧ w.rangeAt b o (bcells l) ∧ Out h w b)
theorem Step.range {h h' : DH} {w w' : World} (s : Step h h' w w') {b o : Nat} {cs : List Value} (ou : Out h w b) (hr : w.rangeAt b o cs) : w'.rangeAt b o cs := fun j v hv => s.keeps ou (hr j v hv)
theorem Step.bin {h h' : DH} {w w' : World} (s : Step h h' w w') {v : Value} {l : List UInt8} (hb : BIn h w v l) : BIn h' w' v l := by
  obtain ⟨A, c, hv, h1, h2, h3⟩ := hb
  refine ⟨A, c, hv, h1, h2, fun h0 => ?_⟩
  obtain ⟨b, o, hA, hr, ou⟩ := h3 h0
  exact ⟨b, o, hA, s.range ou hr, s.outs ou⟩

def wrE (S : DS) (i : Int) (n : Nat) : Int := if isB S.n i = false then 4 else if n ≠ 128 then 1 else if spendE S ≠ 0 then spendE S else if 1 < (S.flt i).getD 0 then 9 else 0
def wrS (S : DS) (i : Int) (l : List UInt8) : DS := if isB S.n i = false ∨ l.length ≠ 128 then S else if wrE S i l.length = 0 then { spendS S with pend := S.pend ++ [(i.toNat, l)] } else spendS S

section
variable {w : World} {B : Nat} {h : DH} {S : DS}
set_option maxHeartbeats 2000000 in
theorem write_err (i : Int) (vb : Value) (l : List UInt8) (w : World) (d : DevAt w B h S) (hb : BIn h w vb l) (hne : wrE S i l.length ≠ 0) :
    Calls Try.prog 9 #[.pointer (some ⟨h.P, 0, none⟩), .int .i64 i, vb] w (DPost (.int .i64 (wrE S i l.length)) (wrS S i l) B h w) := by
  have HT := hid (there_any i w d)
  have hn := d.ok.n2
  obtain ⟨A, c, rfl, hl1, hl2, -⟩ := hb
  have HD := hid d
  cases hbb : isB S.n i with
  | false =>
    have HE := hid (show wrE S i l.length = 4 by simp [wrE, hbb])
    have HS := hid (show wrS S i l = S by simp [wrS, hbb])
    rw [HE.out, HS.out]
    rw [hbb] at HT
    clear d hbb HE HS hne
    generalize l.length = n at *
    go_enter Try.func9, Try.ntmps9
    go_wp2_with (go_at_call 32; refine HT.out.mono ?_; rintro e w2 ⟨rfl, rfl⟩)
    go_ret
    exact ⟨rfl, _, HD.out, Step.refl _ _⟩
  | true =>
    rw [hbb] at HT
    by_cases hl : l.length = 128
    · have HSP := hid (spend_any w d)
      obtain ⟨hi0, hi1⟩ := isB_t hbb
      have HS := hid (show wrS S i l = spendS S by rw [wrS, if_neg (by simp [hbb, hl]), if_neg hne])
      rw [HS.out]
      by_cases hse : spendE S = 0
      · have hf : 1 < (S.flt i).getD 0 := by
          rcases Int.lt_or_le 1 ((S.flt i).getD 0) with hh | hh
          · exact hh
          · exfalso; apply hne; rw [wrE, if_neg (by simp [hbb]), if_neg (by simp [hl]), if_neg (by simp [hse]), if_neg (by omega)]
        have HE := hid (show wrE S i l.length = 9 by rw [wrE, if_neg (by simp [hbb]), if_neg (by simp [hl]), if_neg (by simp [hse]), if_pos hf])
        have hfl : (S.flt i).getD 0 = 2 ∨ (S.flt i).getD 0 = 3 := by
          cases hfc : S.flt i with
          | none => rw [hfc] at hf; simp at hf
          | some v => have := d.ok.flt i v hfc; rw [hfc] at hf; simp only [Option.getD_some] at hf ⊢; omega
        rw [HE.out, hl] at *
        rw [hse] at HSP
        have HFL := hid (fun (w' : World) (h' : DH) (d' : DevAt w' B h' (spendS S)) => (⟨d'.c3, d'.hF.look i (by omega) (by omega)⟩ : w'.cell? ⟨h'.P, 3, none⟩ = some (.map (some h'.gF)) ∧ (Instr.lookup 59 (.map (some h'.gF)) (.int .i64 i) false).run Try.prog w' = .ok (.int .i64 ((S.flt i).getD 0)) w'))
        clear d hbb HE HS hne hse hf hl HD
        generalize (S.flt i).getD 0 = v at *
        rcases hfl with rfl | rfl
        all_goals (
          go_enter Try.func9, Try.ntmps9
          go_wp2_with (first
            | (go_at_call 32; refine HT.out.mono ?_; rintro e w2 ⟨rfl, rfl⟩)
            | (go_at_call 33; refine HSP.out.mono ?_; rintro e w1 ⟨rfl, h1, d1, s1⟩; have D1 := hid d1; have S1 := hid s1; obtain ⟨c3, hlook⟩ := HFL.out _ _ d1; rw [s1.P] at c3; clear d1 s1))
          go_ret
          exact ⟨rfl, _, D1.out, S1.out⟩)
      · have HE := hid (show wrE S i l.length = spendE S by rw [wrE, if_neg (by simp [hbb]), if_neg (by simp [hl]), if_pos hse])
        rw [HE.out, hl]
        have hse2 : (spendE S != 0) = true := by simpa using hse
        rw [hl] at hl1
        clear d hbb HE HS hne hse hl HD
        generalize spendE S = se at *
        go_enter Try.func9, Try.ntmps9
        go_wp2_with (first
          | (go_at_call 32; refine HT.out.mono ?_; rintro e w2 ⟨rfl, rfl⟩)
          | (go_at_call 33; refine HSP.out.mono ?_; rintro e w1 ⟨rfl, h1, d1, s1⟩; have D1 := hid d1; have S1 := hid s1; clear d1 s1))
        go_ret
        exact ⟨rfl, _, D1.out, S1.out⟩
    · have HE := hid (show wrE S i l.length = 1 by simp [wrE, hbb, hl])
      have HS := hid (show wrS S i l = S by simp [wrS, hl])
      rw [HE.out, HS.out]
      have hl3 : ((l.length : Int) != 128) = true := by rw [bne_iff_ne]; omega
      clear d hbb HE HS hne hl
      generalize l.length = n at *
      go_enter Try.func9, Try.ntmps9
      go_wp2_with (go_at_call 32; refine HT.out.mono ?_; rintro e w2 ⟨rfl, rfl⟩)
      go_ret
      exact ⟨rfl, _, HD.out, Step.refl _ _⟩
end
end Go.Proofs.Ytpbmkokjjcdhfaa
