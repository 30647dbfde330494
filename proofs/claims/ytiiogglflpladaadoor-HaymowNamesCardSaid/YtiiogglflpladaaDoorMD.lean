/- HaymowNames: title.visit, whatever is called for each rune. -/
import Derived.Test.YtiiogglflpladaaDoorMC
import Derived.WalkKit
import Derived.BigCall
import Derived.BigQuiet
namespace Go.Proofs.YtiiogglflpladaaDoor
set_option linter.unusedSimpArgs false
set_option linter.unusedVariables false
open Go.RowKit

theorem dec_runeLen (n b0 b1 b2 b3 : Nat) (h : Lib.decodeN n b0 b1 b2 b3 ≠ (65533, 1)) : Lib.runeLen ((Lib.decodeN n b0 b1 b2 b3).1 : Int) = ((Lib.decodeN n b0 b1 b2 b3).2 : Int) := by
  unfold Lib.decodeN at h ⊢
  repeat' split at h
  all_goals first
    | exact absurd rfl h
    | (simp only [*, if_true, if_false, Lib.runeLen, and_self, not_true_eq_false]
       repeat' split
       all_goals first | rfl | omega)
theorem dec_pos (l : List UInt8) (h : l ≠ []) : 1 ≤ (dec l).2 := (dec_width l h).1
theorem dec_max (l : List UInt8) : (dec l).1 ≤ 1114111 := by
  unfold dec Lib.decodeN
  have := (l.getD 0 0).toNat_lt; have := (l.getD 1 0).toNat_lt; have := (l.getD 2 0).toNat_lt; have := (l.getD 3 0).toNat_lt
  repeat' split
  all_goals (dsimp only; omega)
theorem getD_cons_of {l : List UInt8} {i : Nat} (h : i < l.length) : l[i]? = some (l.getD i 0) := by
  rw [List.getD_eq_getElem?_getD, List.getElem?_eq_getElem h]; rfl
theorem hp_iff (l : List UInt8) : Lib.hasPrefix l [239, 191, 189] = true ↔ 3 ≤ l.length ∧ l.getD 0 0 = 239 ∧ l.getD 1 0 = 191 ∧ l.getD 2 0 = 189 := by
  unfold Lib.hasPrefix
  match l with
  | [] => simp
  | [a] => simp
  | [a, b] => simp
  | a :: b :: c :: r =>
    simp [List.isPrefixOf]
    constructor
    · rintro ⟨h1, h2, h3⟩; exact ⟨h1.symm, h2.symm, h3.symm⟩
    · rintro ⟨h1, h2, h3⟩; exact ⟨h1.symm, h2.symm, h3.symm⟩
/-- a stray is what is told apart by the prefix -/
theorem stray_iff (l : List UInt8) (h : l ≠ []) : Stray l ↔ (dec l).1 = 65533 ∧ Lib.hasPrefix l [239, 191, 189] = false := by
  have hl : 1 ≤ l.length := by cases l with | nil => exact absurd rfl h | cons _ _ => simp
  have u0 := (l.getD 0 0).toNat_lt; have u1 := (l.getD 1 0).toNat_lt; have u2 := (l.getD 2 0).toNat_lt; have u3 := (l.getD 3 0).toNat_lt
  have key : Lib.hasPrefix l [239, 191, 189] = true ↔ 3 ≤ l.length ∧ (l.getD 0 0).toNat = 239 ∧ (l.getD 1 0).toNat = 191 ∧ (l.getD 2 0).toNat = 189 := by
    rw [hp_iff]
    simp only [← UInt8.toNat_inj]
    rfl
  have kf : Lib.hasPrefix l [239, 191, 189] = false ↔ ¬ (3 ≤ l.length ∧ (l.getD 0 0).toNat = 239 ∧ (l.getD 1 0).toNat = 191 ∧ (l.getD 2 0).toNat = 189) := by
    rw [← key]; simp
  rw [kf]
  unfold Stray dec
  generalize (l.getD 0 0).toNat = b0 at *
  generalize (l.getD 1 0).toNat = b1 at *
  generalize (l.getD 2 0).toNat = b2 at *
  generalize (l.getD 3 0).toNat = b3 at *
  generalize l.length = n at *
  clear key kf
  constructor
  · intro e
    refine ⟨by rw [e], fun ⟨h3, e0, e1, e2⟩ => ?_⟩
    subst e0 e1 e2
    revert e
    unfold Lib.decodeN
    rw [if_neg (by omega), if_neg (by omega), if_pos (by omega), if_pos (by omega)]
    intro e
    have := congrArg Prod.snd e
    dsimp only at this
    omega
  · rintro ⟨e, hn⟩
    have k : ∀ q, Lib.decodeN n b0 b1 b2 b3 = q → q.1 = 65533 → q = (65533, 1) ∨ (3 ≤ n ∧ b0 = 239 ∧ b1 = 191 ∧ b2 = 189) := by
      unfold Lib.decodeN
      intro q hq he
      repeat' split at hq
      all_goals (subst hq; first | (left; rfl) | (right; dsimp only at he; omega) | (exfalso; dsimp only at he; omega))
    exact (k _ rfl e).resolve_right hn
end Go.Proofs.YtiiogglflpladaaDoor
