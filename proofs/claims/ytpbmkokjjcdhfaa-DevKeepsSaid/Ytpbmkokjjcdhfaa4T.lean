/- DevErases: the states it goes through. -/
import Derived.Test.Ytpbmkokjjcdhfaa4S
namespace Go.Proofs.Ytpbmkokjjcdhfaa
set_option linter.unusedSimpArgs false
set_option linter.unusedVariables false
open Go.RowKit

/-- a device of the law's: power on, mounted, no faults, no budget -/
structure Nice (n : Nat) (S : DS) : Prop where
  n : S.n = n
  bud : S.bud = -1
  pow : S.pow = true
  mnt : S.mnt = true
  flt : S.flt = fun _ => none
theorem nice_new (n : Nat) : Nice n (newS n) := ⟨rfl, rfl, rfl, rfl, rfl⟩
section
variable {n : Nat} {S : DS}
theorem Nice.spendP (h : Nice n S) : spendP S = true := by
  unfold Go.Proofs.Ytpbmkokjjcdhfaa.spendP; rw [h.pow, h.bud]; decide
theorem Nice.spendE (h : Nice n S) : spendE S = 0 := by
  unfold Go.Proofs.Ytpbmkokjjcdhfaa.spendE; rw [h.spendP, h.mnt]; rfl
theorem Nice.spendS (h : Nice n S) : spendS S = S := by
  unfold Go.Proofs.Ytpbmkokjjcdhfaa.spendS; rw [h.spendP, h.bud, if_neg (by omega), ← h.pow, ← h.bud]
theorem Nice.wr (h : Nice n S) (i : Int) (l : List UInt8) : Nice n (wrS S i l) ∧ (wrS S i l).pend.length ≤ S.pend.length + 1 := by
  unfold wrS
  rw [h.spendS]
  split
  · exact ⟨h, Nat.le_succ _⟩
  · split
    · exact ⟨⟨h.n, h.bud, h.pow, h.mnt, h.flt⟩, by simp⟩
    · exact ⟨h, Nat.le_succ _⟩
theorem Nice.fl_eq (h : Nice n S) : flS S = { S with blk := exB S.blk S.pend (fun _ => 128) S.pend.length, pend := [] } := by
  rw [flS, if_pos h.spendE, h.spendS]
theorem Nice.fl (h : Nice n S) : Nice n (flS S) ∧ (flS S).pend.length ≤ S.pend.length := by
  rw [h.fl_eq]
  exact ⟨⟨h.n, h.bud, h.pow, h.mnt, h.flt⟩, by simp⟩
end
def est (F : Nat → Ac) : Nat → DS
  | 0 => newS 4
  | k + 1 => if (F k).dd = 2 then flS (est F k) else wrS (est F k) (F k).ii (rep (F k).cc)
theorem est_nice (F : Nat → Ac) : ∀ k, Nice 4 (est F k) ∧ (est F k).pend.length ≤ k
  | 0 => ⟨nice_new 4, Nat.le_refl _⟩
  | k + 1 => by
    obtain ⟨h1, h2⟩ := est_nice F k
    rw [est]
    split
    · have := h1.fl; exact ⟨this.1, by have := this.2; omega⟩
    · have := h1.wr (F k).ii (rep (F k).cc); exact ⟨this.1, by have := this.2; omega⟩
section
variable {n : Nat} {S : DS}
def zS (S : DS) : DS := { S with blk := zB, pend := [] }
theorem Nice.era (h : Nice n S) : eraS S = zS S := by rw [eraS, if_pos h.spendE, h.spendS]; rfl
theorem zS_cr (S : DS) (L : List Int) : crS (zS S) L = { zS S with pow := false } := by rfl
theorem zS_on (h : Nice n S) : ({ ({ zS S with pow := false } : DS) with pow := true, bud := -1, pend := [] } : DS) = zS S := by
  have h1 := h.pow; have h2 := h.bud
  obtain ⟨a, b, c, d, e, f, g, m⟩ := S
  subst h1; subst h2; rfl
theorem zS_rdE (h : Nice n S) (i : Nat) (hi : i < n) : rdE (zS S) (i : Int) = 0 := by
  have hb : isB S.n (i : Int) = true := by rw [isB, h.n]; simp; omega
  unfold rdE
  rw [show (zS S).n = S.n from rfl, hb, show (zS S).pow = true from h.pow, show (zS S).mnt = true from h.mnt, show (zS S).flt = fun _ => none from h.flt]
  rfl
theorem zS_rdL (h : Nice n S) (i : Nat) (hi : i < n) : rdL (zS S) (i : Int) = rep 0 := by
  rw [rdL, if_pos (zS_rdE h i hi)]; rfl
end
end Go.Proofs.Ytpbmkokjjcdhfaa
