/- DevReads: what the law keeps of the device, act by act. -/
import Derived.Test.Ytpbmkokjjcdhfaa4U
namespace Go.Proofs.Ytpbmkokjjcdhfaa
set_option linter.unusedSimpArgs false
set_option linter.unusedVariables false
open Go.RowKit

theorem exB_all (n : Nat) (blk : Nat → List UInt8) (pend : List (Nat × List UInt8)) (hb : ∀ i, i < n → (blk i).length = 128) (hp : ∀ p ∈ pend, p.1 < n ∧ p.2.length = 128) :
    ∀ k, k ≤ pend.length → ∀ q, exB blk pend (fun _ => 128) k q = rdF blk (pend.take k) q := by
  intro k
  induction k with
  | zero => intro _ q; rfl
  | succ k ih =>
    intro hk q
    have h2 := hp _ (List.getElem_mem (show k < pend.length by omega))
    have h3 := exB_len n blk pend (fun _ => 128) hb hp k _ h2.1
    rw [exB_succ _ _ _ _ (by omega), upd, List.take_add_one, List.getElem?_eq_getElem (by omega)]
    have e : cl 128 = 128 := by decide
    rw [e, List.take_of_length_le (by omega), List.drop_of_length_le (by omega), List.append_nil]
    show _ = (List.take k pend ++ [pend[k]]).foldl _ _
    rw [List.foldl_append]
    show _ = if (pend[k]).1 = q then (pend[k]).2 else rdF blk (pend.take k) q
    by_cases eq : q = (pend[k]).1
    · rw [if_pos eq, if_pos eq.symm]
    · rw [if_neg eq, if_neg (fun h => eq h.symm), ih (by omega)]
structure RInv (k : Nat) (q : Nat) (S : DS) (want : UInt8) (fault : Int) (away : Bool) : Prop where
  n : S.n = 4
  bud : S.bud = -1
  pow : S.pow = true
  mnt : S.mnt = !away
  flt : (S.flt (q : Int)).getD 0 = fault
  f0 : 0 ≤ fault ∧ fault ≤ 3
  rd : rdF S.blk S.pend q = rep want
  bl : ∀ i, i < 4 → (S.blk i).length = 128
  pe : ∀ p ∈ S.pend, p.1 < 4 ∧ p.2.length = 128
  fn : S.fn ≤ k
  pd : S.pend.length ≤ k
theorem rinv_new (q : Nat) : RInv 0 q (newS 4) 0 0 false :=
  ⟨rfl, rfl, rfl, rfl, rfl, by omega, rfl, fun i _ => List.length_replicate, fun p hp => (by cases hp), Nat.le_refl _, Nat.le_refl _⟩
section
variable {k q : Nat} {S : DS} {want : UInt8} {fault : Int} {away : Bool}
theorem RInv.spP (h : RInv k q S want fault away) : spendP S = true := by
  unfold spendP; rw [h.pow, h.bud]; decide
theorem RInv.spS (h : RInv k q S want fault away) : spendS S = S := by
  unfold spendS; rw [h.spP, h.bud, if_neg (by omega), ← h.pow, ← h.bud]
theorem RInv.spE (h : RInv k q S want fault away) : spendE S = if away then 9 else 0 := by
  unfold spendE; rw [h.spP, h.mnt]; cases away <;> rfl
theorem RInv.mount (h : RInv k q S want fault away) (b : Bool) : RInv (k + 1) q { S with mnt := !b } want fault b :=
  ⟨h.n, h.bud, h.pow, rfl, h.flt, h.f0, h.rd, h.bl, h.pe, Nat.le_succ_of_le h.fn, Nat.le_succ_of_le h.pd⟩
theorem RInv.flush (h : RInv k q S want fault away) (hq : q < 4) : RInv (k + 1) q (flS S) want fault away := by
  have hw := h.pe
  rw [flS, h.spS]
  split
  · refine ⟨h.n, h.bud, h.pow, h.mnt, h.flt, h.f0, ?_, fun i hi => exB_len 4 _ _ _ h.bl h.pe _ i hi, fun p hp => (by cases hp), Nat.le_succ_of_le h.fn, Nat.zero_le _⟩
    have := exB_all 4 S.blk S.pend h.bl h.pe S.pend.length (Nat.le_refl _) q
    rw [List.take_length] at this
    show exB S.blk S.pend (fun _ => 128) S.pend.length q = _
    rw [this]; exact h.rd
  · exact ⟨h.n, h.bud, h.pow, h.mnt, h.flt, h.f0, h.rd, h.bl, h.pe, Nat.le_succ_of_le h.fn, Nat.le_succ_of_le h.pd⟩
theorem RInv.up (h : RInv k q S want fault away) : RInv (k + 1) q S want fault away :=
  ⟨h.n, h.bud, h.pow, h.mnt, h.flt, h.f0, h.rd, h.bl, h.pe, Nat.le_succ_of_le h.fn, Nat.le_succ_of_le h.pd⟩
theorem isB_cast {n : Nat} {i : Int} (h : isB n i = true) : ∃ m : Nat, i = (m : Int) ∧ m < n := by
  unfold isB at h
  simp only [Bool.and_eq_true, decide_eq_true_eq] at h
  exact ⟨i.toNat, by omega, by omega⟩
theorem RInv.wr0 (h : RInv k q S want fault away) (i : Int) (c : UInt8) (h0 : wrE S i (rep c).length = 0) : away = false ∧ (i = (q : Int) → ¬ 1 < fault) ∧ ∃ m : Nat, i = (m : Int) ∧ m < 4 := by
  have hb : isB S.n i = true := by
    rcases hh : isB S.n i with _ | _
    · rw [wrE, if_pos hh] at h0; cases h0
    · rfl
  rw [wrE, if_neg (by rw [hb]; simp), if_neg (by rw [rep_len]; omega), h.spE] at h0
  rw [h.n] at hb
  refine ⟨?_, ?_, isB_cast hb⟩
  · rcases away with _ | _
    · rfl
    · simp at h0
  · intro hi hf
    subst hi
    rw [h.flt, if_pos hf] at h0
    revert h0
    split <;> simp
theorem RInv.write (h : RInv k q S want fault away) (i : Int) (c : UInt8) : RInv (k + 1) q (wrS S i (rep c)) (if wrE S i (rep c).length = 0 ∧ i = (q : Int) then c else want) fault away := by
  by_cases h0 : wrE S i (rep c).length = 0
  · obtain ⟨-, -, m, rfl, hm⟩ := h.wr0 i c h0
    have hb : isB S.n (m : Int) = true := by rw [h.n, isB]; simp; omega
    rw [wrS, if_neg (by rw [hb, rep_len]; simp), if_pos h0, h.spS]
    refine ⟨h.n, h.bud, h.pow, h.mnt, h.flt, h.f0, ?_, h.bl, ?_, Nat.le_succ_of_le h.fn, ?_⟩
    · show (S.pend ++ [((m : Int).toNat, rep c)]).foldl _ _ = _
      rw [List.foldl_append]
      show (if (m : Int).toNat = q then rep c else rdF S.blk S.pend q) = _
      by_cases e : m = q
      · subst e
        rw [if_pos (by omega), if_pos ⟨h0, rfl⟩]
      · rw [if_neg (by omega), if_neg (by omega)]; exact h.rd
    · intro p hp
      rcases List.mem_append.1 hp with hp | hp
      · exact h.pe p hp
      · rw [List.mem_singleton.1 hp]; exact ⟨by omega, rep_len c⟩
    · have := h.pd; simp; exact this
  · rw [if_neg (fun e => h0 e.1), wrS]
    split
    · exact h.up
    · rw [h.spS]; exact h.up
theorem RInv.fault_at (h : RInv k q S want fault away) (i kk : Int) : RInv (k + 1) q (if fltE S i kk = 0 then fltS S i kk else S) want (if fltE S i kk = 0 ∧ i = (q : Int) then kk else fault) away := by
  by_cases h0 : fltE S i kk = 0
  · have hk : 0 ≤ kk ∧ kk ≤ 3 := by
      unfold fltE at h0
      split at h0
      · cases h0
      · split at h0
        · cases h0
        · omega
    rw [if_pos h0]
    by_cases e : i = (q : Int)
    · have e2 : (if fltE S i kk = 0 ∧ i = (q : Int) then kk else fault) = kk := if_pos ⟨h0, e⟩
      rw [e2]
      subst e
      unfold fltS
      split
      · rename_i hz
        exact ⟨h.n, h.bud, h.pow, h.mnt, by simp [hz], hk, h.rd, h.bl, h.pe, Nat.le_succ_of_le h.fn, Nat.le_succ_of_le h.pd⟩
      · exact ⟨h.n, h.bud, h.pow, h.mnt, by simp, hk, h.rd, h.bl, h.pe, Nat.succ_le_succ h.fn, Nat.le_succ_of_le h.pd⟩
    · have e2 : (if fltE S i kk = 0 ∧ i = (q : Int) then kk else fault) = fault := if_neg (fun x => e x.2)
      rw [e2]
      have e' : ¬ (q : Int) = i := fun x => e x.symm
      unfold fltS
      split
      · exact ⟨h.n, h.bud, h.pow, h.mnt, by simp [e']; exact h.flt, h.f0, h.rd, h.bl, h.pe, Nat.le_succ_of_le h.fn, Nat.le_succ_of_le h.pd⟩
      · exact ⟨h.n, h.bud, h.pow, h.mnt, by simp [e']; exact h.flt, h.f0, h.rd, h.bl, h.pe, Nat.succ_le_succ h.fn, Nat.le_succ_of_le h.pd⟩
  · rw [if_neg h0, if_neg (fun x => h0 x.1)]; exact h.up
theorem RInv.rdE (h : RInv k q S want fault away) (hq : q < 4) : rdE S (q : Int) = if away = true ∨ fault % 2 = 1 then 9 else 0 := by
  have hb : isB S.n (q : Int) = true := by rw [h.n, isB]; simp; omega
  unfold Go.Proofs.Ytpbmkokjjcdhfaa.rdE
  rw [if_neg (by rw [hb]; simp), if_neg (by rw [h.pow]; simp), h.mnt, h.flt]
  rcases away with _ | _ <;> simp
theorem RInv.rdL (h : RInv k q S want fault away) (hq : q < 4) : rdL S (q : Int) = if away = true ∨ fault % 2 = 1 then [] else rep want := by
  rw [Go.Proofs.Ytpbmkokjjcdhfaa.rdL, h.rdE hq]
  split
  · rw [if_neg (by omega)]
  · rw [if_pos rfl, Int.toNat_natCast]; exact h.rd
end
end Go.Proofs.Ytpbmkokjjcdhfaa
