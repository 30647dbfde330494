/- DevKeeps: the states it goes through; what a crash leaves. -/
import Derived.Test.Ytpbmkokjjcdhfaa4U
namespace Go.Proofs.Ytpbmkokjjcdhfaa
set_option linter.unusedSimpArgs false
set_option linter.unusedVariables false
open Go.RowKit

/-- writes from a state on -/
def kst (S0 : DS) (F : Nat → Ac) : Nat → DS
  | 0 => S0
  | k + 1 => wrS (kst S0 F k) (F k).ii (rep (F k).cc)
structure KInv (S0 S : DS) (F : Nat → Ac) (k : Nat) : Prop where
  nice : Nice 4 S
  pl : S.pend.length ≤ k
  blk : S.blk = S0.blk
  src : ∀ p ∈ S.pend, ∃ j, j < k ∧ (F j).ii = (p.1 : Int) ∧ p.2 = rep (F j).cc
theorem kst_inv (S0 : DS) (F : Nat → Ac) (h : Nice 4 S0) (hp : S0.pend = []) : ∀ k, KInv S0 (kst S0 F k) F k
  | 0 => ⟨h, by show S0.pend.length ≤ 0; rw [hp]; exact Nat.le_refl _, rfl, fun p hm => by
      have : p ∈ S0.pend := hm
      rw [hp] at this; cases this⟩
  | k + 1 => by
    obtain ⟨h1, h2, h3, h4⟩ := kst_inv S0 F h hp k
    have hn := h1.wr (F k).ii (rep (F k).cc)
    have e : kst S0 F (k + 1) = wrS (kst S0 F k) (F k).ii (rep (F k).cc) := rfl
    rw [e]
    refine ⟨hn.1, by omega, ?_, ?_⟩
    · rw [wrS, h1.spendS]
      split
      · exact h3
      · split <;> exact h3
    · rw [wrS, h1.spendS]
      intro p hm
      have old : p ∈ (kst S0 F k).pend → ∃ j, j < k + 1 ∧ (F j).ii = (p.1 : Int) ∧ p.2 = rep (F j).cc := fun hm => by
        obtain ⟨j, a, b⟩ := h4 p hm
        exact ⟨j, by omega, b⟩
      split at hm
      · exact old hm
      · rename_i hg
        split at hm
        · rcases List.mem_append.1 hm with hm | hm
          · exact old hm
          · obtain rfl := List.mem_singleton.1 hm
            have hi : isB (kst S0 F k).n (F k).ii = true := by
              cases hb : isB (kst S0 F k).n (F k).ii with
              | true => rfl
              | false => exact absurd (Or.inl hb) hg
            unfold isB at hi
            simp only [Bool.and_eq_true, decide_eq_true_eq] at hi
            exact ⟨k, by omega, by show _ = (((F k).ii.toNat : Nat) : Int); omega, rfl⟩
        · exact old hm
/-- an octet behind a crash -/
theorem exB_oct (n : Nat) (blk : Nat → List UInt8) (pend : List (Nat × List UInt8)) (G : Nat → Int) (hb : ∀ i, i < n → (blk i).length = 128) (hp : ∀ p ∈ pend, p.1 < n ∧ p.2.length = 128) :
    ∀ k, ∀ i, i < n → ∀ o, o < 128 → (exB blk pend G k i).getD o 0 = (blk i).getD o 0 ∨ ∃ p ∈ pend, p.1 = i ∧ (exB blk pend G k i).getD o 0 = p.2.getD o 0 := by
  intro k
  induction k with
  | zero => intro i _ o _; exact .inl rfl
  | succ k ih =>
    intro i hi o ho
    rcases Nat.lt_or_ge k pend.length with hk | hk
    · have hm := List.getElem_mem hk
      have h2 := hp _ hm
      have h3 := cl_le (G k)
      rw [exB_succ _ _ _ _ hk, upd]
      by_cases e : i = (pend[k]).1
      · rw [if_pos e]
        by_cases ho2 : o < cl (G k)
        · refine .inr ⟨_, hm, e.symm, ?_⟩
          rw [List.getD_eq_getElem?_getD, List.getElem?_append_left (by rw [List.length_take]; omega), List.getElem?_take, if_pos ho2, ← List.getD_eq_getElem?_getD]
        · have e2 : ((pend[k]).2.take (cl (G k)) ++ (exB blk pend G k (pend[k]).1).drop (cl (G k))).getD o 0 = (exB blk pend G k i).getD o 0 := by
            rw [List.getD_eq_getElem?_getD, List.getElem?_append_right (by rw [List.length_take]; omega), List.length_take, List.getElem?_drop, ← e, show cl (G k) + (o - min (cl (G k)) (pend[k]).2.length) = o by omega, ← List.getD_eq_getElem?_getD]
          rw [e2]
          exact ih i hi o ho
      · rw [if_neg e]
        exact ih i hi o ho
    · rw [exB, List.getElem?_eq_none hk]; exact ih i hi o ho
theorem exB_none (blk : Nat → List UInt8) (pend : List (Nat × List UInt8)) : ∀ k i, exB blk pend (fun k => ([] : List Int).getD k 0) k i = blk i := by
  intro k
  induction k with
  | zero => intro i; rfl
  | succ k ih =>
    intro i
    rcases Nat.lt_or_ge k pend.length with hk | hk
    · rw [exB_succ _ _ _ _ hk, upd]
      have e0 : cl (([] : List Int).getD k 0) = 0 := by rw [List.getD_nil]; decide
      rw [e0, List.take_zero, List.drop_zero, List.nil_append]
      split
      · rename_i e; rw [e]; exact ih _
      · exact ih i
    · rw [exB, List.getElem?_eq_none hk]; exact ih i
/-- behind the crash, the power on again -/
def offS (S : DS) (L : List Int) : DS := crS S L
def onS (S : DS) (L : List Int) : DS := { offS S L with pow := true, bud := -1, pend := [] }
theorem onS_nice {S : DS} {L : List Int} (h : Nice 4 S) : Nice 4 (onS S L) := ⟨h.n, rfl, rfl, h.mnt, h.flt⟩
theorem Nice.rdE {n : Nat} {S : DS} (h : Nice n S) (i : Nat) (hi : i < n) : rdE S (i : Int) = 0 := by
  have hb : isB S.n (i : Int) = true := by rw [isB, h.n]; simp; omega
  unfold Go.Proofs.Ytpbmkokjjcdhfaa.rdE
  rw [hb, h.pow, h.mnt, h.flt]; rfl
theorem Nice.rdL {n : Nat} {S : DS} (h : Nice n S) (hp : S.pend = []) (i : Nat) (hi : i < n) : rdL S (i : Int) = S.blk i := by
  rw [Go.Proofs.Ytpbmkokjjcdhfaa.rdL, if_pos (h.rdE i hi), hp]; rfl
/-- is an octet as the law says, as far as the first j acts tell? -/
def okF (x y : Int) (i : Nat) (F : Nat → Ac) : Nat → Bool
  | 0 => x == y
  | j + 1 => okF x y i F j || (decide ((F j).ii = (i : Int)) && (x == ((F j).cc.toNat : Int)))
theorem okF_mono {x y : Int} {i : Nat} {F : Nat → Ac} {j : Nat} (m : Nat) (hm : j ≤ m) (h : okF x y i F j = true) : okF x y i F m = true := by
  obtain ⟨d, rfl⟩ : ∃ d, m = j + d := ⟨m - j, by omega⟩
  clear hm
  induction d with
  | zero => exact h
  | succ d ih => show (okF x y i F (j + d) || _) = true; rw [ih]; rfl
theorem okF_end {S0 S : DS} {F : Nat → Ac} {m : Nat} (I : KInv S0 S F m) (L : List Int) (hb : ∀ i, i < 4 → (S0.blk i).length = 128) (hp : ∀ p ∈ S.pend, p.1 < 4 ∧ p.2.length = 128) (i : Nat) (hi : i < 4) (o : Nat) (ho : o < 128) :
    okF ((((onS S L).blk i).getD o 0).toNat : Int) (((S0.blk i).getD o 0).toNat : Int) i F m = true := by
  have h := exB_oct 4 S.blk S.pend (fun k => L.getD k 0) (by rw [I.blk]; exact hb) hp S.pend.length i hi o ho
  rw [I.blk] at h
  have e : (onS S L).blk i = exB S0.blk S.pend (fun k => L.getD k 0) S.pend.length i := by rw [← I.blk]; rfl
  rw [e]
  rcases h with h | ⟨p, hm, h1, h2⟩
  · rw [h]
    exact okF_mono m (Nat.zero_le _) (by simp [okF])
  · rw [h2]
    obtain ⟨j, h3, h4, h5⟩ := I.src p hm
    refine okF_mono m (show j + 1 ≤ m from h3) ?_
    have h6 : p.2.getD o 0 = (F j).cc := by
      rw [h5, rep, List.getD_eq_getElem?_getD, List.getElem?_replicate, if_pos ho]; rfl
    rw [okF, h6, h4, h1]; simp
end Go.Proofs.Ytpbmkokjjcdhfaa
