/- What is open, in order; the least that is not; what an opening does to the counts: plain. -/
import Derived.Test.Ythbnkoaigeffnaa20L3
namespace Go.Proofs.Ythbnkoaigeffnaa
set_option linter.unusedSimpArgs false
set_option linter.unusedVariables false
open Go.RowKit

theorem ups_mem (S : Tb) (n : Nat) (x : Int) : x ∈ upsTo S n ↔ ∃ j : Nat, j < n ∧ (S j).up = true ∧ x = (j : Int) := by
  simp only [upsTo, List.mem_map, List.mem_filter, List.mem_range]
  constructor
  · rintro ⟨j, ⟨h1, h2⟩, rfl⟩
    exact ⟨j, h1, h2, rfl⟩
  · rintro ⟨j, h1, h2, rfl⟩
    exact ⟨j, ⟨h1, h2⟩, rfl⟩
theorem ups_pre (S : Tb) (k : Nat) (h : ∀ j, j < k → (S j).up = true) : upsTo S k = (List.range k).map Int.ofNat := by
  unfold upsTo
  congr 1
  exact List.filter_eq_self.2 fun j hj => h j (List.mem_range.1 hj)
theorem ups_ext (S : Tb) (k n : Nat) (h : k ≤ n) : ∃ R, upsTo S n = upsTo S k ++ R ∧ ∀ x ∈ R, ∃ j : Nat, k ≤ j ∧ j < n ∧ (S j).up = true ∧ x = (j : Int) := by
  induction n with
  | zero => obtain rfl : k = 0 := by omega
            exact ⟨[], by simp, by simp⟩
  | succ n ih =>
    rcases Nat.lt_or_ge n k with hlt | hge
    · obtain rfl : k = n + 1 := by omega
      exact ⟨[], by simp, by simp⟩
    · obtain ⟨R, hR, hx⟩ := ih hge
      cases hu : (S n).up with
      | true =>
        refine ⟨R ++ [(n : Int)], by rw [ups_t _ _ hu, hR, List.append_assoc], fun x hm => ?_⟩
        rcases List.mem_append.1 hm with hm | hm
        · obtain ⟨j, h1, h2, h3, h4⟩ := hx x hm
          exact ⟨j, h1, by omega, h3, h4⟩
        · obtain rfl := List.mem_singleton.1 hm
          exact ⟨n, hge, by omega, hu, rfl⟩
      | false =>
        refine ⟨R, by rw [ups_f _ _ hu, hR], fun x hm => ?_⟩
        obtain ⟨j, h1, h2, h3, h4⟩ := hx x hm
        exact ⟨j, h1, by omega, h3, h4⟩
/-- the first ones are 0, 1, .. up to the least that is not open; what stands there then is another one -/
theorem ups_lst (S : Tb) : lst S ≤ (upsTo S 8).length ∧ (∀ k, k < lst S → (upsTo S 8).getD k 0 = (k : Int)) ∧ (lst S < (upsTo S 8).length → (upsTo S 8).getD (lst S) 0 ≠ (lst S : Int)) := by
  have hle : lst S ≤ 8 := by rcases lst_spec S with ⟨h1, -⟩ | ⟨h1, -⟩ <;> omega
  have hall : ∀ j, j < lst S → (S j).up = true := by
    rcases lst_spec S with ⟨h1, h2, h3⟩ | ⟨h1, h2⟩
    · exact h3
    · rw [h1]; exact h2
  obtain ⟨R, hR, hx⟩ := ups_ext S (lst S) 8 hle
  rw [ups_pre S (lst S) hall] at hR
  have hl : ((List.range (lst S)).map Int.ofNat).length = lst S := by simp
  refine ⟨by rw [hR]; simp, fun k hk => ?_, fun hlt => ?_⟩
  · rw [hR, List.getD_eq_getElem?_getD, List.getElem?_append_left (by omega)]
    simp [hk]
  · rw [hR, List.getD_eq_getElem?_getD, List.getElem?_append_right (by omega), hl, Nat.sub_self]
    rw [hR, List.length_append, hl] at hlt
    rw [List.getElem?_eq_getElem (by omega)]
    obtain ⟨j, h1, h2, h3, h4⟩ := hx _ (List.getElem_mem (by omega : 0 < R.length))
    simp only [Option.getD_some]
    rw [h4]
    intro he
    have hj : j = lst S := by omega
    rcases lst_spec S with ⟨g1, g2, g3⟩ | ⟨g1, g2⟩
    · rw [hj, g2] at h3; cases h3
    · omega
theorem ups_at (S : Tb) (k : Nat) (hk : k < (upsTo S 8).length) : ∃ j : Nat, j < 8 ∧ (S j).up = true ∧ (upsTo S 8).getD k 0 = (j : Int) := by
  have hm : (upsTo S 8).getD k 0 ∈ upsTo S 8 := by rw [List.getD_eq_getElem?_getD, List.getElem?_eq_getElem hk]; exact List.getElem_mem _
  obtain ⟨j, h1, h2, h3⟩ := (ups_mem S 8 _).1 hm
  exact ⟨j, h1, h2, h3⟩
theorem cnt_upd_out (S : Tb) (q : Nat) (s : Sl) (i : Int) (k : Nat) (hk : k ≤ q) : cntTo (upd S q s) i k = cntTo S i k := by
  unfold cntTo
  congr 1
  exact List.filter_congr fun j hj => by
    have := List.mem_range.1 hj
    unfold upd; rw [if_neg (by omega)]
theorem cnt_upd_new (S : Tb) (q : Nat) (i m p : Int) (k : Nat) (hk : q < k) (hu : (S q).up = false) : cntTo (upd S q (.file i m p)) i k = cntTo S i k + 1 := by
  induction k with
  | zero => omega
  | succ k ih =>
    by_cases hq : q = k
    · subst hq
      have e : upd S q (.file i m p) q = .file i m p := by unfold upd; rw [if_pos rfl]
      rw [cnt_t _ _ _ (by rw [e]; rfl) (by rw [e]; rfl), cnt_f S i q (.inl hu), cnt_upd_out _ _ _ _ _ (Nat.le_refl _)]
    · have ih := ih (by omega)
      have e : upd S q (.file i m p) k = S k := by unfold upd; rw [if_neg (by omega)]
      by_cases hc : (S k).up = true ∧ (S k).ino = i
      · rw [cnt_t _ _ _ (by rw [e]; exact hc.1) (by rw [e]; exact hc.2), cnt_t _ _ _ hc.1 hc.2, ih]
      · have hc' : (S k).up = false ∨ (S k).ino ≠ i := by
          cases h1 : (S k).up with
          | false => exact .inl rfl
          | true => exact .inr fun h2 => hc ⟨h1, h2⟩
        rw [cnt_f _ _ _ (by rw [e]; exact hc'), cnt_f _ _ _ hc', ih]
/-- the cells of what was told of descriptors -/
def cells3 (S : Tb) (x : Int) : List Value := [.int .i64 (S x.toNat).ino, .int .i64 (S x.toNat).mode, .int .i64 (S x.toNat).pos]
def told3 (S : Tb) (L : List Int) : List Value := L.flatMap (cells3 S)
theorem told3_snoc (S : Tb) (L : List Int) (x : Int) : told3 S (L ++ [x]) = told3 S L ++ cells3 S x := by simp [told3]
theorem told3_at (S : Tb) (L : List Int) (k r : Nat) (hk : k < L.length) (hr : r < 3) : (told3 S L)[k * 3 + r]? = (cells3 S (L.getD k 0))[r]? := by
  induction L generalizing k with
  | nil => simp at hk
  | cons x L ih =>
    have h1 : told3 S (x :: L) = cells3 S x ++ told3 S L := by simp [told3]
    have h2 : (cells3 S x).length = 3 := rfl
    rw [h1]
    cases k with
    | zero => rw [List.getElem?_append_left (by omega)]; simp
    | succ k =>
      rw [List.getElem?_append_right (by omega), h2, show (k + 1) * 3 + r - 3 = k * 3 + r by omega, ih k (by simpa using hk)]
      simp
/-- a slice of numbers that is read is none of the table's cells -/
theorem But.ints {w w1 : World} {a : Nat} {S : Tb} {v : Value} {L : List Int} (hk : But a w w1) (hT : TabP w a S) (h : Ints w v L) : Ints w1 v L := by
  obtain ⟨A, c, hv, hc, hm, hz, hr⟩ := h
  refine ⟨A, c, hv, hc, hm, hz, fun hl => ?_⟩
  obtain ⟨b, o, hA, hcell⟩ := hr hl
  refine ⟨b, o, hA, fun i hi => hk.keeps (hcell i hi) ?_⟩
  rintro rfl
  have hci := hcell i hi
  obtain ⟨cs, t, hg, hs, hcs⟩ := hT
  simp only [World.cell?, hg] at hci
  simp at hci
  have hlt : o + i < cs.size := (Array.getElem?_eq_some_iff.1 hci).1
  rw [hcs (o + i) (by omega)] at hci
  simp only [] at hci
  cases hx : S (o + i) <;> simp [hx, Sl.val] at hci
theorem But.row {w w1 : World} {a base : Nat} {e : TypeId} {size : Nat} {v : Value} {n : Nat} {xs : List Value} (hk : But a w w1) (h : w.ownsRow base e size v n xs) (ha : a < base) : w1.ownsRow base e size v n xs :=
  World.ownsRow.kept h hk (.inr fun e => by have := (h.lt a e).1; omega)
end Go.Proofs.Ythbnkoaigeffnaa
