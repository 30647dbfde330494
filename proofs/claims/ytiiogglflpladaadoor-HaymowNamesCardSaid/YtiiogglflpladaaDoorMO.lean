/- HaymowNames, plain law 3: the file behind each step; the list behind all steps. -/
import Derived.Test.YtiiogglflpladaaDoorMN
import Derived.Test.YtiiogglflpladaaDoor19R
namespace Go.Proofs.YtiiogglflpladaaDoor
set_option linter.unusedSimpArgs false
set_option linter.unusedVariables false

/-- the file holds just these octets, and just their blocks -/
structure Holds (f : Fl) (B : List UInt8) : Prop where
  v : Valid f
  s : f.size = B.length
  r : rdB f.L 0 B.length = B
  n : (f.L.length : Int) = needI B.length
theorem holds_nil : Holds ⟨0, []⟩ [] := ⟨⟨by decide, by decide, .nil, by simp⟩, rfl, rfl, rfl⟩
theorem holds_next {f : Fl} {B : List UInt8} (h : Holds f B) (b : List UInt8) (hb : b ≠ []) (hl : B.length ≤ b.length) (hm : b.length ≤ 2000) : Holds (wrF (cutF f b.length) 0 b) b := by
  have hl0 : 0 < b.length := List.length_pos_iff.2 hb
  have hv := cut_valid h.v (b.length : Int) (by omega) (by omega)
  have hcs : (cutF f b.length).size = b.length := rfl
  have hsz := h.s
  have hcl : (cutF f b.length).L = ltL f.L (needI b.length) := by
    show (if f.size ≤ (b.length : Int) ∨ _ then _ else _) = _
    rw [if_pos (.inl (by omega))]
  refine ⟨wr_valid hv 0 b (by omega) (by omega), ?_, ?_, ?_⟩
  · rw [wr_size _ _ _ hb, hcs]; omega
  · refine ext_getD (by rw [rdB_len]) fun j hj => ?_
    rw [rdB_len] at hj
    rw [rdB_at _ _ _ _ hj, show (0 : Int) = ((0 : Nat) : Int) from rfl, wr_oct _ 0 b hb, if_pos (by omega)]
    congr 1; omega
  · rw [wrF, if_neg hb]
    dsimp only
    have e1 : ltL (cutF f b.length).L (0 / 128) = [] := by
      rw [ltL, List.filter_eq_nil_iff]
      intro p hp
      have := (hv.pc p hp).1
      simp; omega
    have e2 : geL (cutF f b.length).L ((0 + (b.length : Int) - 1) / 128 + 1) = [] := by
      rw [geL, List.filter_eq_nil_iff]
      intro p hp
      have := (hv.pc p hp).2.1
      rw [hcs] at this
      simp; omega
    rw [e1, e2, List.nil_append, List.append_nil, midL, List.length_map, runL, List.length_map, List.length_range, needI, if_neg (by omega)]
    omega
/-- a text's part that is used -/
def part (s : List UInt8) : List UInt8 := s.take 60
def nm (s : List UInt8) : List UInt8 := fitL (part s)
theorem nm_name (s : List UInt8) : nameB (nm s) = true := fit_name _
def stepE (L : List En) (s : List UInt8) (i : Nat) : List En := if hasN L (nm s) then L else insE L ⟨nm s, 1 + (i : Int)⟩
/-- what is kept from text to text -/
structure Lst (T : List (List UInt8)) (i : Nat) (L : List En) (f : Fl) : Prop where
  v : ValidE L
  n : L.length ≤ i
  h : ∀ j s, j < i → T[j]? = some s → hasN L (nm s) = true
  f : Holds f (encL L)
theorem lst_0 (T : List (List UInt8)) : Lst T 0 [] ⟨0, []⟩ := ⟨validE_nil, by simp, fun j s hj => by omega, holds_nil⟩
theorem Lst.same {T : List (List UInt8)} {i : Nat} {L : List En} {f : Fl} (h : Lst T i L f) {s : List UInt8} (hs : T[i]? = some s) (hh : hasN L (nm s) = true) : Lst T (i + 1) L f :=
  ⟨h.v, by have := h.n; omega, fun j t hj ht => by
    rcases Nat.lt_or_ge j i with hji | hji
    · exact h.h j t hji ht
    · obtain rfl : j = i := by omega
      rw [hs] at ht; cases ht; exact hh, h.f⟩
theorem Lst.enc {T : List (List UInt8)} {i : Nat} {L : List En} {f : Fl} (h : Lst T i L f) (hi : i < 30) {s : List UInt8} (hh : hasN L (nm s) = false) :
    ValidE (insE L ⟨nm s, 1 + (i : Int)⟩) ∧ encL (insE L ⟨nm s, 1 + (i : Int)⟩) ≠ [] ∧ (encL L).length ≤ (encL (insE L ⟨nm s, 1 + (i : Int)⟩)).length ∧ (encL (insE L ⟨nm s, 1 + (i : Int)⟩)).length ≤ 2000 := by
  have hv : ValidE (insE L ⟨nm s, 1 + (i : Int)⟩) := h.v.ins ⟨nm s, 1 + (i : Int)⟩ (nm_name s) (by dsimp only; omega) (by dsimp only; omega) (by have := h.n; omega) hh
  have hel := encL_ins L ⟨nm s, 1 + (i : Int)⟩
  rw [enc1_len] at hel
  have hle := encL_le _ fun e he => (hv.all e he).1
  have := hv.len
  exact ⟨hv, fun e => by rw [e] at hel; simp at hel; omega, by omega, by omega⟩
theorem Lst.next {T : List (List UInt8)} {i : Nat} {L : List En} {f : Fl} (h : Lst T i L f) (hi : i < 30) {s : List UInt8} (hs : T[i]? = some s) (hh : hasN L (nm s) = false) :
    Lst T (i + 1) (insE L ⟨nm s, 1 + (i : Int)⟩) (wrF (cutF f (encL (insE L ⟨nm s, 1 + (i : Int)⟩)).length) 0 (encL (insE L ⟨nm s, 1 + (i : Int)⟩))) := by
  obtain ⟨e1, e2, e3, e4⟩ := h.enc hi hh
  refine ⟨e1, by rw [insE_len]; have := h.n; omega, fun j t hj ht => ?_, holds_next h.f _ e2 e3 e4⟩
  rw [hasN_ins]
  rcases Nat.lt_or_ge j i with hji | hji
  · rw [h.h j t hji ht]; simp
  · obtain rfl : j = i := by omega
    rw [hs] at ht; cases ht; simp
end Go.Proofs.YtiiogglflpladaaDoor
