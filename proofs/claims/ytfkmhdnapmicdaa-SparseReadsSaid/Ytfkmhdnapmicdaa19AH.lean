/- Sparse files in plain Lean: what Twice and Back ask. -/
import Derived.Test.Ytfkmhdnapmicdaa19AG
namespace Go.Proofs.Ytfkmhdnapmicdaa
set_option linter.unusedSimpArgs false
set_option linter.unusedVariables false

theorem getD_app (a b : List UInt8) (j : Nat) : (a ++ b).getD j 0 = if j < a.length then a.getD j 0 else b.getD (j - a.length) 0 := by
  rw [List.getD_eq_getElem?_getD]
  by_cases h : j < a.length
  · rw [if_pos h, List.getElem?_append_left h, List.getD_eq_getElem?_getD]
  · rw [if_neg h, List.getElem?_append_right (by omega), List.getD_eq_getElem?_getD]
theorem zerosB_128 {l : List UInt8} (h : l.length = 128) : zerosB l = true ↔ ∀ j, j < 128 → l.getD j 0 = 0 := by
  rw [zerosB, List.all_eq_true]
  constructor
  · intro hh j hj
    rw [List.getD_eq_getElem?_getD, List.getElem?_eq_getElem (by omega)]
    have := hh l[j] (List.getElem_mem _)
    simpa using this
  · intro hh x hx
    obtain ⟨j, hj, rfl⟩ := List.getElem_of_mem hx
    have := hh j (by omega)
    rw [List.getD_eq_getElem?_getD, List.getElem?_eq_getElem hj] at this
    simpa using this
theorem agr_iff {M : List Pc} (hM : ∀ p ∈ M, p.b.length = 128) {p : Pc} (hp : p.b.length = 128) : agr M p = true ↔ ∀ j, j < 128 → p.b.getD j 0 = (oldL M p.n).getD j 0 := by
  unfold agr oldL
  cases e : findL M p.n with
  | none =>
    dsimp only
    rw [zerosB_128 hp]
    constructor
    · intro h j hj; rw [h j hj]; rfl
    · intro h j hj; rw [h j hj]; rfl
  | some q =>
    dsimp only
    have hq := hM q (find_some e).1
    rw [decide_eq_true_iff]
    constructor
    · intro h j hj; rw [h]
    · intro h
      exact ext_getD (by omega) (fun j hj => (h j (by omega)).symm)
theorem oct_old (L : List Pc) (k : Nat) : octL L k = (oldL L ((k / 128 : Nat) : Int)).getD (k % 128) 0 := by
  have := oct_of L (k / 128) (k % 128) (by omega)
  rwa [show k / 128 * 128 + k % 128 = k by omega] at this
theorem same_iff {f g : Fl} (hf : Valid f) (hg : Valid g) : sameB f g = true ↔ f.size = g.size ∧ ∀ k : Nat, octL f.L k = octL g.L k := by
  have lf : ∀ p ∈ f.L, p.b.length = 128 := fun p hp => (hf.pc p hp).2.2.1
  have lg : ∀ p ∈ g.L, p.b.length = 128 := fun p hp => (hg.pc p hp).2.2.1
  unfold sameB agreesB
  rw [mayB_t hf, mayB_t hg]
  simp only [Bool.true_and, Bool.and_eq_true, decide_eq_true_eq, List.all_eq_true]
  constructor
  · rintro ⟨⟨h0, h1⟩, h2⟩
    refine ⟨h0, fun k => ?_⟩
    rw [oct_old, oct_old]
    cases e1 : findL f.L ((k / 128 : Nat) : Int) with
    | some p =>
      obtain ⟨m1, m2⟩ := find_some e1
      have := (agr_iff lg (lf p m1)).1 (h1 p m1) (k % 128) (by omega)
      rw [m2] at this
      rw [← this]
      unfold oldL; rw [e1]
    | none =>
      cases e2 : findL g.L ((k / 128 : Nat) : Int) with
      | some q =>
        obtain ⟨m1, m2⟩ := find_some e2
        have := (agr_iff lf (lg q m1)).1 (h2 q m1) (k % 128) (by omega)
        rw [m2] at this
        rw [← this]
        unfold oldL; rw [e2]
      | none => unfold oldL; rw [e1, e2]
  · rintro ⟨h0, h1⟩
    have key : ∀ (a b : Fl), Valid a → (∀ p ∈ a.L, p.b.length = 128) → (∀ p ∈ b.L, p.b.length = 128) → (∀ k, octL a.L k = octL b.L k) → ∀ p ∈ a.L, agr b.L p = true := by
      intro a b ha la lb he p hp
      refine (agr_iff lb (la p hp)).2 (fun j hj => ?_)
      have hn := (ha.pc p hp).1
      have e := he (p.n.toNat * 128 + j)
      rw [oct_of _ _ _ hj, oct_of _ _ _ hj, Int.toNat_of_nonneg hn] at e
      rw [← e]
      unfold oldL; rw [find_unique ha.ord hp]
    exact ⟨⟨h0, key f g hf lf lg h1⟩, key g f hg lg lf (fun k => (h1 k).symm)⟩
theorem oct_wr (f : Fl) (off : Nat) (b : List UInt8) (j : Nat) : octL (wrF f off b).L j = if off ≤ j ∧ j < off + b.length then b.getD (j - off) 0 else octL f.L j := by
  by_cases hb : b = []
  · subst hb
    rw [wrF, if_pos rfl, if_neg (by simp)]
  · exact wr_oct f off b hb j
theorem size_wr (f : Fl) (off : Nat) (b : List UInt8) : (wrF f off b).size = if b.length = 0 then f.size else max f.size ((off : Int) + b.length) := by
  by_cases hb : b = []
  · subst hb; rw [wrF, if_pos rfl]; rfl
  · have := List.length_pos_iff.2 hb
    rw [if_neg (by omega)]
    exact wr_size f off b hb
/-- two writes that do not touch -/
theorem twice_a {f : Fl} (hf : Valid f) (at' other : Nat) (a b : List UInt8) (h1 : at' + a.length ≤ other) (h2 : other + b.length ≤ 463488) :
    Valid (wrF f at' a) ∧ Valid (wrF (wrF f at' a) other b) ∧ Valid (wrF f other b) ∧ Valid (wrF (wrF f other b) at' a) ∧ sameB (wrF (wrF f at' a) other b) (wrF (wrF f other b) at' a) = true := by
  have v1 := wr_valid hf at' a (by omega) (by omega)
  have v2 := wr_valid v1 other b (by omega) (by omega)
  have v3 := wr_valid hf other b (by omega) (by omega)
  have v4 := wr_valid v3 at' a (by omega) (by omega)
  refine ⟨v1, v2, v3, v4, (same_iff v2 v4).2 ⟨?_, fun k => ?_⟩⟩
  · rw [size_wr, size_wr, size_wr, size_wr]
    by_cases ha : a.length = 0
    · rw [if_pos ha, if_pos ha]
    · rw [if_neg ha, if_neg ha]
      by_cases hb : b.length = 0
      · rw [if_pos hb, if_pos hb]
      · rw [if_neg hb, if_neg hb]; omega
  · rw [oct_wr, oct_wr, oct_wr, oct_wr]
    by_cases hb : other ≤ k ∧ k < other + b.length
    · rw [if_pos hb, if_pos hb, if_neg (by omega)]
    · rw [if_neg hb, if_neg hb]
/-- a write in two goes -/
theorem twice_b {f : Fl} (hf : Valid f) (at' : Nat) (a : List UInt8) (k : Nat) (hk : k ≤ a.length) (h : at' + a.length ≤ 463488) :
    Valid (wrF f at' (a.take k)) ∧ Valid (wrF (wrF f at' (a.take k)) ((at' + k : Nat) : Int) (a.drop k)) ∧ Valid (wrF f at' a) ∧ sameB (wrF (wrF f at' (a.take k)) ((at' + k : Nat) : Int) (a.drop k)) (wrF f at' a) = true := by
  have l1 : (a.take k).length = k := by rw [List.length_take]; omega
  have l2 : (a.drop k).length = a.length - k := by rw [List.length_drop]
  have v1 := wr_valid hf at' (a.take k) (by omega) (by omega)
  have v2 := wr_valid v1 ((at' + k : Nat) : Int) (a.drop k) (by omega) (by omega)
  have v3 := wr_valid hf at' a (by omega) (by omega)
  refine ⟨v1, v2, v3, (same_iff v2 v3).2 ⟨?_, fun j => ?_⟩⟩
  · rw [size_wr, size_wr, size_wr, l1, l2]
    repeat' split
    all_goals omega
  · rw [oct_wr, oct_wr, oct_wr, l1, l2]
    by_cases hb : at' + k ≤ j ∧ j < at' + k + (a.length - k)
    · rw [if_pos hb, if_pos (by omega), List.getD_eq_getElem?_getD, List.getElem?_drop, List.getD_eq_getElem?_getD]
      congr 2
      omega
    · rw [if_neg hb]
      by_cases hc : at' ≤ j ∧ j < at' + k
      · rw [if_pos hc, if_pos (by omega), List.getD_eq_getElem?_getD, List.getElem?_take, if_pos (by omega), List.getD_eq_getElem?_getD]
      · rw [if_neg hc, if_neg (by omega)]
/-! Back -/
theorem rdX_len (f : Fl) (off n : Nat) : (rdX f off n).length = min n (f.size.toNat - off) := by rw [rdX, rdB_len]; omega
theorem rdX_at {f : Fl} (hf : Valid f) (off n j : Nat) (h : j < n) : (rdX f off n).getD j 0 = octL f.L (off + j) := by
  by_cases hj : j < (rdX f off n).length
  · rw [rdX_len] at hj
    rw [rdX]
    exact rdB_at _ _ _ _ (by omega)
  · rw [List.getD_eq_getElem?_getD, List.getElem?_eq_none (by omega), oct_beyond hf _ (by rw [rdX_len] at hj; have := hf.s0; omega)]; rfl
/-- what must be read behind a write -/
def wantB (g : Fl) (at' : Nat) (d : List UInt8) : List UInt8 := rdX g 0 at' ++ List.replicate (if d.length = 0 then 0 else at' - (rdX g 0 at').length) 0 ++ d ++ rdX g (at' + d.length) 20000
theorem rep_at (n j : Nat) : (List.replicate n (0 : UInt8)).getD j 0 = 0 := by
  rw [List.getD_eq_getElem?_getD, List.getElem?_replicate]; split <;> rfl
theorem back_all {g : Fl} (hg : Valid g) (at' : Nat) (d : List UInt8) (h1 : g.size ≤ 20000) (h2 : at' + d.length ≤ 30000) : rdX (wrF g at' d) 0 30000 = wantB g at' d := by
  have hx := wr_valid hg at' d (by omega) (by omega)
  have hs0 := hg.s0
  have hsz := size_wr g at' d
  have e0 := rdX_len g 0 at'
  have e1 := rdX_len g (at' + d.length) 20000
  have e2 := rdX_len (wrF g at' d) 0 30000
  have hsz2 : (wrF g at' d).size.toNat = if d.length = 0 then g.size.toNat else max g.size.toNat (at' + d.length) := by
    rw [hsz]; split <;> omega
  apply ext_getD
  · rw [wantB, List.length_append, List.length_append, List.length_append, List.length_replicate, e0, e1, e2, hsz2]
    split <;> omega
  · intro j hj
    rw [e2] at hj
    rw [rdX_at hx 0 30000 j (by omega), Nat.zero_add, oct_wr, wantB, getD_app, getD_app, getD_app]
    simp only [List.length_append, List.length_replicate]
    by_cases hd : d.length = 0
    · rw [if_neg (by omega)]
      simp only [hd, if_pos, Nat.add_zero]
      by_cases h3 : j < (rdX g 0 at').length
      · rw [if_pos h3, if_pos h3, if_pos h3, rdX_at hg 0 at' j (by omega), Nat.zero_add]
      · rw [if_neg h3, hsz2, if_pos hd] at *
        rw [rdX_at hg _ 20000 _ (by omega)]
        congr 1
        omega
    · rw [if_neg hd]
      have e3 : (rdX g 0 at').length + (at' - (rdX g 0 at').length) = at' := by omega
      rw [e3]
      by_cases h3 : j < at'
      · rw [if_neg (by omega), if_pos (by omega), if_pos h3]
        by_cases h4 : j < (rdX g 0 at').length
        · rw [if_pos h4, rdX_at hg 0 at' j (by omega), Nat.zero_add]
        · rw [if_neg h4, rep_at]
          exact oct_beyond hg j (by omega)
      · by_cases h4 : j < at' + d.length
        · rw [if_pos (by omega), if_pos h4, if_neg h3]
        · rw [if_neg (by omega), if_neg h4, rdX_at hg _ 20000 _ (by rw [hsz2, if_neg hd] at hj; omega)]
          congr 1
          omega
/-- what is read behind a cut, and one longer again -/
theorem back_got {x : Fl} (hx : Valid x) (hs : x.size ≤ 30000) (n : Nat) (hn : n ≤ 4000) : Valid (cutF x n) ∧ Valid (cutF (cutF x n) ((n + 300 : Nat) : Int)) ∧ (rdX (cutF (cutF x n) ((n + 300 : Nat) : Int)) 0 30000).length = n + 300 ∧ ∀ m, m < n + 300 → (rdX (cutF (cutF x n) ((n + 300 : Nat) : Int)) 0 30000).getD m 0 = if m < n ∧ m < (rdX x 0 30000).length then (rdX x 0 30000).getD m 0 else 0 := by
  have v1 := cut_valid hx n (by omega) (by omega)
  have v2 := cut_valid v1 ((n + 300 : Nat) : Int) (by omega) (by omega)
  have s1 : (cutF (cutF x n) ((n + 300 : Nat) : Int)).size = ((n + 300 : Nat) : Int) := rfl
  refine ⟨v1, v2, by rw [rdX_len, s1]; omega, fun m hm => ?_⟩
  rw [rdX_at v2 0 30000 m (by omega), Nat.zero_add, cut_oct v1, if_pos (by omega), cut_oct hx]
  by_cases h1 : m < n
  · rw [if_pos (by omega)]
    by_cases h2 : m < (rdX x 0 30000).length
    · rw [if_pos ⟨h1, h2⟩, rdX_at hx 0 30000 m (by omega), Nat.zero_add]
    · rw [if_neg (fun h => h2 h.2)]
      rw [rdX_len] at h2
      exact oct_beyond hx m (by have := hx.s0; omega)
  · rw [if_neg (by omega), if_neg (fun h => h1 h.1)]
end Go.Proofs.Ytfkmhdnapmicdaa
