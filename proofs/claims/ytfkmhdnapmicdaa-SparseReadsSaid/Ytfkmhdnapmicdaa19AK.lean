/- SparseReads: what is said of the calls. -/
import Derived.Test.Ytfkmhdnapmicdaa19AJ
namespace Go.Proofs.Ytfkmhdnapmicdaa
set_option linter.unusedSimpArgs false
set_option linter.unusedVariables false
open Go.RowKit

theorem row_agree {w w' : World} {base : Nat} {e : TypeId} {size n : Nat} {v : Value} {xs : List Value} (h : w.ownsRow base e size v n xs) (ha : ∀ b, base ≤ b → b < w.heap.size → w'.heap[b]? = w.heap[b]?) : w'.ownsRow base e size v n xs := by
  refine ⟨h.1, ?_⟩
  rcases h.2 with hn | ⟨g, cap, cur, rfl, hb, hgg, rest⟩
  · exact .inl hn
  · exact .inr ⟨g, cap, cur, rfl, hb, (ha g hb (Array.getElem?_eq_some_iff.1 hgg).1).trans hgg, rest⟩
/-- the pieces lie between two marks: what else is turned does not matter -/
theorem FRow.agree {w w' : World} {base : Nat} {v : Value} {M : List Pc} (h : FRow w base v M) (ha : ∀ b, base ≤ b → b < w.heap.size → w'.heap[b]? = w.heap[b]?) : Pcs w' v M := by
  obtain ⟨cs, h1, h2⟩ := h
  refine FRow.pcs (base := base) ⟨cs, row_agree h1 ha, fun i p hp => ?_⟩
  obtain ⟨a, u, b, c⟩ := h2 i p hp
  exact ⟨a, u, b, row_agree c ha⟩
theorem heap_al {w : World} {o : Obj} {b : Nat} (h : b < w.heap.size) : (w.alloc o).heap[b]? = w.heap[b]? := Below.heap_alloc _ _ _ h
theorem heap_st {w : World} {p : Addr} {v : Value} {b : Nat} (h : b ≠ p.block) : (w.setCell p v).heap[b]? = w.heap[b]? := Below.heap_setCell _ _ _ _ h
def Zb : Obj := .cells #[.int .i64 0, .slice none 0 0] 24

theorem drop_at (l : List UInt8) (o j : Nat) : (l.drop o).getD j 0 = l.getD (o + j) 0 := by
  rw [List.getD_eq_getElem?_getD, List.getElem?_drop, ← List.getD_eq_getElem?_getD]
theorem rdB_cut {f : Fl} (hv : Valid f) (o m q : Nat) (hq : q = min m (f.size.toNat - o)) : rdB f.L o q = ((flB f).drop o).take m := by
  have e : (((flB f).drop o).take m).length = q := by rw [List.length_take, List.length_drop, flB_len]; omega
  apply ext_getD
  · rw [rdB_len, e]
  · intro j hj
    rw [rdB_len] at hj
    rw [rdB_at _ _ _ _ hj, List.getD_eq_getElem?_getD, List.getElem?_take, if_pos (by omega), ← List.getD_eq_getElem?_getD, drop_at, flB_at hv]
theorem read_gen (f : Fl) (off nn : Int) (v : Value) (w : World) (h : Sp w v f) (ho : off ≤ 9223372036854775807) (hn : nn ≤ 9223372036854775807) : Calls Try.prog 20 #[v, .int .i64 off, .int .i64 nn] w fun e w' => ∃ A q c e8, e = .returned (.tuple #[.slice A q c, .int .i64 e8]) ∧ Kept w w' ∧ ((mayB f = false ∨ off < 0 ∨ nn < 0) → q = 0 ∧ e8 = 1) ∧ (mayB f = true → 0 ≤ off → 0 ≤ nn → e8 = 0 ∧ Byts w' (.slice A q c) (((flB f).drop off.toNat).take nn.toNat)) := by
  refine (read_any f off nn v w h ho hn).mono ?_
  rintro e w' ⟨k, h1, h2⟩
  by_cases hb : mayB f = false ∨ off < 0 ∨ nn < 0
  · exact ⟨none, 0, 0, 1, h1 hb, k, fun _ => ⟨rfl, rfl⟩, fun a b c => by
      rcases hb with hb | hb | hb
      · rw [a] at hb; cases hb
      · omega
      · omega⟩
  · have hm : mayB f = true := by
      cases e : mayB f with
      | true => rfl
      | false => exact absurd (.inl e) hb
    have hv := mayB_iff.1 hm
    obtain ⟨h3, h4⟩ := h2 hm (by omega) (by omega)
    by_cases hs : f.size ≤ off
    · refine ⟨none, 0, 0, 0, h3 hs, k, fun x => absurd x hb, fun _ _ _ => ⟨rfl, ?_⟩⟩
      have : (flB f).drop off.toNat = [] := List.drop_of_length_le (by rw [flB_len]; omega)
      rw [this, List.take_nil]; exact byts_nil _
    · obtain ⟨g, rfl, ob⟩ := h4 (by omega)
      refine ⟨_, _, _, 0, rfl, k, fun x => absurd x hb, fun _ _ _ => ⟨rfl, ?_⟩⟩
      rw [rdB_cut hv off.toNat nn.toNat _ (by omega)] at ob
      exact byts_blk ob (by rw [List.length_take, List.length_drop, flB_len]; omega) (by have := hv.s1; omega)
theorem block_gen (f : Fl) (off : Int) (v : Value) (w : World) (h : Sp w v f) : Calls Try.prog 23 #[v, .int .i64 off] w fun e w' => ∃ A n c, e = .returned (.tuple #[.slice A n c, .bool (mayB f && (findL f.L off).isSome)]) ∧ Kept w w' ∧ ((mayB f && (findL f.L off).isSome) = false → n = 0) ∧ (mayB f = true → ∀ p, findL f.L off = some p → n = 128 ∧ Byts w' (.slice A n c) p.b) := by
  refine (sblock_any f off v w h).mono ?_
  rintro e w' ⟨v2, rfl, k, h1, h2, h3⟩
  cases hm : mayB f with
  | false =>
    obtain rfl := h1 hm
    exact ⟨none, 0, 0, rfl, k, fun _ => rfl, fun x => by cases x⟩
  | true =>
    cases hf : findL f.L off with
    | none =>
      obtain rfl := h2 hf
      exact ⟨none, 0, 0, rfl, k, fun _ => rfl, fun _ p x => by cases x⟩
    | some p =>
      obtain ⟨g, rfl, ob⟩ := h3 hm p hf
      refine ⟨_, _, _, rfl, k, fun x => by simp at x, fun _ p2 x => ?_⟩
      obtain rfl := Option.some.inj x
      exact ⟨rfl, byts_blk ob ((mayB_iff.1 hm).pc p (find_some hf).1).2.2.1 (by omega)⟩
theorem same_str {f : Fl} (hf : Valid f) (g : Fl) : sameB f g = (mayB g && decide (flB g = flB f)) := by
  cases hm : mayB g with
  | false => unfold sameB; rw [hm]; simp
  | true =>
    have hg := mayB_iff.1 hm
    have h1 := same_iff hf hg
    rw [Bool.true_and]
    apply Bool.eq_iff_iff.2
    rw [h1, decide_eq_true_iff]
    have f0 := hf.s0; have g0 := hg.s0
    constructor
    · rintro ⟨e1, e2⟩
      apply ext_getD
      · rw [flB_len, flB_len, e1]
      · intro j _
        rw [flB_at hg, flB_at hf, e2]
    · intro e
      refine ⟨?_, fun k => ?_⟩
      · have := congrArg List.length e
        rw [flB_len, flB_len] at this; omega
      · rw [← flB_at hf, ← flB_at hg, e]
theorem find_neg {f : Fl} (hf : Valid f) {x : Int} (h : x < 0) : findL f.L x = none := by
  cases e : findL f.L x with
  | none => rfl
  | some p =>
    obtain ⟨m1, m2⟩ := find_some e
    have := (hf.pc p m1).1
    omega
theorem blk_at {f : Fl} (hf : Valid f) {o : Nat} {p : Pc} (h : findL f.L (o : Int) = some p) (k : Nat) (hk : k < 128) : p.b.getD k 0 = (flB f).getD (128 * o + k) 0 := by
  have := oct_of f.L o k hk
  rw [flB_at hf, show 128 * o + k = o * 128 + k by omega, this]
  unfold oldL; rw [h]
theorem bstr_cut (l : List UInt8) (m : Nat) : (bstr l).extract 0 m = bstr (l.take m) := by
  apply ByteArray.ext
  simp [bstr]
theorem str_cut (l : List UInt8) (m : Nat) (h : m ≤ l.length) (w : World) : (Instr.sliceAt 9 (.string (bstr l)) none (some (.int .i64 (m : Int))) none).run Try.prog w = .ok (.string (bstr (l.take m))) w := by
  rw [run_sliceAt_string (h := Try.underlying9), run_slice_string_h (ht := Try.underlying9) (h0 := by omega) (h2 := by rw [bstr_size]; omega), Int.toNat_natCast, bstr_cut]
end Go.Proofs.Ytfkmhdnapmicdaa
