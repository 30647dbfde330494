/- Sparse files in plain Lean: what is read. -/
import Derived.Test.YtiiogglflpladaaDoor19H
namespace Go.Proofs.YtiiogglflpladaaDoor
set_option linter.unusedSimpArgs false
set_option linter.unusedVariables false

theorem octL_nil (k : Nat) : octL [] k = 0 := rfl
theorem octL_snoc (L : List Pc) (p : Pc) (h : ∀ q ∈ L, q.n ≠ p.n) (k : Nat) : octL (L ++ [p]) k = if ((k / 128 : Nat) : Int) = p.n then p.b.getD (k % 128) 0 else octL L k := by
  rw [octL, find_app]
  by_cases e : ((k / 128 : Nat) : Int) = p.n
  · rw [if_pos e]
    have h1 : findL L ((k / 128 : Nat) : Int) = none := by
      cases hf : findL L ((k / 128 : Nat) : Int) with
      | none => rfl
      | some q => obtain ⟨m1, m2⟩ := find_some hf; exact absurd (m2.trans e) (h q m1)
    have h2 : findL [p] ((k / 128 : Nat) : Int) = some p := by rw [findL, List.find?_cons_of_pos (by simp [e])]
    rw [h1, h2]; rfl
  · rw [if_neg e]
    have h2 : findL [p] ((k / 128 : Nat) : Int) = none := by rw [findL, List.find?_cons_of_neg (by simpa using fun x => e x.symm)]; rfl
    rw [h2, octL]; simp
theorem octL_ge (L : List Pc) (n : Int) (k : Nat) (h : n ≤ ((k / 128 : Nat) : Int)) : octL (geL L n) k = octL L k := by
  rw [octL, find_ge, if_pos h, octL]
theorem octL_stop {D : List Pc} (hD : Srt D) (t : Nat) (p : Pc) (hp : D[t]? = some p) (k : Nat) (h : ((k / 128 : Nat) : Int) < p.n) : octL D k = octL (D.take t) k := by
  have e : D = D.take t ++ D.drop t := (List.take_append_drop t D).symm
  have h1 : findL (D.drop t) ((k / 128 : Nat) : Int) = none := by
    cases hf : findL (D.drop t) ((k / 128 : Nat) : Int) with
    | none => rfl
    | some q =>
      obtain ⟨m1, m2⟩ := find_some hf
      obtain ⟨i, hi, rfl⟩ := List.getElem_of_mem m1
      rw [List.length_drop] at hi
      rw [List.getElem_drop] at m2
      obtain ⟨ht, hpt⟩ := List.getElem?_eq_some_iff.1 hp
      rcases Nat.eq_zero_or_pos i with e2 | e2
      · subst e2
        simp only [Nat.add_zero] at m2
        rw [hpt] at m2; omega
      · have := List.pairwise_iff_getElem.1 hD t (t + i) ht (by omega) (by omega)
        rw [hpt] at this; omega
  have h2 : findL D ((k / 128 : Nat) : Int) = findL (D.take t) ((k / 128 : Nat) : Int) := by
    conv => lhs; rw [e]
    rw [find_app, h1]; simp
  rw [octL, h2, octL]
/-- what is read of a file -/
def rdB (L : List Pc) (off m : Nat) : List UInt8 := (List.range m).map (fun j => octL L (off + j))
theorem rdB_len (L : List Pc) (off m : Nat) : (rdB L off m).length = m := by simp [rdB]
theorem rdB_at (L : List Pc) (off m j : Nat) (h : j < m) : (rdB L off m).getD j 0 = octL L (off + j) := by
  rw [rdB, List.getD_eq_getElem?_getD, List.getElem?_map, List.getElem?_range h]; rfl
theorem ext_getD {a b : List UInt8} (h : a.length = b.length) (e : ∀ j, j < a.length → a.getD j 0 = b.getD j 0) : a = b := by
  apply List.ext_getElem h
  intro i h1 h2
  have := e i h1
  rw [List.getD_eq_getElem?_getD, List.getElem?_eq_getElem h1, List.getD_eq_getElem?_getD, List.getElem?_eq_getElem h2] at this
  simpa using this
/-- one piece more is read -/
theorem read_step {D : List Pc} (hD : Srt D) {t : Nat} {p : Pc} (hp : D[t]? = some p) (hb : p.b.length = 128) (off m : Nat) (h0 : ((off / 128 : Nat) : Int) ≤ p.n) (x y : Nat) (hxy : (off + x : Int) = p.n * 128 + y) (hz : x = 0 ∨ y = 0) (hy : y ≤ 128) (hx : x ≤ m)
    (cur : List UInt8) (hl : cur.length = m) (hc : ∀ j, j < m → cur.getD j 0 = octL (D.take t) (off + j)) :
    (over cur x ((p.b.drop y).take (m - x))).length = m ∧ ∀ j, j < m → (over cur x ((p.b.drop y).take (m - x))).getD j 0 = octL (D.take (t + 1)) (off + j) := by
  have hfit : x + ((p.b.drop y).take (m - x)).length ≤ cur.length := by rw [List.length_take]; omega
  refine ⟨by rw [over_len _ _ _ hfit, hl], fun j hj => ?_⟩
  obtain ⟨ht, hpt⟩ := List.getElem?_eq_some_iff.1 hp
  have hne : ∀ q ∈ D.take t, q.n ≠ p.n := by
    intro q hq
    obtain ⟨i, hi, rfl⟩ := List.getElem_of_mem hq
    rw [List.length_take] at hi
    have := List.pairwise_iff_getElem.1 hD i t (by omega) ht (by omega)
    rw [hpt] at this
    rw [List.getElem_take]; omega
  rw [take_snoc hp, octL_snoc _ _ hne, over_at _ _ _ hfit, List.length_take, List.length_drop, hb]
  by_cases e : (((off + j) / 128 : Nat) : Int) = p.n
  · rw [if_pos e, if_pos (by omega), List.getD_eq_getElem?_getD, List.getElem?_take, if_pos (by omega), List.getElem?_drop, ← List.getD_eq_getElem?_getD]
    congr 1
    omega
  · rw [if_neg e, if_neg (by omega), hc j hj]
end Go.Proofs.YtiiogglflpladaaDoor
