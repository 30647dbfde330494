/- HaymowNames: slices of entries that are read; Order, isInode, May. -/
import Derived.Test.YtiiogglflpladaaDoorMG
import Derived.Test.YtiiogglflpladaaDoorMB
import Derived.Test.YtiiogglflpladaaDoorNF
namespace Go.Proofs.YtiiogglflpladaaDoor
set_option linter.unusedSimpArgs false
set_option linter.unusedVariables false
open Go.RowKit

def ecells (L : List En) : List Value := L.flatMap fun e => [.string (bstr e.name), .int .i64 e.ino, .int .i64 1]
theorem ecells_len (L : List En) : (ecells L).length = L.length * 3 := by
  induction L with
  | nil => rfl
  | cons e r ih => rw [ecells, List.flatMap_cons, List.length_append]; rw [ecells] at ih; rw [ih]; simp; omega
theorem ecells_app (a b : List En) : ecells (a ++ b) = ecells a ++ ecells b := by simp [ecells]
theorem ecells_at (L : List En) (i : Nat) (e : En) (h : L[i]? = some e) : (ecells L)[i * 3]? = some (.string (bstr e.name)) ∧ (ecells L)[i * 3 + 1]? = some (.int .i64 e.ino) ∧ (ecells L)[i * 3 + 2]? = some (.int .i64 1) := by
  induction L generalizing i with
  | nil => simp at h
  | cons x r ih =>
    rcases i with _ | i
    · simp only [List.getElem?_cons_zero, Option.some.injEq] at h
      subst h
      exact ⟨rfl, rfl, rfl⟩
    · rw [List.getElem?_cons_succ] at h
      obtain ⟨h1, h2, h3⟩ := ih i h
      refine ⟨?_, ?_, ?_⟩
      all_goals (rw [ecells, List.flatMap_cons, List.getElem?_append_right (by simp; omega)]; rw [ecells] at h1 h2 h3; simp only [List.length_cons, List.length_nil])
      · rw [show (i + 1) * 3 - (0 + 1 + 1 + 1) = i * 3 by omega]; exact h1
      · rw [show (i + 1) * 3 + 1 - (0 + 1 + 1 + 1) = i * 3 + 1 by omega]; exact h2
      · rw [show (i + 1) * 3 + 2 - (0 + 1 + 1 + 1) = i * 3 + 2 by omega]; exact h3
theorem ecells_drop (L : List En) (k : Nat) : ecells (L.drop k) = (ecells L).drop (k * 3) := by
  induction k generalizing L with
  | zero => simp
  | succ k ih =>
    cases L with
    | nil => simp [ecells]
    | cons x r => rw [List.drop_succ_cons, ih, ecells, ecells, List.flatMap_cons, show (k + 1) * 3 = 3 + k * 3 by omega, ← List.drop_drop]; rfl
theorem ecells_take (L : List En) (k : Nat) : ecells (L.take k) = (ecells L).take (k * 3) := by
  induction k generalizing L with
  | zero => simp [ecells]
  | succ k ih =>
    cases L with
    | nil => simp [ecells]
    | cons x r =>
      rw [List.take_succ_cons, ecells, List.flatMap_cons]
      have := ih r
      rw [ecells] at this
      rw [this, show ecells (x :: r) = [.string (bstr x.name), .int .i64 x.ino, .int .i64 1] ++ ecells r from rfl, show (k + 1) * 3 = k * 3 + 1 + 1 + 1 by omega]
      rfl
theorem ecells_one (L : List En) : ∀ v ∈ ecells L, v.oneCell' = true := by
  intro v hv
  obtain ⟨e, -, h⟩ := List.mem_flatMap.1 hv
  simp only [List.mem_cons, List.not_mem_nil, or_false] at h
  rcases h with rfl | rfl | rfl <;> rfl
/-- a slice of entries that is read -/
def Ents (w : World) (v : Value) (L : List En) : Prop :=
  ∃ A c, v = .slice A L.length c ∧ L.length ≤ c ∧ c ≤ 9223372036854775807 ∧ (A = none → c = 0) ∧ (0 < L.length → ∃ b o, A = some ⟨b, o, none⟩ ∧ w.rangeAt b o (ecells L))
theorem Kept.ents {w w1 : World} {v : Value} {L : List En} (k : Kept w w1) (h : Ents w v L) : Ents w1 v L := by
  obtain ⟨A, c, hv, h1, h2, h3, h4⟩ := h
  refine ⟨A, c, hv, h1, h2, h3, fun hl => ?_⟩
  obtain ⟨b, o, hA, hr⟩ := h4 hl
  exact ⟨b, o, hA, k.range hr⟩
theorem ents_nil (w : World) : Ents w (.slice none 0 0) [] := ⟨none, 0, rfl, by simp, by omega, fun _ => rfl, by simp⟩
theorem Ents.shape {w : World} {v : Value} {L : List En} (h : Ents w v L) : ∃ A c, v = .slice A L.length c := by
  obtain ⟨A, c, hv, _⟩ := h; exact ⟨A, c, hv⟩
theorem ents_own {w : World} {base : Nat} {e : TypeId} {v : Value} {n : Nat} {L : List En} (h : w.ownsRow base e 3 v n (ecells L)) : Ents w v L := by
  have hl : L.length = n := by have := h.1; rw [ecells_len] at this; omega
  rcases h.2 with ⟨rfl, hn⟩ | ⟨g, cap, cur, rfl, hb, hg, hnc, hm, hs, hx⟩
  · exact ⟨none, 0, by rw [hl, hn], by omega, by omega, fun _ => rfl, by omega⟩
  · refine ⟨_, cap, by rw [hl], by omega, by unfold maxLen at hm; omega, by simp, fun _ => ⟨g, 0, rfl, fun j u hu => ?_⟩⟩
    have hj := (List.getElem?_eq_some_iff.1 hu).1
    rw [ecells_len] at hj
    rw [Nat.zero_add, h.cellAt (g := g) (cap := cap) j (by omega), hu]
section
variable {w : World} {A : Option Addr} {n c : Nat} {L : List En}
theorem Ents.open_ (h : Ents w (.slice A n c) L) : L.length = n ∧ n ≤ c ∧ c ≤ 9223372036854775807 ∧ (A = none → c = 0) ∧ (0 < n → ∃ b o, A = some ⟨b, o, none⟩ ∧ w.rangeAt b o (ecells L)) := by
  obtain ⟨A', c', hv, h1, h2, h3, h4⟩ := h
  simp only [Value.slice.injEq] at hv
  obtain ⟨rfl, rfl, rfl⟩ := hv
  exact ⟨rfl, h1, h2, h3, h4⟩
/-- the cells of one entry -/
def EnAt (w : World) (b o : Nat) (e : En) : Prop := w.cell? ⟨b, o, none⟩ = some (.string (bstr e.name)) ∧ w.cell? ⟨b, o + 1, none⟩ = some (.int .i64 e.ino) ∧ w.cell? ⟨b, o + 2, none⟩ = some (.int .i64 1)
theorem Ents.at_ (h : Ents w (.slice A n c) L) (i : Nat) (hi : i < n) : ∃ b o e, A = some ⟨b, o, none⟩ ∧ L[i]? = some e ∧ EnAt w b (o + i * 3) e := by
  obtain ⟨h0, -, -, -, h4⟩ := h.open_
  obtain ⟨b, o, hA, hr⟩ := h4 (by omega)
  have e := List.getElem?_eq_getElem (show i < L.length by omega)
  obtain ⟨c1, c2, c3⟩ := ecells_at L i _ e
  refine ⟨b, o, _, hA, e, hr _ _ c1, ?_, ?_⟩
  · rw [Nat.add_assoc]; exact hr _ _ c2
  · rw [Nat.add_assoc]; exact hr _ _ c3
theorem Ents.drop (h : Ents w (.slice A n c) L) (k : Nat) (hk : k ≤ n) : Ents w (.slice (restA A c k 3) (n - k) (c - k)) (L.drop k) := by
  obtain ⟨h0, h1, h2, h3, h4⟩ := h.open_
  refine ⟨_, _, by rw [List.length_drop, h0], by rw [List.length_drop]; omega, by omega, fun e => ?_, fun hl => ?_⟩
  · unfold restA at e
    split at e
    · have := h3 e; omega
    · have := h3 (Option.map_eq_none_iff.1 e); omega
  · rw [List.length_drop] at hl
    obtain ⟨b, o, rfl, hr⟩ := h4 (by omega)
    unfold restA
    rw [if_neg (by omega)]
    refine ⟨b, o + k * 3, by rw [Option.map_some, add_plain], fun j v hv => ?_⟩
    rw [ecells_drop, List.getElem?_drop] at hv
    have := hr (k * 3 + j) v hv
    rwa [Nat.add_assoc]
theorem Ents.take (h : Ents w (.slice A n c) L) (k : Nat) (hk : k ≤ n) : Ents w (.slice A k c) (L.take k) := by
  obtain ⟨h0, h1, h2, h3, h4⟩ := h.open_
  have hl : (L.take k).length = k := by simp; omega
  refine ⟨A, c, by rw [hl], by omega, h2, h3, fun hl' => ?_⟩
  obtain ⟨b, o, hA, hr⟩ := h4 (by omega)
  refine ⟨b, o, hA, fun j v hv => hr j v ?_⟩
  rw [ecells_take, List.getElem?_take] at hv
  split at hv
  · exact hv
  · cases hv
end
set_option maxHeartbeats 1000000 in
theorem order_any (a b : List UInt8) (w : World) : Calls Tryd.prog 34 #[.string (bstr a), .string (bstr b)] w fun e w' => e = .returned (.int .i64 (ordI a b)) ∧ w = w' := by
  have ha := bstr_toList a
  have hb := bstr_toList b
  generalize bstr a = s at *
  generalize bstr b = t at *
  unfold ordI
  by_cases h : bl a b = true
  · rw [if_pos h]
    unfold bl at h
    go_enter Tryd.func34, Tryd.ntmps34
    go_wp2
    go_ret
    exact ⟨rfl, rfl⟩
  have h' : Op.bytesLess a b = false := by simpa using h
  rw [if_neg h]
  by_cases he : a = b
  · rw [if_pos he]
    subst he
    clear h
    go_enter Tryd.func34, Tryd.ntmps34
    go_wp2
    go_ret
    exact ⟨rfl, rfl⟩
  · rw [if_neg he]
    have hne : (a == b) = false := by simpa using he
    clear h
    go_enter Tryd.func34, Tryd.ntmps34
    go_wp2
    go_ret
    exact ⟨rfl, rfl⟩
theorem isInode_yes (s : ByteArray) (i : Int) (h1 : 1 ≤ i) (h2 : i ≤ 39) (w : World) : Calls Tryd.prog 16 #[.agg #[.string s, .int .i64 i, .int .i64 1]] w fun e w' => e = .returned (.bool true) ∧ Kept w w' := by
  go_enter Tryd.func16, Tryd.ntmps16
  go_wp2
  go_ret
  exact ⟨rfl, (by repeat (first | exact Kept.refl _ | assumption | refine Kept.alloc ?_ _ | refine Kept.drew ?_ | refine Kept.drewN ?_ _ | refine Kept.setCell ?_ (by simp; try omega) _ | refine Kept.trans ?_ (by assumption)))⟩
end Go.Proofs.YtiiogglflpladaaDoor
