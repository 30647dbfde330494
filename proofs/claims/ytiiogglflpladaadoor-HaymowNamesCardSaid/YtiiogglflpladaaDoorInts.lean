/- Slices of numbers that are read: 'Ints w v L': the slice value v reads as the numbers L. -/
import Derived.Test.YtiiogglflpladaaDoorKit
import Derived.Deep.AppendLies
import Derived.Laws.AppendOwnNone
import Derived.Test.YtiiogglflpladaaDoorOwn
namespace Go.Proofs.YtiiogglflpladaaDoor
set_option linter.unusedSimpArgs false
set_option linter.unusedVariables false
open Go.RowKit

def Ints (w : World) (v : Value) (L : List Int) : Prop :=
  ∃ A c, v = .slice A L.length c ∧ L.length ≤ c ∧ c ≤ 9223372036854775807 ∧ (A = none → c = 0) ∧
    (0 < L.length → ∃ b o, A = some ⟨b, o, none⟩ ∧ ∀ i, i < L.length → w.cell? ⟨b, o + i, none⟩ = some (.int .i64 (L.getD i 0)))
theorem Kept.ints {w w1 : World} {v : Value} {L : List Int} (hk : Kept w w1) (h : Ints w v L) : Ints w1 v L := by
  obtain ⟨A, c, hv, hc, hm, hz, hr⟩ := h
  refine ⟨A, c, hv, hc, hm, hz, fun hl => ?_⟩
  obtain ⟨b, o, hA, hcell⟩ := hr hl
  exact ⟨b, o, hA, fun i hi => hk.keeps (hcell i hi)⟩
theorem Ints.drew {w : World} {v : Value} {L : List Int} (h : Ints w v L) : Ints w.drew v L := h
theorem Ints.drewN {w : World} {v : Value} {L : List Int} (h : Ints w v L) (n : Nat) : Ints (w.drewN n) v L := h
theorem ints_nil (w : World) : Ints w (.slice none 0 0) [] := ⟨none, 0, rfl, by simp, by omega, fun _ => rfl, by simp⟩
theorem Ints.alloc {w : World} {v : Value} {L : List Int} (h : Ints w v L) (o : Obj) : Ints (w.alloc o) v L := ((Kept.refl w).alloc o).ints h
theorem getD_map (L : List Int) (i : Nat) (h : i < L.length) : (L.map (Value.int .i64))[i]? = some (.int .i64 (L.getD i 0)) := by
  rw [List.getElem?_map, List.getElem?_eq_getElem h]; simp [List.getD_eq_getElem?_getD, List.getElem?_eq_getElem h]
/-- out of a row of the call's own -/
theorem ints_own {w : World} {base : Nat} {e : TypeId} {v : Value} {n : Nat} {L : List Int} (h : w.ownsRow base e 1 v n (L.map (Value.int .i64))) : Ints w v L ∧ L.length = n := by
  have hl : L.length = n := by have := h.1; simpa using this
  refine ⟨?_, hl⟩
  rcases h.2 with ⟨rfl, hn⟩ | ⟨g, cap, cur, rfl, hb, hg, hnc, hm, hs, hx⟩
  · refine ⟨none, 0, by rw [hl, hn], by omega, by omega, fun _ => rfl, by omega⟩
  · refine ⟨_, cap, by rw [hl], by omega, by unfold maxLen at hm; omega, by simp, fun _ => ⟨g, 0, rfl, fun i hi => ?_⟩⟩
    have hc := h.cellAt (g := g) (cap := cap) i (by omega)
    rw [Nat.zero_add, hc]
    exact getD_map L i hi
/-- a slice that a literal made: block g holds the numbers -/
theorem ints_cells {w : World} {b o n c : Nat} {L : List Int} (hn : L.length = n) (hc : n ≤ c) (hm : c ≤ 9223372036854775807) (h : ∀ i, i < n → w.cell? ⟨b, o + i, none⟩ = some (.int .i64 (L.getD i 0))) :
    Ints w (.slice (some ⟨b, o, none⟩) n c) L := by
  subst hn
  exact ⟨_, c, rfl, hc, hm, by simp, fun _ => ⟨b, o, rfl, h⟩⟩
theorem Ints.take {w : World} {A : Option Addr} {n c : Nat} {L : List Int} (h : Ints w (.slice A n c) L) (k : Nat) (hk : k ≤ n) : Ints w (.slice A k c) (L.take k) := by
  obtain ⟨A', c', hv, hc, hm, hz, hr⟩ := h
  simp only [Value.slice.injEq] at hv
  obtain ⟨rfl, rfl, rfl⟩ := hv
  have hl : (L.take k).length = k := by simp; omega
  refine ⟨_, _, by rw [hl], by omega, hm, hz, fun hl' => ?_⟩
  obtain ⟨b, o, hA, hcell⟩ := hr (by omega)
  refine ⟨b, o, hA, fun i hi => ?_⟩
  rw [hcell i (by omega)]
  simp [List.getD_eq_getElem?_getD, List.getElem?_take, show i < k by omega]
theorem Ints.len {w : World} {A : Option Addr} {n c : Nat} {L : List Int} (h : Ints w (.slice A n c) L) : L.length = n ∧ n ≤ c ∧ c ≤ 9223372036854775807 := by
  obtain ⟨A', c', hv, hc, hm, hz, hr⟩ := h
  simp only [Value.slice.injEq] at hv
  obtain ⟨rfl, rfl, rfl⟩ := hv
  exact ⟨rfl, hc, hm⟩
theorem Ints.nil0 {w : World} {n c : Nat} {L : List Int} (h : Ints w (.slice none n c) L) : n = 0 ∧ c = 0 := by
  obtain ⟨A', c', hv, hc, hm, hz, hr⟩ := h
  simp only [Value.slice.injEq] at hv
  obtain ⟨rfl, rfl, rfl⟩ := hv
  have := hz rfl
  omega
theorem Ints.shape {w : World} {v : Value} {L : List Int} (h : Ints w v L) : ∃ A c, v = .slice A L.length c := by
  obtain ⟨A', c', hv, _⟩ := h
  exact ⟨_, _, hv⟩
theorem Ints.cells {w : World} {A : Option Addr} {n c : Nat} {L : List Int} (h : Ints w (.slice A n c) L) (hn : 0 < n) :
    ∃ b o, A = some ⟨b, o, none⟩ ∧ ∀ i, i < n → w.cell? ⟨b, o + i, none⟩ = some (.int .i64 (L.getD i 0)) := by
  obtain ⟨A', c', hv, hc, hm, hz, hr⟩ := h
  simp only [Value.slice.injEq] at hv
  obtain ⟨rfl, rfl, rfl⟩ := hv
  exact hr hn

theorem info_int : (Tryd.prog.info? 3).map (fun i => (i.zero, i.size, i.bytes)) = some (some (.int .i64 0), 1, 8) := by kernel_rfl
theorem oneCell_ints (L : List Int) : ∀ u ∈ L.map (Value.int .i64), u.oneCell' = true := by
  intro u hu
  obtain ⟨x, -, rfl⟩ := List.mem_map.1 hu
  rfl
/-- 'append(s, xs...)', s the call's own, xs a slice of numbers that is read. -/
theorem wpList_append_ints {ops : Array Oper} {rest : List Oper} {o : Oper} {a : Act} {Q : Exit → Act → World → Prop} {W w : World} (hgd : o.guard = none) (s x : Operand)
    (ho : o.op = .call { callee := .builtin .append, args := #[s, x], argTypes := #[36, 36] })
    (v : Value) (n : Nat) (xs L : List Int) (vx : Value) (hs : a.eval s = v) (hown : w.ownsRow W.heap.size 3 1 v n (xs.map (Value.int .i64))) (hx : a.eval x = vx)
    (hL : Ints w vx L) (hn : (n + L.length) * 8 ≤ 140737488355328) (hk : Kept W w)
    (h : ∀ v' w', w'.ownsRow W.heap.size 3 1 v' (n + L.length) ((xs ++ L).map (Value.int .i64)) → Kept W w' → (v' = .slice none 0 0 ↔ v = .slice none 0 0 ∧ L.length = 0) → wpList Tryd.prog ops Q rest (a.put o.dst v') w') :
    wpList Tryd.prog ops Q (o :: rest) a w := by
  obtain ⟨i, hi, hz, hsize, hbytes⟩ := info_parts info_int
  obtain ⟨A, c, rfl⟩ := hL.shape
  obtain ⟨-, hc1, hc2⟩ := hL.len
  have h63 : n + L.length ≤ maxLen := by unfold maxLen; omega
  have hrow : ∀ k, v.ownBlock = some k → W.heap.size ≤ k := fun k hkk => (hown.lt k hkk).1
  have key : ∀ ad : Addr, a.eval x = .slice (some ad) L.length c → (∀ j u, (L.map (Value.int .i64))[j]? = some u → w.cell? (ad.add j) = some u) → wpList Tryd.prog ops Q (o :: rest) a w := by
    intro ad hx' hnews
    refine wpList_append_own _ hgd s x 36 ho W.heap.size 3 i _ 1 8 Tryd.underlying36 hi hz hsize hbytes rfl (by omega) v n _ hs hown ad L.length c (L.map (Value.int .i64)) hx' (by simp) hnews (oneCell_ints L) h63 hn hk.size ?_
    intro v' w' h2 h3 h4
    refine h v' w' (by simpa using h2) (hk.grown h3 hrow) h4
  rcases A with _ | ad
  · have hl0 : L = [] := by
      rcases Nat.eq_zero_or_pos L.length with h0 | h0
      · exact List.eq_nil_of_length_eq_zero h0
      · obtain ⟨b, o', hA, _⟩ := hL.cells h0
        cases hA
    subst hl0
    obtain ⟨-, rfl⟩ := hL.nil0
    refine wpList_append_own_none hgd s x 36 ho W.heap.size 3 i 1 Tryd.underlying36 hi v n _ hs hown (by simpa using hx) ?_
    have := h v w (by simpa using hown) hk (by simp)
    simpa using this
  · refine key ad hx fun j u hu => ?_
    have hj : j < L.length := by
      have := (List.getElem?_eq_some_iff.1 hu).1; simpa using this
    obtain ⟨b, o', hA, hcell⟩ := hL.cells (by omega)
    cases hA
    have : (⟨b, o', none⟩ : Addr).add j = ⟨b, o' + j, none⟩ := by unfold Addr.add; split <;> simp_all
    rw [this, hcell j hj, ← getD_map L j hj, hu]

/-- one number appended to a row of the call's own: the number lies in the block that was just made -/
theorem wpList_pushI {ops : Array Oper} {rest : List Oper} {o : Oper} {a : Act} {Q : Exit → Act → World → Prop} {W w : World} (hgd : o.guard = none) (s x : Operand)
    (ho : o.op = .call { callee := .builtin .append, args := #[s, x], argTypes := #[36, 36] })
    (v : Value) (n : Nat) (xs : List Int) (u : Int) (c H : Nat) (hs : a.eval s = v) (hown : w.ownsRow W.heap.size 3 1 v n (xs.map (Value.int .i64))) (hx : a.eval x = .slice (some ⟨H, 0, none⟩) 1 c) (hH : w.heap.size = H)
    (hn : (n + 1) * 8 ≤ 140737488355328) (hk : Kept W w)
    (h : ∀ v' w', w'.ownsRow W.heap.size 3 1 v' (n + 1) ((xs ++ [u]).map (Value.int .i64)) → Kept W w' → wpList Tryd.prog ops Q rest (a.put o.dst v') w') :
    wpList Tryd.prog ops Q (o :: rest) a (w.alloc (.cells #[.int .i64 u] 3)) := by
  subst hH
  refine wpList_push (W := W) (cs := [.int .i64 u]) hgd s x 36 ho 3 _ 1 8 Tryd.underlying36 info_int rfl (by decide) (by decide) v n _ c hs hown hx rfl (by simp [Value.oneCell']) hn hk ?_
  intro v' w' h1 h2
  exact h v' w' (by simpa using h1) h2

/-- an argument that reads as numbers -/
theorem ints_open {W : World} {x : Addr} {n c : Nat} {zs : List Int} (hz : zs.length = c) (hl : n ≤ c) (hm : c ≤ maxLen) (hcell : ∀ i, i < zs.length → W.cell? (x.add i) = some (.int .i64 (zs.getD i 0))) :
    Ints W (.slice (some x) n c) (zs.take n) := by
  have hlen : (zs.take n).length = n := by simp; omega
  refine ⟨some x, c, by rw [hlen], by omega, by unfold maxLen at hm; omega, by simp, fun h0 => ?_⟩
  obtain ⟨b, o, s⟩ := x
  have h1 := hcell 0 (by omega)
  have hs : s = none := by simpa [Addr.add] using World.cell?_spot h1
  subst hs
  refine ⟨b, o, rfl, fun i hi => ?_⟩
  have h2 := hcell i (by omega)
  have ha : (⟨b, o, none⟩ : Addr).add i = ⟨b, o + i, none⟩ := by unfold Addr.add; split <;> simp_all
  rw [ha] at h2
  rw [h2]
  simp [List.getD_eq_getElem?_getD, List.getElem?_take, show i < n by omega]
end Go.Proofs.YtiiogglflpladaaDoor
