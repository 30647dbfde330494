/- UsageRound: the walk. -/
import Derived.Test.Ytnpkoncflplpiaa15T
import Derived.Test.Ytnpkoncflplpiaa15R
import Derived.Deep.RegionHeld3
namespace Go.Proofs.Ytnpkoncflplpiaa
set_option linter.unusedSimpArgs false
set_option linter.unusedVariables false
open Go.RowKit

/-- 'append(s, xs...)' at a step of a region that draws its order: s the call's own, xs a slice of numbers that is read -/
theorem step_append_ints {ops : Array Oper} {o : Oper} {a : Act} {K : Act → World → Prop} {Q : Exit → Act → World → Prop} {E : Prop} {w : World} (hgd : o.guard = none) (s x : Operand)
    (ho : o.op = .call { callee := .builtin .append, args := #[s, x], argTypes := #[24, 24] })
    (base : Nat) (v : Value) (n : Nat) (xs L : List Int) (vx : Value) (hs : a.eval s = v) (hown : w.ownsRow base 3 1 v n (xs.map (Value.int .i64))) (hx : a.eval x = vx)
    (hL : Ints w vx L) (hn : (n + L.length) * 8 ≤ 140737488355328) (hb : base ≤ w.heap.size)
    (h : ∀ v' w', w'.ownsRow base 3 1 v' (n + L.length) ((xs ++ L).map (Value.int .i64)) → w.grownBy w' v.ownBlock → K (a.put o.dst v') w') :
    if Region.wanted o (yielded ops a.tmps) = true then Oper.wp Try.prog o a w K Q else E := by
  have hw : Region.wanted o (yielded ops a.tmps) = true := by simp [Region.wanted, hgd]
  rw [if_pos hw]
  obtain ⟨i, hi, hz, hsize, hbytes⟩ := info_parts info_int
  obtain ⟨A, c, rfl⟩ := hL.shape
  obtain ⟨-, hc1, hc2⟩ := hL.len
  have h63 : n + L.length ≤ maxLen := by unfold maxLen; omega
  rcases A with _ | ad
  · have hl0 : L = [] := by
      rcases Nat.eq_zero_or_pos L.length with h0 | h0
      · exact List.eq_nil_of_length_eq_zero h0
      · obtain ⟨b, o', hA, _⟩ := hL.cells h0
        cases hA
    subst hl0
    obtain ⟨-, rfl⟩ := hL.nil0
    have hr := run_append_owned_none (P := Try.prog) (w := w) base 24 o.type 3 i 1 Try.underlying24 hi v n _ hown
    unfold Oper.wp execOp
    simp only [ho, resolve, invoke, builtin, Sem.run_bind, Sem.run_pure, Result.andThen_ok, List.map_toArray, List.map_cons, List.map_nil, hs, hx, List.length_nil, hr]
    exact h v w (by simpa using hown) ⟨rfl, rfl, rfl, Nat.le_refl _, fun _ _ _ => rfl⟩
  · have hnews : ∀ j u, (L.map (Value.int .i64))[j]? = some u → w.cell? (ad.add j) = some u := by
      intro j u hu
      have hj : j < L.length := by
        have := (List.getElem?_eq_some_iff.1 hu).1; simpa using this
      obtain ⟨b, o', hA, hcell⟩ := hL.cells (by omega)
      cases hA
      have : (⟨b, o', none⟩ : Addr).add j = ⟨b, o' + j, none⟩ := by unfold Addr.add; split <;> simp_all
      rw [this, hcell j hj, ← getD_map L j hj, hu]
    obtain ⟨v', w', hr, h2, h3, _⟩ := run_append_own_at (P := Try.prog) w base 24 o.type 3 i _ 1 8 Try.underlying24 hi hz hsize hbytes rfl (by omega) v n _ hown ad L.length c (L.map (Value.int .i64)) (by simp) hnews (oneCell_ints L) h63 hn hb
    unfold Oper.wp execOp
    simp only [ho, resolve, invoke, builtin, Sem.run_bind, Sem.run_pure, Result.andThen_ok, List.map_toArray, List.map_cons, List.map_nil, hs, hx, hr]
    exact h v' w' (by simpa using h2) h3

theorem Ints.drop {w : World} {A : Option Addr} {n c : Nat} {L : List Int} (h : Ints w (.slice A n c) L) (k : Nat) (hk : k ≤ n) : Ints w (.slice (if c = k then A else A.map (·.add k)) (n - k) (c - k)) (L.drop k) := by
  obtain ⟨hl, h1, h2⟩ := h.len
  have hld : (L.drop k).length = n - k := by rw [List.length_drop, hl]
  refine ⟨_, _, by rw [hld], by omega, by omega, fun hA => ?_, fun h0 => ?_⟩
  · split at hA
    · omega
    · rcases A with _ | ad
      · have := h.nil0; omega
      · cases hA
  · obtain ⟨b, o, rfl, hc⟩ := h.cells (by omega)
    rw [if_neg (by omega)]
    refine ⟨b, o + k, by simp [addr_add], fun i hi => ?_⟩
    have := hc (k + i) (by omega)
    rw [show o + k + i = o + (k + i) by omega, this]
    simp [List.getD_eq_getElem?_getD, List.getElem?_drop]

theorem make_ints (N : Nat) (hN : (N : Int) ≤ 60) (w : World) : (Instr.makeSlice 24 (.int .i64 (N : Int)) (.int .i64 (N : Int))).run Try.prog w =
    .ok (.slice (some ⟨w.heap.size, 0, none⟩) N N) (w.alloc (.cells (madeCells #[.int .i64 0] N) 3)) := by
  obtain ⟨i, hi, hz, hsize, hbytes⟩ := info_parts info_int
  have := run_makeSlice (P := Try.prog) w 24 3 i _ Try.underlying24 hi hz .i64 .i64 (N : Int) (N : Int) (by omega) (by omega) (by rw [hsize]; simp; omega) (by rw [hbytes]; omega) (by omega)
  rw [this, hsize]
  simp [Value.cells]
theorem ints_made (w : World) (N : Nat) (t : TypeId) (h : N ≤ 60) : Ints (w.alloc (.cells (madeCells #[.int .i64 0] N) t)) (.slice (some ⟨w.heap.size, 0, none⟩) N N) (zs N) := by
  refine ints_cells (zs_len N) (Nat.le_refl _) (by omega) fun i hi => ?_
  have hb : (w.alloc (.cells (madeCells #[.int .i64 0] N) t)).heap[w.heap.size]? = some (.cells (madeCells #[.int .i64 0] N) t (0, 0)) := heap_alloc_new w _
  rw [Nat.zero_add, cell_of_row _ _ _ _ _ _ hb, madeCells_at _ _ _ _ (fun i hi => by match i, hi with | 0, _ => rfl) (by decide) hi]
  simp [zs, List.getD_eq_getElem?_getD, List.getElem?_replicate, hi]
end Go.Proofs.Ytnpkoncflplpiaa
