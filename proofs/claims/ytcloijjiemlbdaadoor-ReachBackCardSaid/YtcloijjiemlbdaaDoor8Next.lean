/- haymowref08.Next: the path of the block behind that of a path. -/
import Derived.Test.YtcloijjiemlbdaaDoorSame
namespace Go.Proofs.YtcloijjiemlbdaaDoor
set_option linter.unusedSimpArgs false
set_option linter.unusedVariables false
open Go.RowKit

/-- an own row of numbers, its cells one by one -/
theorem own_cell {w : World} {base g n cap : Nat} {e : TypeId} {L : List Int} (h : w.ownsRow base e 1 (.slice (some ⟨g, 0, none⟩) n cap) n (L.map (Value.int .i64))) (i : Nat) (hi : i < n) :
    w.cell? ⟨g, i, none⟩ = some (.int .i64 (L.getD i 0)) := by
  have hl : L.length = n := by have := h.1; simpa using this
  rw [h.cellAt i (by omega)]; exact getD_map L i (by omega)

def NextPost (L : List Int) (w : World) (e : Ending) (w' : World) : Prop := ∃ v, e = .returned v ∧ Ints w' v L ∧ Kept w w'

theorem own_cap {w : World} {base g n cap : Nat} {e : TypeId} {size : Nat} {xs : List Value} (h : w.ownsRow base e size (.slice (some ⟨g, 0, none⟩) n cap) n xs) : n ≤ cap ∧ cap ≤ 9223372036854775807 := by
  rcases h.2 with ⟨h0, _⟩ | ⟨g', cap', cur, h0, _, _, h1, h2, _⟩
  · cases h0
  · injection h0 with _ _ h3
    subst h3
    exact ⟨h1, by unfold maxLen at h2; omega⟩

set_option maxHeartbeats 1000000 in
theorem next_1 (x : Int) (v : Value) (w : World) (hL : Ints w v [x]) (h0 : 0 ≤ x) (h1 : x < 5) :
    Calls Tryd.prog 26 #[v] w (NextPost [x + 1] w) := by
  obtain ⟨A, cp0, rfl⟩ := hL.shape
  have hL1 := hid hL
  clear hL
  go_enter Tryd.func26, Tryd.ntmps26
  go_wp2_with (at_builtin; refine wpList_append_ints (W := w) rfl (.tmp 5) (.tmp 6) rfl (.slice (some ⟨w.heap.size, 0, none⟩) 0 0) 0 [] [x] _ rfl (World.ownsRow_made w _ 0 (Nat.le_refl _) (by decide) (by simp)) rfl ((Hid.out hL1).alloc _) (by simp) ((Kept.refl _).alloc _) ?_; intro v1 w1 hown1 hk1 hv1; clear hv1; obtain ⟨g, cap, rfl, hg, -⟩ := hown1.form (by simp); simp only [List.length_cons, List.length_nil, Nat.zero_add, Nat.reduceAdd, List.nil_append] at hown1; have c0 := own_cell hown1 0 (by omega); have f0 := hown1.frozenAt 0; simp at c0)
  go_ret
  refine ⟨_, rfl, ints_cells (by simp) (own_cap hown1).1 (own_cap hown1).2 fun i hi => ?_, (by repeat (first | exact Kept.refl _ | assumption | refine Kept.alloc ?_ _ | refine Kept.drew ?_ | refine Kept.drewN ?_ _ | refine Kept.setCell ?_ (by simp; try omega) _ | refine Kept.trans ?_ (by assumption)))⟩
  simp only [Nat.zero_add]
  match i, hi with
  | 0, _ => simp [go_sem, *]

set_option maxHeartbeats 1000000 in
theorem next_5 (v : Value) (w : World) (hL : Ints w v [5]) :
    Calls Tryd.prog 26 #[v] w (NextPost [6, 0] w) := by
  obtain ⟨A, cp0, rfl⟩ := hL.shape
  have hL1 := hid hL
  clear hL
  go_enter Tryd.func26, Tryd.ntmps26
  go_wp2_with (at_builtin; refine wpList_append_ints (W := w) rfl (.tmp 5) (.tmp 6) rfl (.slice (some ⟨w.heap.size, 0, none⟩) 0 0) 0 [] [5] _ rfl (World.ownsRow_made w _ 0 (Nat.le_refl _) (by decide) (by simp)) rfl ((Hid.out hL1).alloc _) (by simp) ((Kept.refl _).alloc _) ?_; intro v1 w1 hown1 hk1 hv1; clear hv1; obtain ⟨g, cap, rfl, hg, -⟩ := hown1.form (by simp); simp only [List.length_cons, List.length_nil, Nat.zero_add, Nat.reduceAdd, List.nil_append] at hown1; have c0 := own_cell hown1 0 (by omega); have f0 := hown1.frozenAt 0; simp at c0)
  go_ret
  refine ⟨_, rfl, ints_cells (by simp) (by omega) (by omega) fun i hi => ?_, (by repeat (first | exact Kept.refl _ | assumption | refine Kept.alloc ?_ _ | refine Kept.drew ?_ | refine Kept.drewN ?_ _ | refine Kept.setCell ?_ (by simp; try omega) _ | refine Kept.trans ?_ (by assumption)))⟩
  simp only [Nat.zero_add]
  match i, hi with
  | 0, _ => simp [go_sem]
  | 1, _ => simp [go_sem]

set_option maxHeartbeats 1000000 in
theorem next_2a (x b : Int) (v : Value) (w : World) (hL : Ints w v [x, b]) (h0 : 6 ≤ x) (h1 : x ≤ 8) (h2 : 0 ≤ b) (h3 : b < 14) :
    Calls Tryd.prog 26 #[v] w (NextPost [x, b + 1] w) := by
  obtain ⟨A, cp0, rfl⟩ := hL.shape
  have hL1 := hid hL
  clear hL
  go_enter Tryd.func26, Tryd.ntmps26
  go_wp2_with (at_builtin; refine wpList_append_ints (W := w) rfl (.tmp 5) (.tmp 6) rfl (.slice (some ⟨w.heap.size, 0, none⟩) 0 0) 0 [] [x, b] _ rfl (World.ownsRow_made w _ 0 (Nat.le_refl _) (by decide) (by simp)) rfl ((Hid.out hL1).alloc _) (by simp) ((Kept.refl _).alloc _) ?_; intro v1 w1 hown1 hk1 hv1; clear hv1; obtain ⟨g, cap, rfl, hg, -⟩ := hown1.form (by simp); simp only [List.length_cons, List.length_nil, Nat.zero_add, Nat.reduceAdd, List.nil_append] at hown1; have c0 := own_cell hown1 0 (by omega); have f0 := hown1.frozenAt 0; simp at c0; have c1 := own_cell hown1 1 (by omega); have f1 := hown1.frozenAt 1; simp at c1)
  refine wp_loop_rounds 1 ?_
  rw [rounds_succ]
  go_wp2
  go_ret
  refine ⟨_, rfl, ints_cells (by simp) (own_cap hown1).1 (own_cap hown1).2 fun i hi => ?_, (by repeat (first | exact Kept.refl _ | assumption | refine Kept.alloc ?_ _ | refine Kept.drew ?_ | refine Kept.drewN ?_ _ | refine Kept.setCell ?_ (by simp; try omega) _ | refine Kept.trans ?_ (by assumption)))⟩
  simp only [Nat.zero_add]
  match i, hi with
  | 0, _ => simp [go_sem, *]
  | 1, _ => simp [go_sem, *]

set_option maxHeartbeats 1000000 in
theorem next_3a (x b c : Int) (v : Value) (w : World) (hL : Ints w v [x, b, c]) (h0 : 6 ≤ x) (h1 : x ≤ 8) (h2 : 0 ≤ c) (h3 : c < 14) :
    Calls Tryd.prog 26 #[v] w (NextPost [x, b, c + 1] w) := by
  obtain ⟨A, cp0, rfl⟩ := hL.shape
  have hL1 := hid hL
  clear hL
  go_enter Tryd.func26, Tryd.ntmps26
  go_wp2_with (at_builtin; refine wpList_append_ints (W := w) rfl (.tmp 5) (.tmp 6) rfl (.slice (some ⟨w.heap.size, 0, none⟩) 0 0) 0 [] [x, b, c] _ rfl (World.ownsRow_made w _ 0 (Nat.le_refl _) (by decide) (by simp)) rfl ((Hid.out hL1).alloc _) (by simp) ((Kept.refl _).alloc _) ?_; intro v1 w1 hown1 hk1 hv1; clear hv1; obtain ⟨g, cap, rfl, hg, -⟩ := hown1.form (by simp); simp only [List.length_cons, List.length_nil, Nat.zero_add, Nat.reduceAdd, List.nil_append] at hown1; have c0 := own_cell hown1 0 (by omega); have f0 := hown1.frozenAt 0; simp at c0; have c1 := own_cell hown1 1 (by omega); have f1 := hown1.frozenAt 1; simp at c1; have c2 := own_cell hown1 2 (by omega); have f2 := hown1.frozenAt 2; simp at c2)
  refine wp_loop_rounds 1 ?_
  rw [rounds_succ]
  go_wp2
  go_ret
  refine ⟨_, rfl, ints_cells (by simp) (own_cap hown1).1 (own_cap hown1).2 fun i hi => ?_, (by repeat (first | exact Kept.refl _ | assumption | refine Kept.alloc ?_ _ | refine Kept.drew ?_ | refine Kept.drewN ?_ _ | refine Kept.setCell ?_ (by simp; try omega) _ | refine Kept.trans ?_ (by assumption)))⟩
  simp only [Nat.zero_add]
  match i, hi with
  | 0, _ => simp [go_sem, *]
  | 1, _ => simp [go_sem, *]
  | 2, _ => simp [go_sem, *]

set_option maxHeartbeats 1000000 in
theorem next_4a (x b c d : Int) (v : Value) (w : World) (hL : Ints w v [x, b, c, d]) (h0 : 6 ≤ x) (h1 : x ≤ 8) (h2 : 0 ≤ d) (h3 : d < 14) :
    Calls Tryd.prog 26 #[v] w (NextPost [x, b, c, d + 1] w) := by
  obtain ⟨A, cp0, rfl⟩ := hL.shape
  have hL1 := hid hL
  clear hL
  go_enter Tryd.func26, Tryd.ntmps26
  go_wp2_with (at_builtin; refine wpList_append_ints (W := w) rfl (.tmp 5) (.tmp 6) rfl (.slice (some ⟨w.heap.size, 0, none⟩) 0 0) 0 [] [x, b, c, d] _ rfl (World.ownsRow_made w _ 0 (Nat.le_refl _) (by decide) (by simp)) rfl ((Hid.out hL1).alloc _) (by simp) ((Kept.refl _).alloc _) ?_; intro v1 w1 hown1 hk1 hv1; clear hv1; obtain ⟨g, cap, rfl, hg, -⟩ := hown1.form (by simp); simp only [List.length_cons, List.length_nil, Nat.zero_add, Nat.reduceAdd, List.nil_append] at hown1; have c0 := own_cell hown1 0 (by omega); have f0 := hown1.frozenAt 0; simp at c0; have c1 := own_cell hown1 1 (by omega); have f1 := hown1.frozenAt 1; simp at c1; have c2 := own_cell hown1 2 (by omega); have f2 := hown1.frozenAt 2; simp at c2; have c3 := own_cell hown1 3 (by omega); have f3 := hown1.frozenAt 3; simp at c3)
  refine wp_loop_rounds 1 ?_
  rw [rounds_succ]
  go_wp2
  go_ret
  refine ⟨_, rfl, ints_cells (by simp) (own_cap hown1).1 (own_cap hown1).2 fun i hi => ?_, (by repeat (first | exact Kept.refl _ | assumption | refine Kept.alloc ?_ _ | refine Kept.drew ?_ | refine Kept.drewN ?_ _ | refine Kept.setCell ?_ (by simp; try omega) _ | refine Kept.trans ?_ (by assumption)))⟩
  simp only [Nat.zero_add]
  match i, hi with
  | 0, _ => simp [go_sem, *]
  | 1, _ => simp [go_sem, *]
  | 2, _ => simp [go_sem, *]
  | 3, _ => simp [go_sem, *]

set_option maxHeartbeats 1000000 in
theorem next_3b (x b : Int) (v : Value) (w : World) (hL : Ints w v [x, b, 14]) (h0 : 6 ≤ x) (h1 : x ≤ 8) (h2 : 0 ≤ b) (h3 : b < 14) :
    Calls Tryd.prog 26 #[v] w (NextPost [x, b + 1, 0] w) := by
  obtain ⟨A, cp0, rfl⟩ := hL.shape
  have hL1 := hid hL
  clear hL
  go_enter Tryd.func26, Tryd.ntmps26
  go_wp2_with (at_builtin; refine wpList_append_ints (W := w) rfl (.tmp 5) (.tmp 6) rfl (.slice (some ⟨w.heap.size, 0, none⟩) 0 0) 0 [] [x, b, 14] _ rfl (World.ownsRow_made w _ 0 (Nat.le_refl _) (by decide) (by simp)) rfl ((Hid.out hL1).alloc _) (by simp) ((Kept.refl _).alloc _) ?_; intro v1 w1 hown1 hk1 hv1; clear hv1; obtain ⟨g, cap, rfl, hg, -⟩ := hown1.form (by simp); simp only [List.length_cons, List.length_nil, Nat.zero_add, Nat.reduceAdd, List.nil_append] at hown1; have c0 := own_cell hown1 0 (by omega); have f0 := hown1.frozenAt 0; simp at c0; have c1 := own_cell hown1 1 (by omega); have f1 := hown1.frozenAt 1; simp at c1; have c2 := own_cell hown1 2 (by omega); have f2 := hown1.frozenAt 2; simp at c2)
  refine wp_loop_rounds 2 ?_
  rw [rounds_succ]
  go_wp2
  rw [rounds_succ]
  go_wp2
  go_ret
  refine ⟨_, rfl, ints_cells (by simp) (own_cap hown1).1 (own_cap hown1).2 fun i hi => ?_, (by repeat (first | exact Kept.refl _ | assumption | refine Kept.alloc ?_ _ | refine Kept.drew ?_ | refine Kept.drewN ?_ _ | refine Kept.setCell ?_ (by simp; try omega) _ | refine Kept.trans ?_ (by assumption)))⟩
  simp only [Nat.zero_add]
  match i, hi with
  | 0, _ => simp [go_sem, *]
  | 1, _ => simp [go_sem, *]
  | 2, _ => simp [go_sem, *]

set_option maxHeartbeats 1000000 in
theorem next_4b (x b c : Int) (v : Value) (w : World) (hL : Ints w v [x, b, c, 14]) (h0 : 6 ≤ x) (h1 : x ≤ 8) (h2 : 0 ≤ c) (h3 : c < 14) :
    Calls Tryd.prog 26 #[v] w (NextPost [x, b, c + 1, 0] w) := by
  obtain ⟨A, cp0, rfl⟩ := hL.shape
  have hL1 := hid hL
  clear hL
  go_enter Tryd.func26, Tryd.ntmps26
  go_wp2_with (at_builtin; refine wpList_append_ints (W := w) rfl (.tmp 5) (.tmp 6) rfl (.slice (some ⟨w.heap.size, 0, none⟩) 0 0) 0 [] [x, b, c, 14] _ rfl (World.ownsRow_made w _ 0 (Nat.le_refl _) (by decide) (by simp)) rfl ((Hid.out hL1).alloc _) (by simp) ((Kept.refl _).alloc _) ?_; intro v1 w1 hown1 hk1 hv1; clear hv1; obtain ⟨g, cap, rfl, hg, -⟩ := hown1.form (by simp); simp only [List.length_cons, List.length_nil, Nat.zero_add, Nat.reduceAdd, List.nil_append] at hown1; have c0 := own_cell hown1 0 (by omega); have f0 := hown1.frozenAt 0; simp at c0; have c1 := own_cell hown1 1 (by omega); have f1 := hown1.frozenAt 1; simp at c1; have c2 := own_cell hown1 2 (by omega); have f2 := hown1.frozenAt 2; simp at c2; have c3 := own_cell hown1 3 (by omega); have f3 := hown1.frozenAt 3; simp at c3)
  refine wp_loop_rounds 2 ?_
  rw [rounds_succ]
  go_wp2
  rw [rounds_succ]
  go_wp2
  go_ret
  refine ⟨_, rfl, ints_cells (by simp) (own_cap hown1).1 (own_cap hown1).2 fun i hi => ?_, (by repeat (first | exact Kept.refl _ | assumption | refine Kept.alloc ?_ _ | refine Kept.drew ?_ | refine Kept.drewN ?_ _ | refine Kept.setCell ?_ (by simp; try omega) _ | refine Kept.trans ?_ (by assumption)))⟩
  simp only [Nat.zero_add]
  match i, hi with
  | 0, _ => simp [go_sem, *]
  | 1, _ => simp [go_sem, *]
  | 2, _ => simp [go_sem, *]
  | 3, _ => simp [go_sem, *]

set_option maxHeartbeats 1000000 in
theorem next_4c (x b : Int) (v : Value) (w : World) (hL : Ints w v [x, b, 14, 14]) (h0 : 6 ≤ x) (h1 : x ≤ 8) (h2 : 0 ≤ b) (h3 : b < 14) :
    Calls Tryd.prog 26 #[v] w (NextPost [x, b + 1, 0, 0] w) := by
  obtain ⟨A, cp0, rfl⟩ := hL.shape
  have hL1 := hid hL
  clear hL
  go_enter Tryd.func26, Tryd.ntmps26
  go_wp2_with (at_builtin; refine wpList_append_ints (W := w) rfl (.tmp 5) (.tmp 6) rfl (.slice (some ⟨w.heap.size, 0, none⟩) 0 0) 0 [] [x, b, 14, 14] _ rfl (World.ownsRow_made w _ 0 (Nat.le_refl _) (by decide) (by simp)) rfl ((Hid.out hL1).alloc _) (by simp) ((Kept.refl _).alloc _) ?_; intro v1 w1 hown1 hk1 hv1; clear hv1; obtain ⟨g, cap, rfl, hg, -⟩ := hown1.form (by simp); simp only [List.length_cons, List.length_nil, Nat.zero_add, Nat.reduceAdd, List.nil_append] at hown1; have c0 := own_cell hown1 0 (by omega); have f0 := hown1.frozenAt 0; simp at c0; have c1 := own_cell hown1 1 (by omega); have f1 := hown1.frozenAt 1; simp at c1; have c2 := own_cell hown1 2 (by omega); have f2 := hown1.frozenAt 2; simp at c2; have c3 := own_cell hown1 3 (by omega); have f3 := hown1.frozenAt 3; simp at c3)
  refine wp_loop_rounds 3 ?_
  rw [rounds_succ]
  go_wp2
  rw [rounds_succ]
  go_wp2
  rw [rounds_succ]
  go_wp2
  go_ret
  refine ⟨_, rfl, ints_cells (by simp) (own_cap hown1).1 (own_cap hown1).2 fun i hi => ?_, (by repeat (first | exact Kept.refl _ | assumption | refine Kept.alloc ?_ _ | refine Kept.drew ?_ | refine Kept.drewN ?_ _ | refine Kept.setCell ?_ (by simp; try omega) _ | refine Kept.trans ?_ (by assumption)))⟩
  simp only [Nat.zero_add]
  match i, hi with
  | 0, _ => simp [go_sem, *]
  | 1, _ => simp [go_sem, *]
  | 2, _ => simp [go_sem, *]
  | 3, _ => simp [go_sem, *]

set_option maxHeartbeats 1000000 in
theorem next_2b (x : Int) (v : Value) (w : World) (hL : Ints w v [x, 14]) (h0 : 6 ≤ x) (h1 : x ≤ 7) (h8 : (x == 8) = false) :
    Calls Tryd.prog 26 #[v] w (NextPost [x + 1, 0, 0] w) := by
  obtain ⟨A, cp0, rfl⟩ := hL.shape
  have hL1 := hid hL
  clear hL
  go_enter Tryd.func26, Tryd.ntmps26
  go_wp2_with (at_builtin; refine wpList_append_ints (W := w) rfl (.tmp 5) (.tmp 6) rfl (.slice (some ⟨w.heap.size, 0, none⟩) 0 0) 0 [] [x, 14] _ rfl (World.ownsRow_made w _ 0 (Nat.le_refl _) (by decide) (by simp)) rfl ((Hid.out hL1).alloc _) (by simp) ((Kept.refl _).alloc _) ?_; intro v1 w1 hown1 hk1 hv1; clear hv1; obtain ⟨g, cap, rfl, hg, -⟩ := hown1.form (by simp); simp only [List.length_cons, List.length_nil, Nat.zero_add, Nat.reduceAdd, List.nil_append] at hown1; have c0 := own_cell hown1 0 (by omega); have f0 := hown1.frozenAt 0; simp at c0; have c1 := own_cell hown1 1 (by omega); have f1 := hown1.frozenAt 1; simp at c1)
  refine wp_loop_rounds 2 ?_
  rw [rounds_succ]
  go_wp2
  rw [rounds_succ]
  have hown2 := ((hown1.stored 1 (.int .i64 0)).1.stored 0 (.int .i64 (x + 1))).1
  go_wp2_with (at_builtin; refine wpList_pushI (W := w) rfl (.tmp 54) (.tmp 55) rfl _ 2 [x + 1, 0] 0 _ _ rfl hown2 rfl (by simp) (by omega) (by repeat (first | exact Kept.refl _ | assumption | refine Kept.alloc ?_ _ | refine Kept.drew ?_ | refine Kept.drewN ?_ _ | refine Kept.setCell ?_ (by simp; try omega) _ | refine Kept.trans ?_ (by assumption))) ?_; intro v3 w3 hown3 hk3)
  go_ret
  refine ⟨_, rfl, (ints_own (L := [x + 1, 0, 0]) (n := 3) (base := w.heap.size) (e := 3) (by simpa using hown3)).1, hk3⟩

set_option maxHeartbeats 1000000 in
theorem next_3c (x : Int) (v : Value) (w : World) (hL : Ints w v [x, 14, 14]) (h0 : 6 ≤ x) (h1 : x ≤ 7) (h8 : (x == 8) = false) :
    Calls Tryd.prog 26 #[v] w (NextPost [x + 1, 0, 0, 0] w) := by
  obtain ⟨A, cp0, rfl⟩ := hL.shape
  have hL1 := hid hL
  clear hL
  go_enter Tryd.func26, Tryd.ntmps26
  go_wp2_with (at_builtin; refine wpList_append_ints (W := w) rfl (.tmp 5) (.tmp 6) rfl (.slice (some ⟨w.heap.size, 0, none⟩) 0 0) 0 [] [x, 14, 14] _ rfl (World.ownsRow_made w _ 0 (Nat.le_refl _) (by decide) (by simp)) rfl ((Hid.out hL1).alloc _) (by simp) ((Kept.refl _).alloc _) ?_; intro v1 w1 hown1 hk1 hv1; clear hv1; obtain ⟨g, cap, rfl, hg, -⟩ := hown1.form (by simp); simp only [List.length_cons, List.length_nil, Nat.zero_add, Nat.reduceAdd, List.nil_append] at hown1; have c0 := own_cell hown1 0 (by omega); have f0 := hown1.frozenAt 0; simp at c0; have c1 := own_cell hown1 1 (by omega); have f1 := hown1.frozenAt 1; simp at c1; have c2 := own_cell hown1 2 (by omega); have f2 := hown1.frozenAt 2; simp at c2)
  refine wp_loop_rounds 3 ?_
  rw [rounds_succ]
  go_wp2
  rw [rounds_succ]
  go_wp2
  rw [rounds_succ]
  have hown2 := (((hown1.stored 2 (.int .i64 0)).1.stored 1 (.int .i64 0)).1.stored 0 (.int .i64 (x + 1))).1
  go_wp2_with (at_builtin; refine wpList_pushI (W := w) rfl (.tmp 54) (.tmp 55) rfl _ 3 [x + 1, 0, 0] 0 _ _ rfl hown2 rfl (by simp) (by omega) (by repeat (first | exact Kept.refl _ | assumption | refine Kept.alloc ?_ _ | refine Kept.drew ?_ | refine Kept.drewN ?_ _ | refine Kept.setCell ?_ (by simp; try omega) _ | refine Kept.trans ?_ (by assumption))) ?_; intro v3 w3 hown3 hk3)
  go_ret
  refine ⟨_, rfl, (ints_own (L := [x + 1, 0, 0, 0]) (n := 4) (base := w.heap.size) (e := 3) (by simpa using hown3)).1, hk3⟩

set_option maxHeartbeats 1000000 in
theorem next_4d (v : Value) (w : World) (hL : Ints w v [8, 14, 14, 14]) :
    Calls Tryd.prog 26 #[v] w (NextPost [] w) := by
  obtain ⟨A, cp0, rfl⟩ := hL.shape
  have hL1 := hid hL
  clear hL
  go_enter Tryd.func26, Tryd.ntmps26
  go_wp2_with (at_builtin; refine wpList_append_ints (W := w) rfl (.tmp 5) (.tmp 6) rfl (.slice (some ⟨w.heap.size, 0, none⟩) 0 0) 0 [] [8, 14, 14, 14] _ rfl (World.ownsRow_made w _ 0 (Nat.le_refl _) (by decide) (by simp)) rfl ((Hid.out hL1).alloc _) (by simp) ((Kept.refl _).alloc _) ?_; intro v1 w1 hown1 hk1 hv1; clear hv1; obtain ⟨g, cap, rfl, hg, -⟩ := hown1.form (by simp); simp only [List.length_cons, List.length_nil, Nat.zero_add, Nat.reduceAdd, List.nil_append] at hown1; have c0 := own_cell hown1 0 (by omega); have f0 := hown1.frozenAt 0; simp at c0; have c1 := own_cell hown1 1 (by omega); have f1 := hown1.frozenAt 1; simp at c1; have c2 := own_cell hown1 2 (by omega); have f2 := hown1.frozenAt 2; simp at c2; have c3 := own_cell hown1 3 (by omega); have f3 := hown1.frozenAt 3; simp at c3)
  refine wp_loop_rounds 4 ?_
  rw [rounds_succ]
  go_wp2
  rw [rounds_succ]
  go_wp2
  rw [rounds_succ]
  go_wp2
  rw [rounds_succ]
  go_wp2
  go_ret
  exact ⟨_, rfl, ints_nil _, (by repeat (first | exact Kept.refl _ | assumption | refine Kept.alloc ?_ _ | refine Kept.drew ?_ | refine Kept.drewN ?_ _ | refine Kept.setCell ?_ (by simp; try omega) _ | refine Kept.trans ?_ (by assumption)))⟩

end Go.Proofs.YtcloijjiemlbdaaDoor
