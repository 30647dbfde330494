/- sparse.Write whole; sparse.Cut. -/
import Derived.Test.YtiiogglflpladaaDoor19O
import Derived.Deep.DeepCutAuto
namespace Go.Proofs.YtiiogglflpladaaDoor
set_option linter.unusedSimpArgs false
set_option linter.unusedVariables false
open Go.RowKit

theorem write_any (f : Fl) (off : Int) (b : List UInt8) (v vb : Value) (w : World) (h : Sp w v f) (hb : Byts w vb b) : Calls Tryd.prog 8 #[v, .int .i64 off, vb] w (WrPost f off b w) := by
  by_cases hno : mayB f = false ∨ off < 0 ∨ 463488 < off + b.length
  · exact write_no f off b v vb w h hb hno
  · have hv : Valid f := by
      cases e : mayB f with
      | true => exact mayB_iff.1 e
      | false => exact absurd (.inl e) hno
    obtain ⟨of, rfl⟩ : ∃ of : Nat, off = (of : Int) := ⟨off.toNat, by omega⟩
    rcases Nat.eq_zero_or_pos b.length with hz | hz
    · obtain rfl := List.eq_nil_of_length_eq_zero hz
      exact write_empty f of v vb w h hb hv (by omega) (by simp at hno; omega)
    · exact write_some f of b v vb w h hb hv hz (by omega)
theorem zero_u8 (w : World) : (zeroValue 5).run Tryd.prog w = .ok (.int .u8 0) w := by kernel_rfl
theorem zeroCells_u8 (n : Nat) : (Builtin.zeroCells (Value.int .u8 0).cells n).toList = bcells (List.replicate n 0) := by
  rw [bcells_rep]
  apply List.ext_getElem
  · simp [Builtin.zeroCells, Value.cells]
  · intro i h1 h2
    simp [Builtin.zeroCells, Value.cells, Nat.mod_one]
/-- 'clear' of the rest of a block of octets -/
theorem clear_run {w : World} {g x n c : Nat} {cur : List UInt8} (hg : OBlk w g 5 cur) (hn : 0 < n) (hfit : x + n ≤ cur.length) (ty : TypeId) :
    ∃ w', (Builtin.clear_ #[33] ty #[.slice (some ⟨g, x, none⟩) n c]).run Tryd.prog w = .ok (.tuple #[]) w' ∧ OBlk w' g 5 (over cur x (List.replicate n 0)) ∧ But g w w' := by
  have hst := run_storeCells_at Tryd.prog g x 5 (bcells (List.replicate n 0)) 0 (bcells cur).toArray w hg (by simp [bcells_len]; omega) (bcells_one _)
  simp only [Nat.add_zero] at hst
  refine ⟨w.setRow g ((bcells cur).toArray.toList.take x ++ bcells (List.replicate n 0) ++ (bcells cur).toArray.toList.drop (x + (bcells (List.replicate n 0)).length)).toArray, ?_, ?_, ?_⟩
  · obtain ⟨m, rfl⟩ : ∃ m, n = m + 1 := ⟨n - 1, by omega⟩
    simp only [Builtin.clear_]
    simp [run_underlying Tryd.underlying33, zero_u8]
    rw [zeroCells_u8, hst, List.append_assoc]
    rfl
  · unfold OBlk CB
    rw [setRow_heap _ _ _ _ _ _ hg, ← splice_over, splice, List.append_assoc]
  · exact ⟨rfl, rfl, rfl, by simp [World.setRow], fun k _ hne => setRow_other w g k _ (by rintro rfl; exact hne rfl)⟩
def CutPost (f : Fl) (size : Int) (w : World) (e : Ending) (w' : World) : Prop :=
  Kept w w' ∧ ((mayB f = false ∨ size < 0) → e = .returned (.tuple #[.agg #[.int .i64 0, .slice none 0 0], .slice none 0 0, .int .i64 1])) ∧
    (mayB f = true → 463488 < size → e = .returned (.tuple #[.agg #[.int .i64 0, .slice none 0 0], .slice none 0 0, .int .i64 16])) ∧
    (mayB f = true → 0 ≤ size → size ≤ 463488 → ∃ v u, e = .returned (.tuple #[v, u, .int .i64 0]) ∧ Sp w' v (cutF f size) ∧ Ints w' u (cutW f size))
set_option maxHeartbeats 4000000 in
theorem cut_no (f : Fl) (size : Int) (v : Value) (w : World) (h : Sp w v f) (hno : mayB f = false ∨ size < 0 ∨ 463488 < size) : Calls Tryd.prog 7 #[v, .int .i64 size] w (CutPost f size w) := by
  have HM := hid (fun (w' : World) (k : Kept w w') => may_any f v w' (k.sp h))
  obtain ⟨vl, rfl, hP⟩ := h
  obtain ⟨A, c, rfl⟩ := hP.shape
  obtain ⟨s, L⟩ := f
  dsimp only at *
  clear hP
  generalize L.length = m at *
  have HPO := hid (show ∀ w' k, Kept w w' → ((mayB ⟨s, L⟩ = false ∨ size < 0) → k = 1) → (mayB ⟨s, L⟩ = true → 463488 < size → k = 16) → CutPost ⟨s, L⟩ size w (.returned (.tuple #[.agg #[.int .i64 0, .slice none 0 0], .slice none 0 0, .int .i64 k])) w' from fun w' k hk h1 h2 =>
    ⟨hk, fun h => by rw [h1 h], fun a1 a2 => by rw [h2 a1 a2], fun a1 a2 a3 => by
      rcases hno with h | h | h
      · rw [h] at a1; cases a1
      · omega
      · omega⟩)
  generalize mayB ⟨s, L⟩ = mb at *
  cases mb with
  | false =>
    go_enter Tryd.func7, Tryd.ntmps7
    go_wp2_with (
      (go_at_call 22; (with_reducible refine (HM.out _ ?_).mono ?_); exact (by repeat (first | exact Kept.refl _ | assumption | refine Kept.alloc ?_ _ | refine Kept.drew ?_ | refine Kept.drewN ?_ _ | refine Kept.setCell ?_ (by simp; try omega) _ | refine Kept.trans ?_ (by assumption))); rintro e w1 ⟨rfl, k1⟩; have d0 := k1.keeps (b := w.heap.size) (o := 0) (s := none) (v := .int .i64 s) (by simp [go_sem]); have d1 := k1.keeps (b := w.heap.size) (o := 1) (s := none) (v := .slice A m c) (by simp [go_sem]); have r0 := k1.keeps (b := w.heap.size + 1) (o := 0) (s := none) (v := .int .i64 0) (by simp [go_sem]); have r1 := k1.keeps (b := w.heap.size + 1) (o := 1) (s := none) (v := .slice none 0 0) (by simp [go_sem]); have q0 := k1.free (b := w.heap.size + 1) (o := 0) (s := none) (v := .int .i64 0) (by simp [go_sem]) (by simp [go_sem]); have q1 := k1.free (b := w.heap.size + 1) (o := 1) (s := none) (v := .slice none 0 0) (by simp [go_sem]) (by simp [go_sem]))
      )
    refine bodyPost_ret (v := .tuple #[.agg #[.int .i64 0, .slice none 0 0], .slice none 0 0, .int .i64 1]) (by simp [results, Tryd.results7, go_sem, r0, r1]) rfl (HPO.out _ _ ?_ (fun _ => rfl) (fun h => by cases h))
    exact (by repeat (first | exact Kept.refl _ | assumption | refine Kept.alloc ?_ _ | refine Kept.drew ?_ | refine Kept.drewN ?_ _ | refine Kept.setCell ?_ (by simp; try omega) _ | refine Kept.trans ?_ (by assumption)))
  | true =>
    by_cases ho : size < 0
    · go_enter Tryd.func7, Tryd.ntmps7
      go_wp2_with (
        (go_at_call 22; (with_reducible refine (HM.out _ ?_).mono ?_); exact (by repeat (first | exact Kept.refl _ | assumption | refine Kept.alloc ?_ _ | refine Kept.drew ?_ | refine Kept.drewN ?_ _ | refine Kept.setCell ?_ (by simp; try omega) _ | refine Kept.trans ?_ (by assumption))); rintro e w1 ⟨rfl, k1⟩; have d0 := k1.keeps (b := w.heap.size) (o := 0) (s := none) (v := .int .i64 s) (by simp [go_sem]); have d1 := k1.keeps (b := w.heap.size) (o := 1) (s := none) (v := .slice A m c) (by simp [go_sem]); have r0 := k1.keeps (b := w.heap.size + 1) (o := 0) (s := none) (v := .int .i64 0) (by simp [go_sem]); have r1 := k1.keeps (b := w.heap.size + 1) (o := 1) (s := none) (v := .slice none 0 0) (by simp [go_sem]); have q0 := k1.free (b := w.heap.size + 1) (o := 0) (s := none) (v := .int .i64 0) (by simp [go_sem]) (by simp [go_sem]); have q1 := k1.free (b := w.heap.size + 1) (o := 1) (s := none) (v := .slice none 0 0) (by simp [go_sem]) (by simp [go_sem]))
        )
      refine bodyPost_ret (v := .tuple #[.agg #[.int .i64 0, .slice none 0 0], .slice none 0 0, .int .i64 1]) (by simp [results, Tryd.results7, go_sem, r0, r1]) rfl (HPO.out _ _ ?_ (fun _ => rfl) (fun _ h => by omega))
      exact (by repeat (first | exact Kept.refl _ | assumption | refine Kept.alloc ?_ _ | refine Kept.drew ?_ | refine Kept.drewN ?_ _ | refine Kept.setCell ?_ (by simp; try omega) _ | refine Kept.trans ?_ (by assumption)))
    · have hbig : 463488 < size := by
        rcases hno with h | h | h
        · cases h
        · exact absurd h ho
        · exact h
      clear hno
      go_enter Tryd.func7, Tryd.ntmps7
      go_wp2_with (
        (go_at_call 22; (with_reducible refine (HM.out _ ?_).mono ?_); exact (by repeat (first | exact Kept.refl _ | assumption | refine Kept.alloc ?_ _ | refine Kept.drew ?_ | refine Kept.drewN ?_ _ | refine Kept.setCell ?_ (by simp; try omega) _ | refine Kept.trans ?_ (by assumption))); rintro e w1 ⟨rfl, k1⟩; have d0 := k1.keeps (b := w.heap.size) (o := 0) (s := none) (v := .int .i64 s) (by simp [go_sem]); have d1 := k1.keeps (b := w.heap.size) (o := 1) (s := none) (v := .slice A m c) (by simp [go_sem]); have r0 := k1.keeps (b := w.heap.size + 1) (o := 0) (s := none) (v := .int .i64 0) (by simp [go_sem]); have r1 := k1.keeps (b := w.heap.size + 1) (o := 1) (s := none) (v := .slice none 0 0) (by simp [go_sem]); have q0 := k1.free (b := w.heap.size + 1) (o := 0) (s := none) (v := .int .i64 0) (by simp [go_sem]) (by simp [go_sem]); have q1 := k1.free (b := w.heap.size + 1) (o := 1) (s := none) (v := .slice none 0 0) (by simp [go_sem]) (by simp [go_sem]))
        )
      refine bodyPost_ret (v := .tuple #[.agg #[.int .i64 0, .slice none 0 0], .slice none 0 0, .int .i64 16]) (by simp [results, Tryd.results7, go_sem, r0, r1]) rfl (HPO.out _ _ ?_ (fun h => ?_) (fun _ _ => rfl))
      · exact (by repeat (first | exact Kept.refl _ | assumption | refine Kept.alloc ?_ _ | refine Kept.drew ?_ | refine Kept.drewN ?_ _ | refine Kept.setCell ?_ (by simp; try omega) _ | refine Kept.trans ?_ (by assumption)))
      · rcases h with h | h
        · cases h
        · omega
end Go.Proofs.YtiiogglflpladaaDoor
