/- sparse.Write. -/
import Derived.Test.YtiiogglflpladaaDoor19J
namespace Go.Proofs.YtiiogglflpladaaDoor
set_option linter.unusedSimpArgs false
set_option linter.unusedVariables false
open Go.RowKit

theorem block_old (s : Int) (L : List Pc) (A : Option Addr) (m c : Nat) (n : Int) (w : World) (hP : Pcs w (.slice A m c) L) (hS : Srt L) (hl : L.length ≤ 100000) :
    Calls Tryd.prog 25 #[.agg #[.int .i64 s, .slice A m c], .int .i64 n] w fun e w' => ∃ v, e = .returned (.tuple #[v, .bool (findL L n).isSome]) ∧ Kept w w' ∧ Byts w' v (oldL L n) := by
  refine (block_any s L A m c n w hP hS hl).mono ?_
  rintro e w' ⟨v, rfl, k, hm⟩
  refine ⟨v, rfl, k, ?_⟩
  unfold oldL
  rcases hf : findL L n with _ | p
  · rw [hf] at hm; rw [hm]; exact byts_nil _
  · rw [hf] at hm
    obtain ⟨b, o, j, h1, h2, h3, h4, h5⟩ := hm
    exact k.byts h5
/-- pieces of the call's own, said by their list -/
def OPc (w : World) (base : Nat) (v : Value) (L : List Pc) : Prop := ∃ a, Own w base v a ∧ a.map (·.1) = L
theorem OPc.pcs {w : World} {base : Nat} {v : Value} {L : List Pc} (h : OPc w base v L) : Pcs w v L := by
  obtain ⟨a, h, rfl⟩ := h; exact h.pcs
def zFl : Value := .agg #[.int .i64 0, .slice none 0 0]
def WrPost (f : Fl) (off : Int) (b : List UInt8) (w : World) (e : Ending) (w' : World) : Prop :=
  Kept w w' ∧ ((mayB f = false ∨ off < 0) → e = .returned (.tuple #[.agg #[.int .i64 0, .slice none 0 0], .slice none 0 0, .int .i64 1])) ∧
    (mayB f = true → 0 ≤ off → 463488 < off + b.length → e = .returned (.tuple #[.agg #[.int .i64 0, .slice none 0 0], .slice none 0 0, .int .i64 16])) ∧
    (mayB f = true → 0 ≤ off → off + b.length ≤ 463488 → ∃ vl u, e = .returned (.tuple #[.agg #[.int .i64 (wrF f off b).size, vl], u, .int .i64 0]) ∧ OPc w' w.heap.size vl (wrF f off b).L ∧ Ints w' u (wrL off b))
set_option maxHeartbeats 4000000 in
theorem write_no (f : Fl) (off : Int) (b : List UInt8) (v vb : Value) (w : World) (h : Sp w v f) (hb : Byts w vb b) (hno : mayB f = false ∨ off < 0 ∨ 463488 < off + b.length) : Calls Tryd.prog 8 #[v, .int .i64 off, vb] w (WrPost f off b w) := by
  have HM := hid (fun (w' : World) (k : Kept w w') => may_any f v w' (k.sp h))
  have HMB := hid (mayB_iff (f := f))
  obtain ⟨vl, rfl, hP⟩ := h
  obtain ⟨A, c, rfl⟩ := hP.shape
  obtain ⟨A', c', rfl⟩ := hb.shape
  obtain ⟨-, hb1, hb2, -, -⟩ := hb.open_
  obtain ⟨s, L⟩ := f
  dsimp only at *
  clear hP hb HMB
  generalize L.length = m at *
  obtain ⟨q, hq⟩ : ∃ q, b.length = q := ⟨_, rfl⟩
  have HPO := hid (show ∀ w' k, Kept w w' → ((mayB ⟨s, L⟩ = false ∨ off < 0) → k = 1) → (mayB ⟨s, L⟩ = true → 0 ≤ off → 463488 < off + b.length → k = 16) → WrPost ⟨s, L⟩ off b w (.returned (.tuple #[.agg #[.int .i64 0, .slice none 0 0], .slice none 0 0, .int .i64 k])) w' from fun w' k hk h1 h2 =>
    ⟨hk, fun h => by rw [h1 h], fun a1 a2 a3 => by rw [h2 a1 a2 a3], fun a1 a2 a3 => by
      rcases hno with h | h | h
      · rw [h] at a1; cases a1
      · omega
      · omega⟩)
  rw [hq] at HPO hno hb1 ⊢
  clear hq
  generalize mayB ⟨s, L⟩ = mb at *
  cases mb with
  | false =>
    go_enter Tryd.func8, Tryd.ntmps8
    go_wp2_with (
      (go_at_call 22; (with_reducible refine (HM.out _ ?_).mono ?_); exact (by repeat (first | exact Kept.refl _ | assumption | refine Kept.alloc ?_ _ | refine Kept.drew ?_ | refine Kept.drewN ?_ _ | refine Kept.setCell ?_ (by simp; try omega) _ | refine Kept.trans ?_ (by assumption))); rintro e w1 ⟨rfl, k1⟩; have d0 := k1.keeps (b := w.heap.size) (o := 0) (s := none) (v := .int .i64 s) (by simp [go_sem]); have d1 := k1.keeps (b := w.heap.size) (o := 1) (s := none) (v := .slice A m c) (by simp [go_sem]); have r0 := k1.keeps (b := w.heap.size + 1) (o := 0) (s := none) (v := .int .i64 0) (by simp [go_sem]); have r1 := k1.keeps (b := w.heap.size + 1) (o := 1) (s := none) (v := .slice none 0 0) (by simp [go_sem]); have q0 := k1.free (b := w.heap.size + 1) (o := 0) (s := none) (v := .int .i64 0) (by simp [go_sem]) (by simp [go_sem]); have q1 := k1.free (b := w.heap.size + 1) (o := 1) (s := none) (v := .slice none 0 0) (by simp [go_sem]) (by simp [go_sem]))
      )
    refine bodyPost_ret (v := .tuple #[.agg #[.int .i64 0, .slice none 0 0], .slice none 0 0, .int .i64 1]) (by simp [results, Tryd.results8, go_sem, r0, r1]) rfl (HPO.out _ _ ?_ (fun _ => rfl) (fun h => by cases h))
    exact (by repeat (first | exact Kept.refl _ | assumption | refine Kept.alloc ?_ _ | refine Kept.drew ?_ | refine Kept.drewN ?_ _ | refine Kept.setCell ?_ (by simp; try omega) _ | refine Kept.trans ?_ (by assumption)))
  | true =>
    by_cases ho : off < 0
    · go_enter Tryd.func8, Tryd.ntmps8
      go_wp2_with (
        (go_at_call 22; (with_reducible refine (HM.out _ ?_).mono ?_); exact (by repeat (first | exact Kept.refl _ | assumption | refine Kept.alloc ?_ _ | refine Kept.drew ?_ | refine Kept.drewN ?_ _ | refine Kept.setCell ?_ (by simp; try omega) _ | refine Kept.trans ?_ (by assumption))); rintro e w1 ⟨rfl, k1⟩; have d0 := k1.keeps (b := w.heap.size) (o := 0) (s := none) (v := .int .i64 s) (by simp [go_sem]); have d1 := k1.keeps (b := w.heap.size) (o := 1) (s := none) (v := .slice A m c) (by simp [go_sem]); have r0 := k1.keeps (b := w.heap.size + 1) (o := 0) (s := none) (v := .int .i64 0) (by simp [go_sem]); have r1 := k1.keeps (b := w.heap.size + 1) (o := 1) (s := none) (v := .slice none 0 0) (by simp [go_sem]); have q0 := k1.free (b := w.heap.size + 1) (o := 0) (s := none) (v := .int .i64 0) (by simp [go_sem]) (by simp [go_sem]); have q1 := k1.free (b := w.heap.size + 1) (o := 1) (s := none) (v := .slice none 0 0) (by simp [go_sem]) (by simp [go_sem]))
        )
      refine bodyPost_ret (v := .tuple #[.agg #[.int .i64 0, .slice none 0 0], .slice none 0 0, .int .i64 1]) (by simp [results, Tryd.results8, go_sem, r0, r1]) rfl (HPO.out _ _ ?_ (fun _ => rfl) (fun _ h => by omega))
      exact (by repeat (first | exact Kept.refl _ | assumption | refine Kept.alloc ?_ _ | refine Kept.drew ?_ | refine Kept.drewN ?_ _ | refine Kept.setCell ?_ (by simp; try omega) _ | refine Kept.trans ?_ (by assumption)))
    · have hbig : 463488 < off + q := by
        rcases hno with h | h | h
        · cases h
        · exact absurd h ho
        · exact h
      clear hno
      by_cases hq2 : 463488 < (q : Int)
      · go_enter Tryd.func8, Tryd.ntmps8
        go_wp2_with (
          (go_at_call 22; (with_reducible refine (HM.out _ ?_).mono ?_); exact (by repeat (first | exact Kept.refl _ | assumption | refine Kept.alloc ?_ _ | refine Kept.drew ?_ | refine Kept.drewN ?_ _ | refine Kept.setCell ?_ (by simp; try omega) _ | refine Kept.trans ?_ (by assumption))); rintro e w1 ⟨rfl, k1⟩; have d0 := k1.keeps (b := w.heap.size) (o := 0) (s := none) (v := .int .i64 s) (by simp [go_sem]); have d1 := k1.keeps (b := w.heap.size) (o := 1) (s := none) (v := .slice A m c) (by simp [go_sem]); have r0 := k1.keeps (b := w.heap.size + 1) (o := 0) (s := none) (v := .int .i64 0) (by simp [go_sem]); have r1 := k1.keeps (b := w.heap.size + 1) (o := 1) (s := none) (v := .slice none 0 0) (by simp [go_sem]); have q0 := k1.free (b := w.heap.size + 1) (o := 0) (s := none) (v := .int .i64 0) (by simp [go_sem]) (by simp [go_sem]); have q1 := k1.free (b := w.heap.size + 1) (o := 1) (s := none) (v := .slice none 0 0) (by simp [go_sem]) (by simp [go_sem]))
          )
        refine bodyPost_ret (v := .tuple #[.agg #[.int .i64 0, .slice none 0 0], .slice none 0 0, .int .i64 16]) (by simp [results, Tryd.results8, go_sem, r0, r1]) rfl (HPO.out _ _ ?_ (fun h => ?_) (fun _ _ _ => rfl))
        · exact (by repeat (first | exact Kept.refl _ | assumption | refine Kept.alloc ?_ _ | refine Kept.drew ?_ | refine Kept.drewN ?_ _ | refine Kept.setCell ?_ (by simp; try omega) _ | refine Kept.trans ?_ (by assumption)))
        · rcases h with h | h
          · cases h
          · omega
      · have hq3 : 463488 - (q : Int) < off := by omega
        go_enter Tryd.func8, Tryd.ntmps8
        go_wp2_with (
          (go_at_call 22; (with_reducible refine (HM.out _ ?_).mono ?_); exact (by repeat (first | exact Kept.refl _ | assumption | refine Kept.alloc ?_ _ | refine Kept.drew ?_ | refine Kept.drewN ?_ _ | refine Kept.setCell ?_ (by simp; try omega) _ | refine Kept.trans ?_ (by assumption))); rintro e w1 ⟨rfl, k1⟩; have d0 := k1.keeps (b := w.heap.size) (o := 0) (s := none) (v := .int .i64 s) (by simp [go_sem]); have d1 := k1.keeps (b := w.heap.size) (o := 1) (s := none) (v := .slice A m c) (by simp [go_sem]); have r0 := k1.keeps (b := w.heap.size + 1) (o := 0) (s := none) (v := .int .i64 0) (by simp [go_sem]); have r1 := k1.keeps (b := w.heap.size + 1) (o := 1) (s := none) (v := .slice none 0 0) (by simp [go_sem]); have q0 := k1.free (b := w.heap.size + 1) (o := 0) (s := none) (v := .int .i64 0) (by simp [go_sem]) (by simp [go_sem]); have q1 := k1.free (b := w.heap.size + 1) (o := 1) (s := none) (v := .slice none 0 0) (by simp [go_sem]) (by simp [go_sem]))
          )
        refine bodyPost_ret (v := .tuple #[.agg #[.int .i64 0, .slice none 0 0], .slice none 0 0, .int .i64 16]) (by simp [results, Tryd.results8, go_sem, r0, r1]) rfl (HPO.out _ _ ?_ (fun h => ?_) (fun _ _ _ => rfl))
        · exact (by repeat (first | exact Kept.refl _ | assumption | refine Kept.alloc ?_ _ | refine Kept.drew ?_ | refine Kept.drewN ?_ _ | refine Kept.setCell ?_ (by simp; try omega) _ | refine Kept.trans ?_ (by assumption)))
        · rcases h with h | h
          · cases h
          · omega
end Go.Proofs.YtiiogglflpladaaDoor
