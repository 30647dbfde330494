/- sparse.Write: what may be written. -/
import Derived.Test.YtiiogglflpladaaDoor19K
namespace Go.Proofs.YtiiogglflpladaaDoor
set_option linter.unusedSimpArgs false
set_option linter.unusedVariables false
open Go.RowKit

theorem CB.low {w : World} {g : Nat} {t : TypeId} {cs : List Value} (h : CB w g t cs) {p : Addr} (hp : p.block < g) (u : Value) : CB (w.setCell p u) g t cs := h.far (by omega) u
theorem row_low {w : World} {base : Nat} {e : TypeId} {size n : Nat} {v : Value} {xs : List Value} (h : w.ownsRow base e size v n xs) {p : Addr} (hp : p.block < base) (u : Value) : (w.setCell p u).ownsRow base e size v n xs := by
  refine ⟨h.1, ?_⟩
  rcases h.2 with hn | ⟨g, cap, cur, rfl, hb, hgg, rest⟩
  · exact .inl hn
  · exact .inr ⟨g, cap, cur, rfl, hb, (Below.heap_setCell _ _ _ _ (by omega)).trans hgg, rest⟩
theorem Own.setLow {w : World} {base : Nat} {v : Value} {a : List (Pc × Nat)} (h : Own w base v a) {p : Addr} (hp : p.block < base) (u : Value) : Own (w.setCell p u) base v a :=
  ⟨row_low h.row hp u, fun q hq => ⟨(h.blk q hq).1, (h.blk q hq).2.1, CB.low (h.blk q hq).2.2 (Nat.lt_of_lt_of_le hp (h.blk q hq).1) u⟩⟩
theorem OPc.setLow {w : World} {base : Nat} {v : Value} {L : List Pc} (h : OPc w base v L) {p : Addr} (hp : p.block < base) (u : Value) : OPc (w.setCell p u) base v L := by
  obtain ⟨a, h, e⟩ := h; exact ⟨a, h.setLow hp u, e⟩
set_option maxHeartbeats 4000000 in
theorem write_empty (f : Fl) (off : Int) (v vb : Value) (w : World) (h : Sp w v f) (hb : Byts w vb []) (hv : Valid f) (ho : 0 ≤ off) (ho2 : off ≤ 463488) : Calls Tryd.prog 8 #[v, .int .i64 off, vb] w (WrPost f off [] w) := by
  have HM := hid (fun (w' : World) (k : Kept w w') => may_any f v w' (k.sp h))
  rw [mayB_t hv] at HM
  obtain ⟨vl, rfl, hP⟩ := h
  obtain ⟨A, c, rfl⟩ := hP.shape
  obtain ⟨A', c', rfl⟩ := hb.shape
  obtain ⟨-, hb1, hb2, -, -⟩ := hb.open_
  obtain ⟨s, L⟩ := f
  dsimp only at *
  have HCL := hid (fun (w' : World) (k : Kept w w') => clones_any L _ w' (k.pcs hP) (by have := hv.len; dsimp only at this; omega) (fun p hp => (hv.pc p hp).2.2.1))
  have HPO := hid (show ∀ w' u, Kept w w' → OPc w' w.heap.size u L → WrPost ⟨s, L⟩ off [] w (.returned (.tuple #[.agg #[.int .i64 s, u], .slice none 0 0, .int .i64 0])) w' from fun w' u hk hu =>
    ⟨hk, fun h => (by
      rcases h with h | h
      · rw [mayB_t hv] at h; cases h
      · omega), fun _ _ h => (by simp at h; omega), fun _ _ _ => ⟨_, _, rfl, hu, ints_nil _⟩⟩)
  generalize L.length = m at *
  simp only [List.length_nil] at *
  clear hP hb hv
  have hd1 : decide (off < 0) = false := by simp; omega
  have hd2 : decide (463488 - (0 : Int) < off) = false := by simp; omega
  have hd3 : decide (463488 < off) = false := by simp; omega
  go_enter Tryd.func8, Tryd.ntmps8
  go_wp2_with (
    (go_at_call 22; (with_reducible refine (HM.out _ ?_).mono ?_); exact (by repeat (first | exact Kept.refl _ | assumption | refine Kept.alloc ?_ _ | refine Kept.drew ?_ | refine Kept.drewN ?_ _ | refine Kept.setCell ?_ (by simp; try omega) _ | refine Kept.trans ?_ (by assumption))); rintro e w1 ⟨rfl, k1⟩; have d0 := k1.keeps (b := w.heap.size) (o := 0) (s := none) (v := .int .i64 s) (by simp [go_sem]); have d1 := k1.keeps (b := w.heap.size) (o := 1) (s := none) (v := .slice A m c) (by simp [go_sem]); have r0 := k1.keeps (b := w.heap.size + 1) (o := 0) (s := none) (v := .int .i64 0) (by simp [go_sem]); have r1 := k1.keeps (b := w.heap.size + 1) (o := 1) (s := none) (v := .slice none 0 0) (by simp [go_sem]); have q0 := k1.free (b := w.heap.size + 1) (o := 0) (s := none) (v := .int .i64 0) (by simp [go_sem]) (by simp [go_sem]); have q1 := k1.free (b := w.heap.size + 1) (o := 1) (s := none) (v := .slice none 0 0) (by simp [go_sem]) (by simp [go_sem]))
    )
  have K1 := hid (show Kept w w1 from (by repeat (first | exact Kept.refl _ | assumption | refine Kept.alloc ?_ _ | refine Kept.drew ?_ | refine Kept.drewN ?_ _ | refine Kept.setCell ?_ (by simp; try omega) _ | refine Kept.trans ?_ (by assumption))))
  go_region_held3 (fun w' => w'.cell? ⟨w.heap.size, 0, none⟩ = some (.int .i64 s) ∧ w'.cell? ⟨w.heap.size, 1, none⟩ = some (.slice A m c))
    (first | exact ⟨d0, d1⟩ | exact ⟨by assumption, by assumption⟩ | (go_split_ands; exact ⟨by assumption, by assumption⟩) | exact ⟨by simp [go_sem, *], by simp [go_sem, *]⟩)
    (first
    | (go_at_call 23; (with_reducible refine (HCL.out _ ?_).mono ?_); (focus exact K1.out.drew); rintro e w2 ⟨u, a, rfl, hown, hmap, k2, -⟩; have g0 := k2.keeps (b := w.heap.size) (o := 0) (s := none) d0; have g1 := k2.keeps (b := w.heap.size) (o := 1) (s := none) d1; have t0 := k2.keeps (b := w.heap.size + 1) (o := 0) (s := none) r0; have t1 := k2.keeps (b := w.heap.size + 1) (o := 1) (s := none) r1; have p0 := k2.free (b := w.heap.size + 1) (o := 0) (s := none) r0 q0; have p1 := k2.free (b := w.heap.size + 1) (o := 1) (s := none) r1 q1; obtain ⟨A3, c3, rfl⟩ := ownsRow_shape hown.row; have HOW := hid hown; have HMAP := hid hmap; have K2 := hid (K1.out.drew.trans k2); clear k2 hown hmap))
  have hlt : w.heap.size + 1 < w1.heap.size := cell_lt r0
  all_goals (
    go_wp2_with fail
    refine bodyPost_ret (v := .tuple #[.agg #[.int .i64 s, .slice A3 a.length c3], .slice none 0 0, .int .i64 0]) (by simp [results, Tryd.results8, go_sem, t0, t1]) rfl (HPO.out _ _ ((K2.out.setCell (by simp) _).setCell (by simp) _) ?_)
    exact ⟨a, ((HOW.out.setLow (p := ⟨w.heap.size + 1, 0, none⟩) hlt (.int .i64 s)).setLow (p := ⟨w.heap.size + 1, 1, none⟩) hlt (.slice A3 a.length c3)).low K1.out.size, HMAP.out⟩)
end Go.Proofs.YtiiogglflpladaaDoor
