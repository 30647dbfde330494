/- haymowlaw19: awake. -/
import Derived.Test.Ytfkmhdnapmicdaa19AC
import Derived.Test.YtfkmhdnapmicdaaSame
import Derived.Lib.SlBytesConst
namespace Go.Proofs.Ytfkmhdnapmicdaa
set_option linter.unusedSimpArgs false
set_option linter.unusedVariables false
open Go.RowKit

theorem ints_lit1 (w : World) (x : Int) (g : Nat) (hg : w.heap.size = g) : Ints (w.alloc (.cells #[.int .i64 x] 3)) (.slice (some ⟨g, 0, none⟩) 1 1) [x] := by
  subst hg
  refine ints_cells (L := [x]) rfl (by decide) (by decide) (fun i hi => ?_)
  obtain rfl : i = 0 := by omega
  simp [go_sem]
theorem byts_lit (w : World) (l : List UInt8) (n g : Nat) (t : TypeId) (fr : Nat × Nat) (hl : l.length = n) (hn : n ≤ 1000) (hg : w.heap.size = g) : Byts (w.alloc (.cells (bcells l).toArray t fr)) (.slice (some ⟨g, 0, none⟩) n n) l := by
  subst hg
  refine byts_mk hl (Nat.le_refl _) (by omega) (fun j v hv => ?_)
  have hb : (w.alloc (.cells (bcells l).toArray t fr)).heap[w.heap.size]? = some (.cells (bcells l).toArray t fr) := heap_alloc_new w _
  simp only [Nat.zero_add, World.cell?, hb]
  simpa using hv
set_option maxRecDepth 100000 in
set_option maxHeartbeats 4000000 in
theorem awake_any (w : World) : Calls Try.prog 15 #[] w fun e w' => e = .returned (.bool true) ∧ Kept w w' := by
  have HW1 := hid (fun v vb w h hb => write_to 200 ⟨0, []⟩ 200 [97, 98] v vb w h hb (by rfl) zero_valid (by decide) x1 rfl 202 x1_s 1 x1_n [1] x1_w 1 rfl)
  have HR1 := hid (fun v w h => read_to 0 3 x1 0 3 v w h (by rfl) (by rfl) x1_ok (by decide) (by decide) [0, 0, 0] x1_r 3 rfl)
  obtain ⟨n2, hn2⟩ : ∃ n2, x2.L.length = n2 := ⟨_, rfl⟩
  obtain ⟨q2, hq2⟩ : ∃ q2, (cutW x1 (201 : Nat)).length = q2 := ⟨_, rfl⟩
  have HC := hid (fun v w h => cut_to 201 x1 201 v w h (by rfl) x1_ok (by decide) x2 rfl 201 x2_s n2 hn2 _ rfl q2 hq2)
  have HR2 := hid (fun v w h => read_to 199 9 x2 199 9 v w h (by rfl) (by rfl) x2_ok (by decide) (by decide) [0, 97] x2_r 2 rfl)
  have HW2 := hid (fun v vb w h hb => write_big x1 463488 [120] v vb w h hb x1_ok (by decide) (by decide))
  have HS1 := hid x1_s; have HS2 := hid x2_s
  have HZ := hid (show ∀ w : World, Sp w (.agg #[.int .i64 0, .slice none 0 0]) ⟨0, []⟩ from fun w => sp_mk (pcs_nil w))
  have HSA := hid (fun (w : World) A c A2 c2 (h : Ints w (.slice A 1 c) [1]) (h2 : Ints w (.slice A2 1 c2) [1]) => same_t _ _ [1] [1] w h h2 rfl)
  clear hn2 hq2
  have kc := fun (w : World) (C : Array Value) (n c : Nat) => Lib.run_convert_bytes_const (P := Try.prog) w 25 5 C n c Try.underlying25 Try.underlying5
  go_enter Try.func15, Try.ntmps15
  go_wp2_with (first
    | (go_at_call 10; (with_reducible refine (HW1.out _ _ _ (HZ.out _) ?_).mono ?_); (focus exact byts_lit _ [97, 98] 2 _ _ _ rfl (by decide) (by simp)); rintro e w1 ⟨A, c, A2, c2, rfl, hP, hI, k1⟩; have HP := hid hP; have HI := hid hI; have K1 := hid (show Kept w w1 from (by repeat (first | exact Kept.refl _ | assumption | refine Kept.alloc ?_ _ | refine Kept.drew ?_ | refine Kept.drewN ?_ _ | refine Kept.setCell ?_ (by simp; try omega) _ | refine Kept.trans ?_ (by assumption)))); have b1 : CB (w1.alloc (.cells #[.int .i64 202, .slice A 1 c] 24)) w1.heap.size 24 [.int .i64 202, .slice A 1 c] := cb_new _ _ _; clear hP hI k1)
    | (go_at_call 20; (with_reducible refine (HR1.out _ _ ?_).mono ?_); (focus exact sp_to HS1.out (Kept.pcs (w := w1) (by repeat (first | exact Kept.refl _ | assumption | refine Kept.alloc ?_ _ | refine Kept.drew ?_ | refine Kept.drewN ?_ _ | refine Kept.setCell ?_ (by simp; try omega) _ | refine Kept.trans ?_ (by assumption))) HP.out)); rintro e w2 ⟨A3, c3, rfl, hB, k2⟩; have HB3 := hid hB; have K2 := hid (show Kept w1 w2 from (by repeat (first | exact Kept.refl _ | assumption | refine Kept.alloc ?_ _ | refine Kept.drew ?_ | refine Kept.drewN ?_ _ | refine Kept.setCell ?_ (by simp; try omega) _ | refine Kept.trans ?_ (by assumption)))); have b2 := k2.cb b1; have m0 := b2.cell 0 (by simp); have m1 := b2.cell 1 (by simp); simp only [List.getElem_cons_zero, List.getElem_cons_succ] at m0 m1; clear hB k2)
    | (go_at_call 18; (with_reducible refine (HC.out _ _ ?_).mono ?_); (focus exact sp_to HS1.out (Kept.pcs (w := w1) K2.out HP.out)); rintro e w3 ⟨A4, c4, A5, c5, rfl, hP4, hI4, k3⟩; have HP4 := hid hP4; have HI4 := hid hI4; have K3 := hid k3; have b3 := k3.cb b2; have b4 : CB (w3.alloc (.cells #[.int .i64 201, .slice A4 n2 c4] 24)) w3.heap.size 24 [.int .i64 201, .slice A4 n2 c4] := cb_new _ _ _; have b5 := ((Kept.refl w3).alloc (.cells #[.int .i64 201, .slice A4 n2 c4] 24)).cb b3; clear hP4 hI4 k3)
    | (go_at_call 20; (with_reducible refine (HR2.out _ _ ?_).mono ?_); (focus exact sp_to HS2.out (Kept.pcs (w := w3) (by repeat (first | exact Kept.refl _ | assumption | refine Kept.alloc ?_ _ | refine Kept.drew ?_ | refine Kept.drewN ?_ _ | refine Kept.setCell ?_ (by simp; try omega) _ | refine Kept.trans ?_ (by assumption))) HP4.out)); rintro e w4 ⟨A6, c6, rfl, hB, k4⟩; have HB6 := hid hB; have K4 := hid (show Kept w3 w4 from (by repeat (first | exact Kept.refl _ | assumption | refine Kept.alloc ?_ _ | refine Kept.drew ?_ | refine Kept.drewN ?_ _ | refine Kept.setCell ?_ (by simp; try omega) _ | refine Kept.trans ?_ (by assumption)))); have b6 := k4.cb b4; have b7 := k4.cb b5; have m2 := b7.cell 0 (by simp); have m3 := b7.cell 1 (by simp); simp only [List.getElem_cons_zero, List.getElem_cons_succ] at m2 m3; clear hB k4)
    | (go_at_call 10; (with_reducible refine (HW2.out _ _ _ ?_ ?_).mono ?_); (focus exact sp_to HS1.out (Kept.pcs (w := w1) (K2.out.trans (K3.out.trans (K4.out.alloc _))) HP.out)); (focus exact byts_lit _ [120] 1 _ _ _ rfl (by decide) (by simp)); rintro e w5 ⟨rfl, k5⟩; have K5 := hid (show Kept w4 w5 from (by repeat (first | exact Kept.refl _ | assumption | refine Kept.alloc ?_ _ | refine Kept.drew ?_ | refine Kept.drewN ?_ _ | refine Kept.setCell ?_ (by simp; try omega) _ | refine Kept.trans ?_ (by assumption)))); have b8 := K5.out.cb b7; have m4 := b8.cell 0 (by simp); have m5 := b8.cell 1 (by simp); simp only [List.getElem_cons_zero, List.getElem_cons_succ] at m4 m5; clear k5)
    | (go_at_call 17; (with_reducible refine (HSA.out _ _ _ _ _ ?_ ?_).mono ?_); (focus exact (K2.out.trans (K3.out.trans ((K4.out.trans K5.out).alloc _ |>.alloc _))).ints HI.out); (focus exact ints_lit1 _ 1 _ (by simp)); rintro e w6 ⟨rfl, k6⟩; have K6 := hid (show Kept w5 w6 from (by repeat (first | exact Kept.refl _ | assumption | refine Kept.alloc ?_ _ | refine Kept.drew ?_ | refine Kept.drewN ?_ _ | refine Kept.setCell ?_ (by simp; try omega) _ | refine Kept.trans ?_ (by assumption)))); have b9 := K6.out.cb b8; have m6 := b9.cell 0 (by simp); have m7 := b9.cell 1 (by simp); simp only [List.getElem_cons_zero, List.getElem_cons_succ] at m6 m7; have g1 := conv_byts ((K3.out.trans (K4.out.trans (K5.out.trans K6.out))).byts HB3.out); have g2 := conv_byts ((K5.out.trans K6.out).byts HB6.out); rw [show bstr [0, 0, 0] = ⟨#[0, 0, 0]⟩ from rfl] at g1; rw [show bstr [0, 97] = ⟨#[0, 97]⟩ from rfl] at g2; clear k6))
  go_ret
  exact ⟨rfl, K1.out.trans (K2.out.trans (K3.out.trans (K4.out.trans (K5.out.trans K6.out))))⟩
end Go.Proofs.Ytfkmhdnapmicdaa
