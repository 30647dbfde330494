/- worksNodes, in the seat of HaymowNames. -/
import Derived.Test.YtiiogglflpladaaDoorNG
import Derived.Test.YtiiogglflpladaaDoorSame
import Derived.Test.YtiiogglflpladaaDoor8Reach
set_option linter.unusedSimpArgs false
set_option linter.unusedVariables false
namespace Go.Proofs.YtiiogglflpladaaDoor
open Go.RowKit
theorem zero_ok : PtrOk (0, 0) := ⟨by decide, by decide, fun _ => rfl⟩
theorem info_ptr : (Tryd.prog.info? 103).map (fun i => (i.zero, i.size, i.bytes)) = some (some (.agg #[.int .i64 0, .int .u32 0]), 2, 16) := by kernel_rfl
theorem zeros15 : madeCells (Value.agg #[.int .i64 0, .int .u32 0]).cells (15 * 2) = ((List.replicate 15 [Value.int .i64 0, Value.int .u32 0]).flatten).toArray := by kernel_rfl
theorem make_ptrs (w : World) : (Instr.makeSlice 72 (.int .i64 15) (.int .i64 15)).run Tryd.prog w =
    .ok (.slice (some ⟨w.heap.size, 0, none⟩) 15 15) (w.alloc (.cells ((List.replicate 15 [Value.int .i64 0, Value.int .u32 0]).flatten).toArray 103)) := by
  obtain ⟨i, hi, hz, hsize, hbytes⟩ := info_parts info_ptr
  have := run_makeSlice (P := Tryd.prog) w 72 103 i _ Tryd.underlying72 hi hz .i64 .i64 15 15 (by omega) (by omega) (by rw [hsize]; simp) (by rw [hbytes]; omega) (by omega)
  rw [this, hsize, ← zeros15]
  rfl
theorem zeros_ptrs (w : World) : Ptrs (w.alloc (.cells ((List.replicate 15 [Value.int .i64 0, Value.int .u32 0]).flatten).toArray 103)) (.slice (some ⟨w.heap.size, 0, none⟩) 15 15) (List.replicate 15 (0, 0)) := by
  refine ⟨_, 15, by simp, by simp, by omega, fun _ => ⟨w.heap.size, 0, rfl, fun i p hp => ?_⟩⟩
  have hi : i < 15 := by simpa using (List.getElem?_eq_some_iff.1 hp).1
  have hp0 : p = (0, 0) := by
    rw [List.getElem?_replicate, if_pos hi] at hp; cases hp; rfl
  subst hp0
  have hcb := cb_new w 103 ((List.replicate 15 [Value.int .i64 0, Value.int .u32 0]).flatten)
  have hl : ((List.replicate 15 [Value.int .i64 0, Value.int .u32 0]).flatten).length = 30 := by decide
  have a1 : ∀ i, i < 15 → ((List.replicate 15 [Value.int .i64 0, Value.int .u32 0]).flatten)[i * 2]? = some (.int .i64 0) ∧ ((List.replicate 15 [Value.int .i64 0, Value.int .u32 0]).flatten)[i * 2 + 1]? = some (.int .u32 0) := by
    intro i hi
    have : i = 0 ∨ i = 1 ∨ i = 2 ∨ i = 3 ∨ i = 4 ∨ i = 5 ∨ i = 6 ∨ i = 7 ∨ i = 8 ∨ i = 9 ∨ i = 10 ∨ i = 11 ∨ i = 12 ∨ i = 13 ∨ i = 14 := by omega
    rcases this with rfl | rfl | rfl | rfl | rfl | rfl | rfl | rfl | rfl | rfl | rfl | rfl | rfl | rfl | rfl <;> exact ⟨rfl, rfl⟩
  have b1 := hcb.cell (i * 2) (by omega)
  have b2 := hcb.cell (i * 2 + 1) (by omega)
  obtain ⟨c1, c2⟩ := a1 i hi
  rw [List.getElem?_eq_getElem (by omega)] at c1 c2
  rw [Nat.zero_add, b1, b2]
  exact ⟨c1, c2⟩
theorem path6 : pathOf 6 = [6, 0] := by decide
set_option maxRecDepth 100000 in
set_option maxHeartbeats 2000000 in
theorem works_any (w : World) (ht : Tab w) (hT : HTab w) : Calls Tryd.prog 14 #[] w fun e w' => e = .returned (.bool true) ∧ Kept w w' := by
  have HT := hid ht; have HH := hid hT
  have HZ := hid zeros_ptrs
  have hmk := make_ptrs
  generalize ((List.replicate 15 [Value.int .i64 0, Value.int .u32 0]).flatten).toArray = Z at *
  clear ht hT
  go_enter Tryd.func14, Tryd.ntmps14
  go_wp2_with (first
    | (go_at_call 28; (with_reducible refine (path_any 6 (by omega) (by omega) _ (HT.out)).mono ?_); rintro e w1 ⟨v1, rfl, hi, k1⟩; have I1 := hid (show Ints w1 v1 [6, 0] from path6 ▸ hi); have K1 := hid k1; clear hi k1)
    | (go_at_call 29; (with_reducible refine (inode_node _ (List.replicate 15 (0, 0)) _ (by simp) ((K1.out.alloc _).htab HH.out) (by simp [zero_ok]) (HZ.out w1)).mono ?_); rintro e w2 ⟨g, rfl, ob, hg, k2⟩; have OB := hid ob; have K2 := hid ((K1.out.alloc _).trans k2); have K12 := hid (((Kept.refl w1).alloc (.cells Z 103)).trans k2); clear ob hg k2)
    | (go_at_call 30; (with_reducible refine (same_t v1 _ [6, 0] [6, 0] _ (Kept.ints ?_ I1.out) ?_ rfl).mono ?_); (focus exact K12.out.alloc _); (focus (refine ints_cells (by simp) (by omega) (by omega) fun i hi => ?_; match i, hi with | 0, _ => simp [go_sem] | 1, _ => simp [go_sem])); rintro e w3 ⟨rfl, k3⟩; have K3 := hid ((K2.out.alloc _).trans k3); have K23 := hid (((Kept.refl w2).alloc _).trans k3); clear k3)
    | (go_at_call 31; (with_reducible refine (held_yes _ (packL (numsOf (List.replicate 15 (0, 0)))) ?_ _ ?_ ?_).mono ?_); (focus decide +kernel); (focus exact K3.out.htab HH.out); (focus exact byts_mk (by decide +kernel) (by omega) (by omega) (K23.out.oblk OB.out).range); rintro e w4 ⟨rfl, k4⟩; have K4 := hid (K3.out.trans k4); clear k4))
  go_ret
  exact ⟨rfl, K4.out⟩
end Go.Proofs.YtiiogglflpladaaDoor
