/- The device: Waits. -/
import Derived.Test.Ytpbmkokjjcdhfaa4R
namespace Go.Proofs.Ytpbmkokjjcdhfaa
set_option linter.unusedSimpArgs false
set_option linter.unusedVariables false
open Go.RowKit

theorem wpList_boxW2 {ops : Array Oper} {rest : List Oper} {o1 o3 : Oper} {a : Act} {w : World} {Q : Exit → Act → World → Prop} (hg1 : o1.guard = none) (hg3 : o3.guard = none) (h1 : o1.op = .alloc 67)
    (p x : Operand) (h3 : o3.op = .store 67 p x)
    (hp : (a.put o1.dst (.pointer (some ⟨w.heap.size, 0, none⟩))).eval p = .pointer (some ⟨w.heap.size, 0, none⟩))
    (i : Int) (l : List UInt8) (hl : l.length = 128) (hx : (a.put o1.dst (.pointer (some ⟨w.heap.size, 0, none⟩))).eval x = .agg (wcells i l).toArray)
    (h : wpList Try.prog ops Q rest ((a.put o1.dst (.pointer (some ⟨w.heap.size, 0, none⟩))).put o3.dst undef) (w.alloc (.cells (wcells i l).toArray 67))) : wpList Try.prog ops Q (o1 :: o3 :: rest) a w := by
  have hwl := wcells_len i l hl
  refine wpList_plain hg1 fun K hK => ?_
  unfold Oper.wp execOp
  simp only [h1, Instr.alloc, Sem.run_bind, Sem.run_pure, Result.andThen_ok, zero_write, newVar, newRow]
  refine hK _ (w.alloc (.cells zeroW 67)) ?_
  have hb : (w.alloc (.cells zeroW 67)).heap[w.heap.size]? = some (.cells zeroW 67 (0, 0)) := heap_alloc_new w _
  have hzs := zeroW_size
  refine wpList_store_mid hg3 67 p x h3 w.heap.size 0 (wcells i l).toArray hp hx ?_ ?_ (all_oneCell_toArray (wcells_one i l)) ?_
  · intro j hj
    have hj' : j < 129 := by simpa [hwl] using hj
    rw [Nat.zero_add]
    refine ⟨?_, frozen_heap hb⟩
    rw [cell_of_row _ _ _ _ _ _ hb, Array.getElem?_eq_getElem (by omega)]; rfl
  · rw [info_size_write]; simp [hwl]
  · rw [alloc_fill _ _ _ _ (by rw [hzs]; simp [hwl])]
    exact h
theorem info_int4 : (Try.prog.info? 3).map (fun i => (i.zero, i.size, i.bytes)) = some (some (.int .i64 0), 1, 8) := by kernel_rfl
def waitL (S : DS) : List Int := S.pend.map fun p => (p.1 : Int)
theorem waitL_succ (S : DS) (k : Nat) (hk : k < S.pend.length) : (waitL S).take (k + 1) = (waitL S).take k ++ [((S.pend[k]).1 : Int)] := by
  rw [List.take_add_one, waitL, List.getElem?_map, List.getElem?_eq_getElem hk]; rfl
theorem make_waits (N : Nat) (hN : N ≤ 1000) (w : World) : ∃ cur, cur.size = N ∧ (Instr.makeSlice 23 (.int .i64 0) (.int .i64 (N : Int))).run Try.prog w =
    .ok (.slice (some ⟨w.heap.size, 0, none⟩) 0 N) (w.alloc (.cells cur 3)) := by
  obtain ⟨i, hi, hz, hsize, hbytes⟩ := info_parts info_int4
  have := run_makeSlice (P := Try.prog) w 23 3 i _ Try.underlying23 hi hz .i64 .i64 0 (N : Int) (by omega) (by omega) (by rw [hsize]; simp; omega) (by rw [hbytes]; omega) (by omega)
  refine ⟨madeCells (Value.int .i64 0).cells (N * 1), by rw [size_madeCells]; omega, ?_⟩
  rw [this, hsize]
  simp
section
variable {w : World} {B : Nat} {h : DH} {S : DS}
set_option maxRecDepth 100000 in
set_option maxHeartbeats 4000000 in
theorem waits_any (w : World) (d : DevAt w B h S) (hpl : S.pend.length ≤ 1000) :
    Calls Try.prog 21 #[.pointer (some ⟨h.P, 0, none⟩)] w fun e w' => ∃ v, e = .returned v ∧ Ints w' v (waitL S) ∧ Kept w w' := by
  obtain ⟨Av, cv, hvp⟩ := ownsRow_shape d.hp
  have c1 := d.c1
  have hvl : S.pend.length ≤ cv := by
    rcases d.hp.2 with ⟨hv, h0⟩ | ⟨g, cap, cur, hv, _, _, hnc, _⟩
    · rw [hvp] at hv; injection hv with _ _ e; omega
    · rw [hvp] at hv; injection hv with _ _ e; omega
  rw [hvp] at c1
  have HD := hid d
  have HVP := hid hvp
  obtain ⟨np, hnp⟩ : ∃ np, np = S.pend.length := ⟨_, rfl⟩
  rw [← hnp] at c1 hvl hpl
  have HNP := hid hnp
  obtain ⟨cur, hcs, hmk⟩ := make_waits np hpl w
  have HCS := hid hcs
  clear hnp d hvp hcs
  obtain ⟨P, hP⟩ : ∃ P, P = h.P := ⟨_, rfl⟩
  rw [← hP] at c1 ⊢
  have HPh := hid hP
  clear hP
  have c1n : (w.alloc (.cells cur 3)).cell? ⟨P, 1, none⟩ = some (.slice Av np cv) := ((Kept.refl w).alloc _).keeps c1
  go_enter Try.func21, Try.ntmps21
  go_wp2_with (simp only [hmk])
  go_loopw [3, 17] (fun v t wr => ∃ k : Nat, k ≤ np ∧ t = .int .i64 k ∧ wr.ownsRow w.heap.size 3 1 v k (((waitL S).take k).map (Value.int .i64)) ∧ Kept w wr) (fun _ t _ => np - (intOf t).toNat)
  case atStart => exact ⟨0, by omega, rfl, World.ownsRow_made w cur np (Nat.le_refl _) (by unfold maxLen; omega) (by rw [HCS.out]; omega), (Kept.refl w).alloc _⟩
  case round =>
    obtain ⟨k, hk, rfl, hown, hkr⟩ := hrel
    have HOW := hid hown; have HK := hid hkr
    clear hown hkr
    by_cases hlt : k < np
    · have hkl : k < S.pend.length := by rw [← HNP.out]; exact hlt
      have hdk := HK.out.dev HD.out
      obtain ⟨g, cw, hg1, hg2, hg3, hgr⟩ := hdk.pendW k hkl
      rw [HVP.out, ← HNP.out] at hg1
      injection hg1 with eA _ ec
      subst eA; subst ec
      have hps := HD.out.ok.pend _ (List.getElem_mem hkl)
      have HSU := hid (waitL_succ S k hkl)
      have HGR := hid hgr
      generalize hpk : S.pend[k] = pk at *
      obtain ⟨at', l⟩ := pk
      dsimp only at hps HSU HGR
      clear hpk hgr hg2 hg3 hdk
      obtain ⟨-, hll⟩ := hps
      have hwl := wcells_len (at' : Int) l hll
      have b0 : (wr.alloc (.cells (wcells (at' : Int) l).toArray 67)).cell? ⟨wr.heap.size, 0, none⟩ = some (.int .i64 at') := by
        rw [cell_of_row _ _ _ _ _ _ (heap_alloc_new wr _)]; simp [wcells]
      have q0 : (0 : Int) ≤ (k : Int) := by omega
      have q1 : (k : Int) < (np : Int) := by omega
      go_wp2_with (first
        | ((with_reducible refine wpList_loadW ?_ (.tmp 19) ?_ g (k * 129) ?_ (at' : Int) l hll HGR.out ?_); (focus rfl); (focus rfl); (focus rfl))
        | ((with_reducible refine wpList_boxW2 ?_ ?_ ?_ (.tmp 5) (.tmp 20) ?_ ?_ (at' : Int) l hll ?_ ?_); (focus rfl); (focus rfl); (focus rfl); (focus rfl); (focus rfl); (focus rfl))
        | (at_builtin; (refine wpList_push (W := w) rfl (.tmp 21) (.tmp 24) 23 rfl 3 (.int .i64 0) 1 8 Try.underlying23 info_int4 rfl (by decide) (by decide) _ k _ [.int .i64 at'] 1 rfl (HOW.out.alloc _) (by simp [go_sem]) rfl (by simp [Value.oneCell']) (by omega) (HK.out.alloc _) ?_); intro v' w' hown' hk'; have HOW' := hid hown'; have HK' := hid hk'; clear hown' hk'))
      go_roundw
      case rel => exact ⟨k + 1, by omega, by go_num, by rw [HSU.out, List.map_append]; exact HOW'.out, HK'.out⟩
      case measure => simp [intOf]; omega
    · obtain rfl : k = np := by omega
      go_wp2
      go_ret
      have hl : (waitL S).take k = waitL S := List.take_of_length_le (by rw [waitL, List.length_map, HNP.out]; exact Nat.le_refl _)
      refine ⟨_, rfl, ?_, HK.out⟩
      have := HOW.out
      rw [hl] at this
      exact (ints_own this).1
end
end Go.Proofs.Ytpbmkokjjcdhfaa
