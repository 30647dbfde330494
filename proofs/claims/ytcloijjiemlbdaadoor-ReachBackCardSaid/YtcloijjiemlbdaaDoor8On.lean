/- haymowref08.On and Numbers: the flags of the nodes on the paths to blocks; which are up. -/
import Derived.Test.YtcloijjiemlbdaaDoor8Nodes
namespace Go.Proofs.YtcloijjiemlbdaaDoor
set_option linter.unusedSimpArgs false
set_option linter.unusedVariables false
open Go.RowKit

set_option maxRecDepth 100000 in
set_option maxHeartbeats 2000000 in
theorem on_all (L : List Int) (v : Value) (w : World) (hL : Ints w v L) (hin : InAll L) : Calls Tryd.prog 25 #[v] w
    fun e w' => e = .returned (.slice (some ⟨w.heap.size, 0, none⟩) 258 258) ∧ Flags w' w.heap.size (onAll L) ∧ Kept w w' := by
  obtain ⟨A, c, rfl⟩ := hL.shape
  obtain ⟨-, hl, hc⟩ := hL.len
  have HI := hid hin; clear hin
  have HL := hid hL; clear hL
  obtain ⟨N, hN⟩ : ∃ N, L.length = N := ⟨_, rfl⟩
  rw [hN] at HL
  rw [hN]
  rw [hN] at hl
  have HN := hid hN; clear hN
  have hN63 : (N : Int) ≤ 9223372036854775807 := by omega
  clear hl hc
  have hmk : ∀ w, (Instr.makeSlice 39 (.int .i64 258) (.int .i64 258)).run Tryd.prog w = .ok (.slice (some ⟨w.heap.size, 0, none⟩) 258 258) (w.alloc (.cells (Array.replicate 258 (.bool false)) 4)) := fun _ => by kernel_rfl
  go_enter Tryd.func25, Tryd.ntmps25
  go_wp2
  go_loopw [4] (fun t wr => ∃ i : Nat, i ≤ N ∧ t = .int .i64 i ∧ Flags wr w.heap.size (onAll (L.take i)) ∧ Kept w wr) (fun t _ => (N - intOf t).toNat)
  case atStart => exact ⟨0, by omega, rfl, (Flags.new w _), (by repeat (first | exact Kept.refl _ | assumption | refine Kept.alloc ?_ _ | refine Kept.drew ?_ | refine Kept.drewN ?_ _ | refine Kept.setCell ?_ (by simp; try omega) _ | refine Kept.trans ?_ (by assumption)))⟩
  case round =>
    obtain ⟨i, hi, rfl, hfl, hk⟩ := hrel
    have HF := hid hfl; clear hfl
    by_cases hlt : i < N
    · obtain ⟨b, o, rfl, hcl⟩ := HL.out.cells (by omega)
      have hci := hk.keeps (hcl i hlt)
      clear hcl
      obtain ⟨n, hn⟩ : ∃ n, L.getD i 0 = n := ⟨_, rfl⟩
      rw [hn] at hci
      have HS := hid (take_snoc_getD L i (by rw [HN.out]; exact hlt)); rw [hn] at HS; clear hn
      obtain ⟨hb0, hb1⟩ := HI.out n (List.mem_of_mem_take (show n ∈ L.take (i + 1) by rw [HS.out]; simp))
      obtain ⟨P, hP⟩ : ∃ P, pathOf n.toNat = P := ⟨_, rfl⟩
      have HP := hid (rpath_yes n hb0 hb1); rw [hP] at HP
      have HQ := hid (path_node n.toNat (by omega)); rw [hP] at HQ
      clear hb0 hb1
      go_wp2_with (first
        | (go_at_call 20; refine (HP.out _).mono ?_; rintro e w2 ⟨b2, o2, m, c2, rfl, g2, k2⟩; have G2 := hid g2; clear g2))
      obtain ⟨hm, hm1, hm2⟩ := G2.out.len
      have hpos : 1 ≤ m := by have := path_len n.toNat; rw [hP, hm] at this; omega
      have HM := hid (And.intro hm hP); clear hm hP
      go_loopw [6] (fun t wr' => ∃ k : Nat, 1 ≤ k ∧ k ≤ m ∧ t = .int .i64 k ∧ Flags wr' w.heap.size (fun j => onUp P k j || onAll (L.take i) j) ∧ Ints wr' (.slice (some ⟨b2, o2, none⟩) m c2) P ∧ Kept w wr') (fun t _ => (m - intOf t).toNat)
      case atStart => exact ⟨1, by omega, by omega, rfl, (k2.flags HF.out).congr fun j _ => by rw [onUp_one]; rfl, G2.out, (by repeat (first | exact Kept.refl _ | assumption | refine Kept.alloc ?_ _ | refine Kept.drew ?_ | refine Kept.drewN ?_ _ | refine Kept.setCell ?_ (by simp; try omega) _ | refine Kept.trans ?_ (by assumption)))⟩
      case round =>
        obtain ⟨k, hk1, hk3, rfl, hfl2, g3, hk4⟩ := hrel
        have G3 := hid g3; clear g3
        have HF2 := hid hfl2; clear hfl2
        by_cases hlt2 : k < m
        · obtain ⟨q, hq, hnum, hnode⟩ := HQ.out k hk1 (by rw [HM.out.1]; exact hlt2)
          have HNUM := hid (rnumber_yes _ _ hnum)
          have HNODE := hid hnode
          clear hnum hnode
          go_wp2_with (first
            | (go_at_call 15; (with_reducible refine (HNUM.out _ _ (Ints.take G3.out k ?_)).mono ?_); omega; rintro e w3 ⟨rfl, k3⟩; have HF3 := hid (Kept.flags k3 HF2.out); have hc3 := HF3.out.cell q hq; have hf3 := HF3.out.frozen q))
          go_roundw
          case rel => exact ⟨k + 1, by omega, by omega, by go_num, (HF3.out.set q).congr fun j hj => by
            show (j == q || (onUp P k j || onAll (L.take i) j)) = _
            rw [onUp_succ P k j hk1, ← Bool.or_assoc]
            congr 2
            by_cases e : j = q
            · subst e; simp [HNODE.out]
            · rw [decide_eq_false (fun h => e (nodeOf_inj j q hj hq (h.trans HNODE.out.symm)))]; simpa using e, (Kept.ints k3 G3.out).flag HF3.out, (by repeat (first | exact Kept.refl _ | assumption | refine Kept.alloc ?_ _ | refine Kept.drew ?_ | refine Kept.drewN ?_ _ | refine Kept.setCell ?_ (by simp; try omega) _ | refine Kept.trans ?_ (by assumption)))⟩
          case measure => simp [intOf]; omega
        · obtain rfl : k = m := by omega
          go_wp2
          go_roundw
          case rel => exact ⟨i + 1, by omega, by go_num, HF2.out.congr fun j _ => by
            rw [HS.out, onAll_snoc, HM.out.2, HM.out.1], (by repeat (first | exact Kept.refl _ | assumption | refine Kept.alloc ?_ _ | refine Kept.drew ?_ | refine Kept.drewN ?_ _ | refine Kept.setCell ?_ (by simp; try omega) _ | refine Kept.trans ?_ (by assumption)))⟩
          case measure => simp [intOf]; omega
    · obtain rfl : i = N := by omega
      rw [List.take_of_length_le (by rw [HN.out]; omega)] at HF
      go_wp2
      go_ret
      exact ⟨rfl, HF.out, (by repeat (first | exact Kept.refl _ | assumption | refine Kept.alloc ?_ _ | refine Kept.drew ?_ | refine Kept.drewN ?_ _ | refine Kept.setCell ?_ (by simp; try omega) _ | refine Kept.trans ?_ (by assumption)))⟩

set_option maxRecDepth 100000 in
set_option maxHeartbeats 2000000 in
theorem numbers_all (g : Nat) (f : Nat → Bool) (w : World) (hf : Flags w g f) : Calls Tryd.prog 24 #[.slice (some ⟨g, 0, none⟩) 258 258] w
    fun e w' => ∃ v, e = .returned v ∧ Ints w' v (upTo f 258) ∧ Kept w w' := by
  have HF := hid hf; clear hf
  go_enter Tryd.func24, Tryd.ntmps24
  go_wp2
  go_loopw [3, 4] (fun v t wl => ∃ j n : Nat, j ≤ 258 ∧ n ≤ j ∧ t = .int .i64 j ∧ wl.ownsRow w.heap.size 3 1 v n ((upTo f j).map (Value.int .i64)) ∧ Kept w wl) (fun _ t _ => (258 - intOf t).toNat)
  case atStart => exact ⟨0, 0, by omega, by omega, rfl, World.ownsRow_nil _ _ _ _, (by repeat (first | exact Kept.refl _ | assumption | refine Kept.alloc ?_ _ | refine Kept.drew ?_ | refine Kept.drewN ?_ _ | refine Kept.setCell ?_ (by simp; try omega) _ | refine Kept.trans ?_ (by assumption)))⟩
  case round =>
    obtain ⟨j, n, hj, hnj, rfl, hown, hkl⟩ := hrel
    by_cases hlt3 : j < 258
    · have hix := (hkl.flags HF.out).cell j hlt3
      cases hb : f j with
      | true =>
        rw [hb] at hix
        have HB := hid hb; clear hb
        go_wp2_with (at_builtin; refine wpList_pushI (W := w) rfl (.tmp 15) (.tmp 17) rfl _ n (upTo f j) j _ _ rfl hown rfl (by simp) (by omega) hkl ?_; intro v3 w3 hown3 hk3)
        go_roundw
        case rel => exact ⟨j + 1, n + 1, by omega, by omega, by go_num, by rw [upTo_t _ _ HB.out]; exact hown3, (by repeat (first | exact Kept.refl _ | assumption | refine Kept.alloc ?_ _ | refine Kept.drew ?_ | refine Kept.drewN ?_ _ | refine Kept.setCell ?_ (by simp; try omega) _ | refine Kept.trans ?_ (by assumption)))⟩
        case measure => simp [intOf]; omega
      | false =>
        rw [hb] at hix
        have HB := hid hb; clear hb
        go_wp2
        go_roundw
        case rel => exact ⟨j + 1, n, by omega, by omega, by go_num, by rw [upTo_f _ _ HB.out]; exact hown, (by repeat (first | exact Kept.refl _ | assumption | refine Kept.alloc ?_ _ | refine Kept.drew ?_ | refine Kept.drewN ?_ _ | refine Kept.setCell ?_ (by simp; try omega) _ | refine Kept.trans ?_ (by assumption)))⟩
        case measure => simp [intOf]; omega
    · obtain rfl : j = 258 := by omega
      go_wp2
      go_ret
      exact ⟨_, rfl, (ints_own hown).1, (by repeat (first | exact Kept.refl _ | assumption | refine Kept.alloc ?_ _ | refine Kept.drew ?_ | refine Kept.drewN ?_ _ | refine Kept.setCell ?_ (by simp; try omega) _ | refine Kept.trans ?_ (by assumption)))⟩
end Go.Proofs.YtcloijjiemlbdaaDoor
