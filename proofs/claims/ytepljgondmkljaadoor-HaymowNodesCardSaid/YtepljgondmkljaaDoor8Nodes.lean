/- reach.Nodes: the numbers of the nodes on the paths to blocks. -/
import Derived.Test.YtepljgondmkljaaDoor8Flags
import Derived.ChangeKeysEq
namespace Go.Proofs.YtepljgondmkljaaDoor
set_option linter.unusedSimpArgs false
set_option linter.unusedVariables false
open Go.RowKit

def InAll (L : List Int) : Prop := ∀ n ∈ L, 0 ≤ n ∧ n < 3621
def NodesPost (L : List Int) (w : World) (e : Ending) (w' : World) : Prop :=
  ((InAll L ∧ ∃ v, e = .returned (.tuple #[v, .int .i64 0]) ∧ Ints w' v (upTo (onAll L) 258)) ∨ (¬ InAll L ∧ e = .returned (.tuple #[.slice none 0 0, .int .i64 4]))) ∧ Kept w w'
theorem Flags.congr {w : World} {g : Nat} {f f' : Nat → Bool} (h : Flags w g f) (e : ∀ j, j < 258 → f j = f' j) : Flags w g f' := by
  obtain ⟨cs, t, hg, hs, hc⟩ := h
  exact ⟨cs, t, hg, hs, fun j hj => by rw [hc j hj, e j hj]⟩
/-- a flag is no number: a store into the flags turns no slice of numbers -/
theorem Ints.flag {w : World} {v : Value} {L : List Int} {g q : Nat} {f : Nat → Bool} {x : Value} (h : Ints w v L) (hf : Flags w g f) : Ints (w.setCell ⟨g, q, none⟩ x) v L := by
  obtain ⟨A, c, hv, hc, hm, hz, hr⟩ := h
  refine ⟨A, c, hv, hc, hm, hz, fun hl => ?_⟩
  obtain ⟨b, o, hA, hcell⟩ := hr hl
  refine ⟨b, o, hA, fun i hi => ?_⟩
  have hci := hcell i hi
  have hne : b ≠ g := by
    rintro rfl
    obtain ⟨cs, t, hg, hs, hcs⟩ := hf
    simp only [World.cell?, hg] at hci
    simp at hci
    have hlt : o + i < cs.size := (Array.getElem?_eq_some_iff.1 hci).1
    rw [hcs (o + i) (by omega)] at hci
    cases hci
  rw [← hci]
  exact World.cell?_of_block (Below.heap_setCell _ _ _ _ hne)
theorem take_snoc_getD (L : List Int) (i : Nat) (h : i < L.length) : L.take (i + 1) = L.take i ++ [L.getD i 0] := by
  rw [List.take_add_one, List.getElem?_eq_getElem h]; simp [List.getD_eq_getElem?_getD, List.getElem?_eq_getElem h]

theorem idx_flags (cs : Array Value) (f : Nat → Bool) (k j : Nat) (hj : j < 258) (h : cs[j]? = some (.bool (f j))) (w : World) :
    (Instr.index 48 (.agg cs) (.int .i64 j)).run Tryd.prog w = .ok (.bool (f j)) w := by
  have hp := Go.run_part_plain (P := Tryd.prog) (w := w) (e := 4) (by kernel_rfl) h
  have hz : ∀ w, (sizeOf 4).run Tryd.prog w = .ok 1 w := fun _ => by kernel_rfl
  have hj2 : (j : Int) < 258 := by omega
  simp [Instr.index, run_underlying Tryd.underlying48, asIntOf, hj2, hz, hp]
  intro hh; omega

set_option maxRecDepth 100000 in
set_option maxHeartbeats 2000000 in
theorem nodes_all (L : List Int) (v : Value) (w : World) (hL : Ints w v L) (ht : Tab w) : Calls Tryd.prog 4 #[v] w (NodesPost L w) := by
  obtain ⟨A, c, rfl⟩ := hL.shape
  obtain ⟨-, hl, hc⟩ := hL.len
  have HT := hid ht; clear ht
  have HL := hid hL; clear hL
  obtain ⟨N, hN⟩ : ∃ N, L.length = N := ⟨_, rfl⟩
  rw [hN] at HL
  rw [hN]
  rw [hN] at hl
  have HN := hid hN; clear hN
  have hN63 : (N : Int) ≤ 9223372036854775807 := by omega
  clear hl hc
  have hz : ∀ w, (zeroValue 48).run Tryd.prog w = .ok (.agg (Array.replicate 258 (.bool false))) w := fun _ => by kernel_rfl
  go_enter Tryd.func4, Tryd.ntmps4
  go_wp2
  go_loopw [17] (fun t wr => ∃ i : Nat, i ≤ N ∧ t = .int .i64 i ∧ Flags wr w.heap.size (onAll (L.take i)) ∧ InAll (L.take i) ∧ Kept w wr) (fun t _ => (N - intOf t).toNat)
  case atStart => exact ⟨0, by omega, rfl, (Flags.new w _), by simp [InAll], (by repeat (first | exact Kept.refl _ | assumption | refine Kept.alloc ?_ _ | refine Kept.drew ?_ | refine Kept.drewN ?_ _ | refine Kept.setCell ?_ (by simp; try omega) _ | refine Kept.trans ?_ (by assumption)))⟩
  case round =>
    obtain ⟨i, hi, rfl, hfl, hin, hk⟩ := hrel
    have HF := hid hfl; clear hfl
    have HI := hid hin; clear hin
    by_cases hlt : i < N
    · obtain ⟨b, o, rfl, hcl⟩ := HL.out.cells (by omega)
      have hci := hk.keeps (hcl i hlt)
      clear hcl
      obtain ⟨n, hn⟩ : ∃ n, L.getD i 0 = n := ⟨_, rfl⟩
      rw [hn] at hci
      have HS := hid (take_snoc_getD L i (by rw [HN.out]; exact hlt)); rw [hn] at HS; clear hn
      by_cases hb : 0 ≤ n ∧ n < 3621
      · obtain ⟨hb0, hb1⟩ := hb
        obtain ⟨P, hP⟩ : ∃ P, pathOf n.toNat = P := ⟨_, rfl⟩
        have HP := hid (path_any n hb0 hb1); rw [hP] at HP
        have HQ := hid (path_node n.toNat (by omega)); rw [hP] at HQ
        have HB := hid (And.intro hb0 hb1)
        clear hb0 hb1
        go_wp2_with (first
          | (go_at_call 10; refine (HP.out _ (Kept.tab (by repeat (first | exact Kept.refl _ | assumption | refine Kept.alloc ?_ _ | refine Kept.drew ?_ | refine Kept.drewN ?_ _ | refine Kept.setCell ?_ (by simp; try omega) _ | refine Kept.trans ?_ (by assumption))) HT.out)).mono ?_; rintro e w2 ⟨v2, rfl, g2, k2⟩; obtain ⟨A2, c2, rfl⟩ := g2.shape; have G2 := hid g2; clear g2))
        obtain ⟨m, hm⟩ : ∃ m, P.length = m := ⟨_, rfl⟩
        rw [hm]; rw [hm] at G2
        obtain ⟨-, hm1, hm2⟩ := G2.out.len
        have hpos : 1 ≤ m := by have := path_len n.toNat; rw [hP, hm] at this; omega
        have HM := hid (And.intro hm hP); clear hm hP
        go_loopw [9] (fun t wr' => ∃ k : Nat, 1 ≤ k ∧ k ≤ m ∧ t = .int .i64 k ∧ Flags wr' w.heap.size (fun j => onUp P k j || onAll (L.take i) j) ∧ Ints wr' (.slice A2 m c2) P ∧ Kept w wr') (fun t _ => (m - intOf t).toNat)
        case atStart => exact ⟨1, by omega, by omega, rfl, (k2.flags HF.out).congr fun j _ => by rw [onUp_one]; rfl, G2.out, (by repeat (first | exact Kept.refl _ | assumption | refine Kept.alloc ?_ _ | refine Kept.drew ?_ | refine Kept.drewN ?_ _ | refine Kept.setCell ?_ (by simp; try omega) _ | refine Kept.trans ?_ (by assumption)))⟩
        case round =>
          obtain ⟨k, hk1, hk3, rfl, hfl2, g3, hk4⟩ := hrel
          have G3 := hid g3; clear g3
          have HF2 := hid hfl2; clear hfl2
          by_cases hlt2 : k < m
          · obtain ⟨q, hq, hnum, hnode⟩ := HQ.out k hk1 (by rw [HM.out.1]; exact hlt2)
            have HNUM := hid (number_yes _ _ hnum)
            have HNODE := hid hnode
            clear hnum hnode
            go_wp2_with (first
              | (go_at_call 7; (with_reducible refine (HNUM.out _ _ (Ints.take G3.out k ?_)).mono ?_); omega; rintro e w3 ⟨rfl, k3⟩; have HF3 := hid (Kept.flags k3 HF2.out); have hc3 := HF3.out.cell q hq; have hf3 := HF3.out.frozen q))
            go_roundw
            case rel => exact ⟨k + 1, by omega, by omega, by go_num, (HF3.out.set q).congr fun j hj => by
              show (j == q || (onUp P k j || onAll (L.take i) j)) = _
              rw [onUp_succ P k j hk1, ← Bool.or_assoc]
              congr 2
              by_cases e : j = q
              · subst e; simp [HNODE.out]
              · rw [decide_eq_false (fun h => e (nodeOf_inj j q hj hq (h.trans HNODE.out.symm)))]; simpa using e, (Kept.ints k3 G3.out).flag HF3.out, (by repeat (first | exact Kept.refl _ | assumption | refine Kept.alloc ?_ _ | refine Kept.drew ?_ | refine Kept.drewN ?_ _ | refine Kept.setCell ?_ (by simp; try omega) _ | refine Kept.trans ?_ (by assumption)))⟩
            case measure => simp [intOf]; omega
          · obtain rfl : k = m := by omega
            go_wp2
            go_roundw
            case rel => exact ⟨i + 1, by omega, by go_num, HF2.out.congr fun j _ => by
              rw [HS.out, onAll_snoc, HM.out.2, HM.out.1], by rw [HS.out]; intro x hx; rcases List.mem_append.1 hx with hx | hx; exact HI.out x hx; obtain rfl := List.mem_singleton.1 hx; exact HB.out, (by repeat (first | exact Kept.refl _ | assumption | refine Kept.alloc ?_ _ | refine Kept.drew ?_ | refine Kept.drewN ?_ _ | refine Kept.setCell ?_ (by simp; try omega) _ | refine Kept.trans ?_ (by assumption)))⟩
            case measure => simp [intOf]; omega
      · have HX := hid (path_no n (by omega))
        have HB := hid hb; clear hb
        go_wp2_with (go_at_call 10; refine (HX.out _).mono ?_; rintro e w2 ⟨rfl, k2⟩)
        go_ret2
        refine ⟨.inr ⟨fun h => HB.out (h n ?_), rfl⟩, (by repeat (first | exact Kept.refl _ | assumption | refine Kept.alloc ?_ _ | refine Kept.drew ?_ | refine Kept.drewN ?_ _ | refine Kept.setCell ?_ (by simp; try omega) _ | refine Kept.trans ?_ (by assumption)))⟩
        have : n ∈ L.take (i + 1) := by rw [HS.out]; simp
        exact List.mem_of_mem_take this
    · obtain rfl : i = N := by omega
      rw [List.take_of_length_le (by rw [HN.out]; omega)] at HF HI
      obtain ⟨cs, t, hg, hs, hcs⟩ := HF.out
      have HCS := hid hcs; clear hcs
      have HG := hid hg; clear hg
      have HSZ := hid hs; clear hs
      go_wp2_with (refine wpList_load_row rfl 48 (.tmp 4) rfl w.heap.size rfl t cs (0, 0) _ HG.out Tryd.underlying48 rfl (by rw [HSZ.out]; kernel_rfl) ?_)
      have hidx : ∀ (w : World) (j : Nat), j < 258 → (Instr.index 48 (.agg cs) (.int .i64 j)).run Tryd.prog w = .ok (.bool (onAll L j)) w := fun w j hj => idx_flags cs (onAll L) 0 j hj (HCS.out j hj) w
      have HIX := hid hidx; clear hidx
      go_loopw [12, 49] (fun v t wl => ∃ j n : Nat, j ≤ 258 ∧ n ≤ j ∧ t = .int .i64 j ∧ wl.ownsRow w.heap.size 3 1 v n ((upTo (onAll L) j).map (Value.int .i64)) ∧ Kept w wl) (fun _ t _ => (258 - intOf t).toNat)
      case atStart => exact ⟨0, 0, by omega, by omega, rfl, World.ownsRow_nil _ _ _ _, (by repeat (first | exact Kept.refl _ | assumption | refine Kept.alloc ?_ _ | refine Kept.drew ?_ | refine Kept.drewN ?_ _ | refine Kept.setCell ?_ (by simp; try omega) _ | refine Kept.trans ?_ (by assumption)))⟩
      case round =>
        obtain ⟨j, n, hj, hnj, rfl, hown, hkl⟩ := hrel
        by_cases hlt3 : j < 258
        · have hix := fun w => HIX.out w j hlt3
          cases hb : onAll L j with
          | true =>
            rw [hb] at hix
            have HB := hid hb; clear hb
            go_wp2_with (at_builtin; refine wpList_pushI (W := w) rfl (.tmp 54) (.tmp 56) rfl _ n (upTo (onAll L) j) j _ _ rfl hown rfl (by simp) (by omega) hkl ?_; intro v3 w3 hown3 hk3)
            go_roundw
            case rel => exact ⟨j + 1, n + 1, by omega, by omega, by go_num, by rw [upTo_t _ _ HB.out]; exact hown3, (by repeat (first | exact Kept.refl _ | assumption | refine Kept.alloc ?_ _ | refine Kept.drew ?_ | refine Kept.drewN ?_ _ | refine Kept.setCell ?_ (by simp; try omega) _ | refine Kept.trans ?_ (by assumption)))⟩
            case measure => simp [intOf]; omega
          | false =>
            rw [hb] at hix
            have HB := hid hb; clear hb
            go_wp2
            go_roundw
            case rel => exact ⟨j + 1, n, by omega, by omega, by go_num, by rw [upTo_f _ _ HB.out]; exact hown, (by repeat (first | exact Kept.refl _ | assumption | refine Kept.alloc ?_ _ | refine Kept.drew ?_ | refine Kept.drewN ?_ _ | refine Kept.setCell ?_ (by simp; try omega) _ | refine Kept.trans ?_ (by assumption)))⟩
            case measure => simp [intOf]; omega
        · obtain rfl : j = 258 := by omega
          go_wp2
          go_ret2
          refine ⟨.inl ⟨?_, _, rfl, (ints_own hown).1⟩, (by repeat (first | exact Kept.refl _ | assumption | refine Kept.alloc ?_ _ | refine Kept.drew ?_ | refine Kept.drewN ?_ _ | refine Kept.setCell ?_ (by simp; try omega) _ | refine Kept.trans ?_ (by assumption)))⟩
          exact HI.out
end Go.Proofs.YtepljgondmkljaaDoor
