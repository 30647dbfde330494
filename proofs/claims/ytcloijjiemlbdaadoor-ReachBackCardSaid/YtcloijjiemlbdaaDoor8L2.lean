/- ReachPaths: the walk. -/
import Derived.Test.YtcloijjiemlbdaaDoor8L1
namespace Go.Proofs.YtcloijjiemlbdaaDoor
set_option linter.unusedSimpArgs false
set_option linter.unusedVariables false
open Go.RowKit

theorem rpath_yes (n : Int) (h0 : 0 ≤ n) (h1 : n < 3621) (w : World) : Calls Tryd.prog 20 #[.int .i64 n] w
    fun e w' => ∃ b o l c, e = .returned (.slice (some ⟨b, o, none⟩) l c) ∧ Ints w' (.slice (some ⟨b, o, none⟩) l c) (pathOf n.toNat) ∧ Kept w w' := by
  have h := rpath_any n.toNat (by omega) w
  rw [show ((n.toNat : Nat) : Int) = n by omega] at h
  refine h.mono fun e w' ⟨v, he, hv, hk⟩ => ?_
  obtain ⟨A, c, rfl⟩ := hv.shape
  obtain ⟨b, o, rfl, -⟩ := hv.cells (by have := path_len n.toNat; omega)
  exact ⟨b, o, _, c, he, hv, hk⟩
theorem block_yes (L : List Int) (m : Int) (h : blkF L = some m) (v : Value) (w : World) (hL : Ints w v L) (ht : Tab w) :
    Calls Tryd.prog 21 #[v] w fun e w' => e = .returned (.tuple #[.int .i64 m, .int .i64 0]) ∧ Kept w w' := by
  refine (block_any L v w hL ht).mono fun e w' hp => ?_
  unfold BlockPost at hp; rw [h] at hp; exact hp
theorem block_no (L : List Int) (h : blkF L = none) (v : Value) (w : World) (hL : Ints w v L) (ht : Tab w) :
    Calls Tryd.prog 21 #[v] w fun e w' => e = .returned (.tuple #[.int .i64 0, .int .i64 4]) ∧ Kept w w' := by
  refine (block_any L v w hL ht).mono fun e w' hp => ?_
  unfold BlockPost at hp; rw [h] at hp; exact hp
theorem rblock_yes (L : List Int) (m : Int) (h : blkF L = some m) (v : Value) (w : World) (hL : Ints w v L) :
    Calls Tryd.prog 22 #[v] w fun e w' => e = .returned (.int .i64 m) ∧ Kept w w' := by
  obtain ⟨k, hk, hp, rfl⟩ := (blkF_iff L m).1 h
  refine (rblock_any L v w hL).mono fun e w' hq => ?_
  obtain ⟨⟨n, hn, hnp, rfl⟩ | ⟨hno, -⟩, hkp⟩ := hq
  · obtain rfl := pathOf_inj n k hn hk (hnp.trans hp.symm)
    exact ⟨rfl, hkp⟩
  · exact absurd hp (hno k hk)
theorem rblock_no (L : List Int) (h : blkF L = none) (v : Value) (w : World) (hL : Ints w v L) :
    Calls Tryd.prog 22 #[v] w fun e w' => e = .returned (.int .i64 (-1)) ∧ Kept w w' := by
  refine (rblock_any L v w hL).mono fun e w' hq => ?_
  obtain ⟨⟨n, hn, hnp, rfl⟩ | ⟨hno, rfl⟩, hkp⟩ := hq
  · have := (blkF_iff L n).2 ⟨n, hn, hnp, rfl⟩
    rw [h] at this; cases this
  · exact ⟨rfl, hkp⟩

set_option maxRecDepth 100000 in
set_option maxHeartbeats 1000000 in
theorem paths_in (n : Int) (h0 : 0 ≤ n) (h1 : n < 3621) (L : List Int) (v : Value) (w : World) (hL : Ints w v L) (ht : Tab w) :
    Calls Tryd.prog 5 #[.int .i64 n, v] w fun e w' => e = .returned (.bool true) ∧ Kept w w' := by
  have hneq := fun (w : World) (a : Option Addr) (k c : Nat) => run_neq_slice_nil_any (P := Tryd.prog) w 25 3 a k c 0 0 Tryd.underlying25
  have heql := fun (w : World) (a : Option Addr) (k c : Nat) => Lib.run_eql_slice_nil (P := Tryd.prog) w 25 3 a k c 0 0 Tryd.underlying25
  have HT := hid ht; clear ht
  have HL := hid hL; clear hL
  have P1 := hid (fun w => path_any n h0 h1 w)
  have P2 := hid (fun w => rpath_yes n h0 h1 w)
  generalize pathOf n.toNat = p at *
  clear h0 h1
  cases hb : blkF (L.take 6) with
  | some m =>
    have hm : 0 ≤ m := by obtain ⟨k, -, -, rfl⟩ := (blkF_iff _ m).1 hb; omega
    have B1 := hid (block_yes _ m hb)
    have B2 := hid (rblock_yes _ m hb)
    clear hb
    go_enter Tryd.func5, Tryd.ntmps5
    go_wp2_with (first | (go_at_call 13; refine (few_any L v _ HL.out).mono ?_; rintro e w1 ⟨v1, rfl, g1, rfl⟩; have G1 := hid g1; clear g1) | (go_at_call 19; refine (P1.out _ HT.out).mono ?_; rintro e w2 ⟨v2, rfl, g2, k2⟩; have G2 := hid g2; clear g2) | (go_at_call 20; refine (P2.out _).mono ?_; rintro e w3 ⟨b, o, l, c, rfl, g3, k3⟩; have G3 := hid g3; clear g3) | (go_at_call 18; (with_reducible refine (same_t v2 _ p p _ (Kept.ints ?_ G2.out) G3.out rfl).mono ?_); exact (by repeat (first | exact Kept.refl _ | assumption | refine Kept.alloc ?_ _ | refine Kept.drew ?_ | refine Kept.drewN ?_ _ | refine Kept.setCell ?_ (by simp; try omega) _ | refine Kept.trans ?_ (by assumption))); rintro e w4 ⟨rfl, k4⟩) | (go_at_call 21; (with_reducible refine (B1.out v1 _ (Kept.ints ?_ G1.out) (Kept.tab ?_ HT.out)).mono ?_); exact (by repeat (first | exact Kept.refl _ | assumption | refine Kept.alloc ?_ _ | refine Kept.drew ?_ | refine Kept.drewN ?_ _ | refine Kept.setCell ?_ (by simp; try omega) _ | refine Kept.trans ?_ (by assumption))); exact (by repeat (first | exact Kept.refl _ | assumption | refine Kept.alloc ?_ _ | refine Kept.drew ?_ | refine Kept.drewN ?_ _ | refine Kept.setCell ?_ (by simp; try omega) _ | refine Kept.trans ?_ (by assumption))); rintro e w5 ⟨rfl, k5⟩) | (go_at_call 22; (with_reducible refine (B2.out v1 _ (Kept.ints ?_ G1.out)).mono ?_); exact (by repeat (first | exact Kept.refl _ | assumption | refine Kept.alloc ?_ _ | refine Kept.drew ?_ | refine Kept.drewN ?_ _ | refine Kept.setCell ?_ (by simp; try omega) _ | refine Kept.trans ?_ (by assumption))); rintro e w6 ⟨rfl, k6⟩) | (go_at_call 12; refine (awake_any _ (Kept.tab (by repeat (first | exact Kept.refl _ | assumption | refine Kept.alloc ?_ _ | refine Kept.drew ?_ | refine Kept.drewN ?_ _ | refine Kept.setCell ?_ (by simp; try omega) _ | refine Kept.trans ?_ (by assumption))) HT.out)).mono ?_; rintro e w7 ⟨rfl, k7⟩))
    go_ret
    exact ⟨rfl, (by repeat (first | exact Kept.refl _ | assumption | refine Kept.alloc ?_ _ | refine Kept.drew ?_ | refine Kept.drewN ?_ _ | refine Kept.setCell ?_ (by simp; try omega) _ | refine Kept.trans ?_ (by assumption)))⟩
  | none =>
    have B1 := hid (block_no _ hb)
    have B2 := hid (rblock_no _ hb)
    clear hb
    go_enter Tryd.func5, Tryd.ntmps5
    go_wp2_with (first | (go_at_call 13; refine (few_any L v _ HL.out).mono ?_; rintro e w1 ⟨v1, rfl, g1, rfl⟩; have G1 := hid g1; clear g1) | (go_at_call 19; refine (P1.out _ HT.out).mono ?_; rintro e w2 ⟨v2, rfl, g2, k2⟩; have G2 := hid g2; clear g2) | (go_at_call 20; refine (P2.out _).mono ?_; rintro e w3 ⟨b, o, l, c, rfl, g3, k3⟩; have G3 := hid g3; clear g3) | (go_at_call 18; (with_reducible refine (same_t v2 _ p p _ (Kept.ints ?_ G2.out) G3.out rfl).mono ?_); exact (by repeat (first | exact Kept.refl _ | assumption | refine Kept.alloc ?_ _ | refine Kept.drew ?_ | refine Kept.drewN ?_ _ | refine Kept.setCell ?_ (by simp; try omega) _ | refine Kept.trans ?_ (by assumption))); rintro e w4 ⟨rfl, k4⟩) | (go_at_call 21; (with_reducible refine (B1.out v1 _ (Kept.ints ?_ G1.out) (Kept.tab ?_ HT.out)).mono ?_); exact (by repeat (first | exact Kept.refl _ | assumption | refine Kept.alloc ?_ _ | refine Kept.drew ?_ | refine Kept.drewN ?_ _ | refine Kept.setCell ?_ (by simp; try omega) _ | refine Kept.trans ?_ (by assumption))); exact (by repeat (first | exact Kept.refl _ | assumption | refine Kept.alloc ?_ _ | refine Kept.drew ?_ | refine Kept.drewN ?_ _ | refine Kept.setCell ?_ (by simp; try omega) _ | refine Kept.trans ?_ (by assumption))); rintro e w5 ⟨rfl, k5⟩) | (go_at_call 22; (with_reducible refine (B2.out v1 _ (Kept.ints ?_ G1.out)).mono ?_); exact (by repeat (first | exact Kept.refl _ | assumption | refine Kept.alloc ?_ _ | refine Kept.drew ?_ | refine Kept.drewN ?_ _ | refine Kept.setCell ?_ (by simp; try omega) _ | refine Kept.trans ?_ (by assumption))); rintro e w6 ⟨rfl, k6⟩) | (go_at_call 12; refine (awake_any _ (Kept.tab (by repeat (first | exact Kept.refl _ | assumption | refine Kept.alloc ?_ _ | refine Kept.drew ?_ | refine Kept.drewN ?_ _ | refine Kept.setCell ?_ (by simp; try omega) _ | refine Kept.trans ?_ (by assumption))) HT.out)).mono ?_; rintro e w7 ⟨rfl, k7⟩))
    go_ret
    exact ⟨rfl, (by repeat (first | exact Kept.refl _ | assumption | refine Kept.alloc ?_ _ | refine Kept.drew ?_ | refine Kept.drewN ?_ _ | refine Kept.setCell ?_ (by simp; try omega) _ | refine Kept.trans ?_ (by assumption)))⟩

set_option maxRecDepth 100000 in
set_option maxHeartbeats 1000000 in
theorem paths_out (n : Int) (h : n < 0 ∨ 3621 ≤ n) (L : List Int) (v : Value) (w : World) (hL : Ints w v L) (ht : Tab w) :
    Calls Tryd.prog 5 #[.int .i64 n, v] w fun e w' => e = .returned (.bool true) ∧ Kept w w' := by
  have hneq := fun (w : World) (a : Option Addr) (k c : Nat) => run_neq_slice_nil_any (P := Tryd.prog) w 25 3 a k c 0 0 Tryd.underlying25
  have heql := fun (w : World) (a : Option Addr) (k c : Nat) => Lib.run_eql_slice_nil (P := Tryd.prog) w 25 3 a k c 0 0 Tryd.underlying25
  have HT := hid ht; clear ht
  have HL := hid hL; clear hL
  have P1 := hid (fun w => path_no n h w)
  have P2 := hid (fun w => rpath_no n (by omega) w)
  clear h
  cases hb : blkF (L.take 6) with
  | some m =>
    have hm : 0 ≤ m := by obtain ⟨k, -, -, rfl⟩ := (blkF_iff _ m).1 hb; omega
    have B1 := hid (block_yes _ m hb)
    have B2 := hid (rblock_yes _ m hb)
    clear hb
    go_enter Tryd.func5, Tryd.ntmps5
    go_wp2_with (first | (go_at_call 13; refine (few_any L v _ HL.out).mono ?_; rintro e w1 ⟨v1, rfl, g1, rfl⟩; have G1 := hid g1; clear g1) | (go_at_call 19; refine (P1.out _).mono ?_; rintro e w2 ⟨rfl, k2⟩) | (go_at_call 20; refine (P2.out _).mono ?_; rintro e w3 ⟨rfl, k3⟩) | (go_at_call 18; (with_reducible refine (same_t _ _ [] [] _ (ints_nil _) (ints_nil _) rfl).mono ?_); rintro e w4 ⟨rfl, k4⟩) | (go_at_call 21; (with_reducible refine (B1.out v1 _ (Kept.ints ?_ G1.out) (Kept.tab ?_ HT.out)).mono ?_); exact (by repeat (first | exact Kept.refl _ | assumption | refine Kept.alloc ?_ _ | refine Kept.drew ?_ | refine Kept.drewN ?_ _ | refine Kept.setCell ?_ (by simp; try omega) _ | refine Kept.trans ?_ (by assumption))); exact (by repeat (first | exact Kept.refl _ | assumption | refine Kept.alloc ?_ _ | refine Kept.drew ?_ | refine Kept.drewN ?_ _ | refine Kept.setCell ?_ (by simp; try omega) _ | refine Kept.trans ?_ (by assumption))); rintro e w5 ⟨rfl, k5⟩) | (go_at_call 22; (with_reducible refine (B2.out v1 _ (Kept.ints ?_ G1.out)).mono ?_); exact (by repeat (first | exact Kept.refl _ | assumption | refine Kept.alloc ?_ _ | refine Kept.drew ?_ | refine Kept.drewN ?_ _ | refine Kept.setCell ?_ (by simp; try omega) _ | refine Kept.trans ?_ (by assumption))); rintro e w6 ⟨rfl, k6⟩) | (go_at_call 12; refine (awake_any _ (Kept.tab (by repeat (first | exact Kept.refl _ | assumption | refine Kept.alloc ?_ _ | refine Kept.drew ?_ | refine Kept.drewN ?_ _ | refine Kept.setCell ?_ (by simp; try omega) _ | refine Kept.trans ?_ (by assumption))) HT.out)).mono ?_; rintro e w7 ⟨rfl, k7⟩))
    go_ret
    exact ⟨rfl, (by repeat (first | exact Kept.refl _ | assumption | refine Kept.alloc ?_ _ | refine Kept.drew ?_ | refine Kept.drewN ?_ _ | refine Kept.setCell ?_ (by simp; try omega) _ | refine Kept.trans ?_ (by assumption)))⟩
  | none =>
    have B1 := hid (block_no _ hb)
    have B2 := hid (rblock_no _ hb)
    clear hb
    go_enter Tryd.func5, Tryd.ntmps5
    go_wp2_with (first | (go_at_call 13; refine (few_any L v _ HL.out).mono ?_; rintro e w1 ⟨v1, rfl, g1, rfl⟩; have G1 := hid g1; clear g1) | (go_at_call 19; refine (P1.out _).mono ?_; rintro e w2 ⟨rfl, k2⟩) | (go_at_call 20; refine (P2.out _).mono ?_; rintro e w3 ⟨rfl, k3⟩) | (go_at_call 18; (with_reducible refine (same_t _ _ [] [] _ (ints_nil _) (ints_nil _) rfl).mono ?_); rintro e w4 ⟨rfl, k4⟩) | (go_at_call 21; (with_reducible refine (B1.out v1 _ (Kept.ints ?_ G1.out) (Kept.tab ?_ HT.out)).mono ?_); exact (by repeat (first | exact Kept.refl _ | assumption | refine Kept.alloc ?_ _ | refine Kept.drew ?_ | refine Kept.drewN ?_ _ | refine Kept.setCell ?_ (by simp; try omega) _ | refine Kept.trans ?_ (by assumption))); exact (by repeat (first | exact Kept.refl _ | assumption | refine Kept.alloc ?_ _ | refine Kept.drew ?_ | refine Kept.drewN ?_ _ | refine Kept.setCell ?_ (by simp; try omega) _ | refine Kept.trans ?_ (by assumption))); rintro e w5 ⟨rfl, k5⟩) | (go_at_call 22; (with_reducible refine (B2.out v1 _ (Kept.ints ?_ G1.out)).mono ?_); exact (by repeat (first | exact Kept.refl _ | assumption | refine Kept.alloc ?_ _ | refine Kept.drew ?_ | refine Kept.drewN ?_ _ | refine Kept.setCell ?_ (by simp; try omega) _ | refine Kept.trans ?_ (by assumption))); rintro e w6 ⟨rfl, k6⟩) | (go_at_call 12; refine (awake_any _ (Kept.tab (by repeat (first | exact Kept.refl _ | assumption | refine Kept.alloc ?_ _ | refine Kept.drew ?_ | refine Kept.drewN ?_ _ | refine Kept.setCell ?_ (by simp; try omega) _ | refine Kept.trans ?_ (by assumption))) HT.out)).mono ?_; rintro e w7 ⟨rfl, k7⟩))
    go_ret
    exact ⟨rfl, (by repeat (first | exact Kept.refl _ | assumption | refine Kept.alloc ?_ _ | refine Kept.drew ?_ | refine Kept.drewN ?_ _ | refine Kept.setCell ?_ (by simp; try omega) _ | refine Kept.trans ?_ (by assumption)))⟩

theorem paths_walk (n : Int) (L : List Int) (v : Value) (w : World) (hL : Ints w v L) (ht : Tab w) :
    Calls Tryd.prog 5 #[.int .i64 n, v] w fun e w' => e = .returned (.bool true) ∧ Kept w w' := by
  by_cases h : 0 ≤ n ∧ n < 3621
  · exact paths_in n h.1 h.2 L v w hL ht
  · exact paths_out n (by omega) L v w hL ht
end Go.Proofs.YtcloijjiemlbdaaDoor
