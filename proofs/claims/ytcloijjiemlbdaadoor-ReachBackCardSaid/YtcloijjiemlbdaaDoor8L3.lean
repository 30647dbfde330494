/- ReachNodes: the walk. -/
import Derived.Test.YtcloijjiemlbdaaDoor8L2
namespace Go.Proofs.YtcloijjiemlbdaaDoor
set_option linter.unusedSimpArgs false
set_option linter.unusedVariables false
open Go.RowKit

theorem few_len (L M : List Int) (n : Nat) (hM : L.take 6 = M ∧ M.length = n) (v : Value) (w : World) (hL : Ints w v L) :
    Calls Tryd.prog 13 #[v] w fun e w' => ∃ A c, e = .returned (.slice A n c) ∧ Ints w' (.slice A n c) M ∧ w = w' := by
  obtain ⟨rfl, rfl⟩ := hM
  refine (few_any L v w hL).mono fun e w' ⟨v', he, hi, hw⟩ => ?_
  obtain ⟨A, c, rfl⟩ := hi.shape
  exact ⟨A, c, he, hi, hw⟩
theorem number_yes (L : List Int) (m : Int) (h : numF L = some m) (v : Value) (w : World) (hL : Ints w v L) :
    Calls Tryd.prog 14 #[v] w fun e w' => e = .returned (.tuple #[.int .i64 m, .int .i64 0]) ∧ Kept w w' := number_at L m h v w hL
theorem number_none (L : List Int) (h : numF L = none) (v : Value) (w : World) (hL : Ints w v L) :
    Calls Tryd.prog 14 #[v] w fun e w' => e = .returned (.tuple #[.int .i64 0, .int .i64 4]) ∧ Kept w w' := by
  refine (number_any L v w hL).mono fun e w' hp => ?_
  unfold NumberPost at hp; rw [h] at hp; exact hp
theorem rnumber_yes (L : List Int) (m : Int) (h : numF L = some m) (v : Value) (w : World) (hL : Ints w v L) :
    Calls Tryd.prog 15 #[v] w fun e w' => e = .returned (.int .i64 m) ∧ Kept w w' := by
  obtain ⟨k, hk, hp, rfl⟩ := (numF_iff L m).1 h
  refine (rnumber_any L v w hL).mono fun e w' hq => ?_
  obtain ⟨⟨n, hn, hnp, rfl⟩ | ⟨hno, -⟩, hkp⟩ := hq
  · obtain rfl := nodeOf_inj n k hn hk (hnp.trans hp.symm)
    exact ⟨rfl, hkp⟩
  · exact absurd hp (hno k hk)
theorem rnumber_none (L : List Int) (h : numF L = none) (v : Value) (w : World) (hL : Ints w v L) :
    Calls Tryd.prog 15 #[v] w fun e w' => e = .returned (.int .i64 (-1)) ∧ Kept w w' := by
  refine (rnumber_any L v w hL).mono fun e w' hq => ?_
  obtain ⟨⟨n, hn, hnp, rfl⟩ | ⟨hno, rfl⟩, hkp⟩ := hq
  · have := (numF_iff L n).2 ⟨n, hn, hnp, rfl⟩
    rw [h] at this; cases this
  · exact ⟨rfl, hkp⟩
theorem nodeOf_pos (n : Nat) : ∃ j, (nodeOf n).length = j + 1 := by
  unfold nodeOf
  split
  · exact ⟨_, rfl⟩
  · split
    · exact ⟨_, rfl⟩
    · split <;> exact ⟨_, rfl⟩
theorem rnode_yes (n : Int) (j : Nat) (h0 : 0 ≤ n) (h1 : n < 258) (hj : (nodeOf n.toNat).length = j) (w : World) : Calls Tryd.prog 17 #[.int .i64 n] w
    fun e w' => ∃ A c, e = .returned (.slice A j c) ∧ Ints w' (.slice A j c) (nodeOf n.toNat) ∧ Kept w w' := by
  have h := rnode_any n.toNat (by omega) w
  rw [show ((n.toNat : Nat) : Int) = n by omega] at h
  refine h.mono fun e w' ⟨v, he, hv, hk⟩ => ?_
  subst hj
  obtain ⟨A, c, rfl⟩ := hv.shape
  exact ⟨A, c, he, hv, hk⟩

set_option maxRecDepth 100000 in
set_option maxHeartbeats 1000000 in
theorem nodes_in (n : Int) (h0 : 0 ≤ n) (h1 : n < 258) (L : List Int) (v : Value) (w : World) (hL : Ints w v L) (ht : Tab w) :
    Calls Tryd.prog 4 #[v, .int .i64 n] w fun e w' => e = .returned (.bool true) ∧ Kept w w' := by
  have HT := hid ht; clear ht
  have HL := hid hL; clear hL
  obtain ⟨j, hj⟩ := nodeOf_pos n.toNat
  have P1 := hid (fun w => node_any n h0 h1 w)
  have P2 := hid (fun w => rnode_yes n _ h0 h1 hj w)
  clear hj
  generalize nodeOf n.toNat = p at *
  obtain ⟨M, hM⟩ : ∃ M, L.take 6 = M := ⟨_, rfl⟩
  cases hb : numF M with
  | some m =>
    have hm : 0 ≤ m := by obtain ⟨k, -, -, rfl⟩ := (numF_iff _ m).1 hb; omega
    have N1 := hid (number_yes _ m hb)
    have N2 := hid (rnumber_yes _ m hb)
    obtain ⟨k, hk⟩ : ∃ k, M.length = k + 1 := by cases M with
      | nil => cases hb
      | cons a r => exact ⟨r.length, rfl⟩
    clear hb
    have z1 : ((k : Int) + 1 == 0) = false := by simp; omega
    go_enter Tryd.func4, Tryd.ntmps4
    go_wp2_with (first | (go_at_call 13; refine (few_len L M _ ⟨hM, hk⟩ v _ HL.out).mono ?_; rintro e w1 ⟨A1, c1, rfl, g1, rfl⟩; have G1 := hid g1; clear g1) | (go_at_call 14; (with_reducible refine (N1.out _ _ G1.out).mono ?_); rintro e w2 ⟨rfl, k2⟩) | (go_at_call 15; (with_reducible refine (N2.out _ _ (Kept.ints ?_ G1.out)).mono ?_); exact (by repeat (first | exact Kept.refl _ | assumption | refine Kept.alloc ?_ _ | refine Kept.drew ?_ | refine Kept.drewN ?_ _ | refine Kept.setCell ?_ (by simp; try omega) _ | refine Kept.trans ?_ (by assumption))); rintro e w3 ⟨rfl, k3⟩) | (go_at_call 16; refine (P1.out _).mono ?_; rintro e w4 ⟨v4, rfl, g4, k4⟩; have G4 := hid g4; clear g4) | (go_at_call 17; refine (P2.out _).mono ?_; rintro e w5 ⟨A5, c5, rfl, g5, k5⟩; have G5 := hid g5; clear g5) | (go_at_call 18; (with_reducible refine (same_t v4 _ p p _ (Kept.ints ?_ G4.out) G5.out rfl).mono ?_); exact (by repeat (first | exact Kept.refl _ | assumption | refine Kept.alloc ?_ _ | refine Kept.drew ?_ | refine Kept.drewN ?_ _ | refine Kept.setCell ?_ (by simp; try omega) _ | refine Kept.trans ?_ (by assumption))); rintro e w6 ⟨rfl, k6⟩) | (go_at_call 12; refine (awake_any _ (Kept.tab (by repeat (first | exact Kept.refl _ | assumption | refine Kept.alloc ?_ _ | refine Kept.drew ?_ | refine Kept.drewN ?_ _ | refine Kept.setCell ?_ (by simp; try omega) _ | refine Kept.trans ?_ (by assumption))) HT.out)).mono ?_; rintro e w7 ⟨rfl, k7⟩))
    go_ret
    exact ⟨rfl, (by repeat (first | exact Kept.refl _ | assumption | refine Kept.alloc ?_ _ | refine Kept.drew ?_ | refine Kept.drewN ?_ _ | refine Kept.setCell ?_ (by simp; try omega) _ | refine Kept.trans ?_ (by assumption)))⟩
  | none =>
    have N1 := hid (number_none _ hb)
    have N2 := hid (rnumber_none _ hb)
    clear hb
    obtain hk | ⟨k, hk⟩ : M.length = 0 ∨ ∃ k, M.length = k + 1 := by cases M with
      | nil => exact .inl rfl
      | cons a r => exact .inr ⟨r.length, rfl⟩
    · go_enter Tryd.func4, Tryd.ntmps4
      go_wp2_with (first | (go_at_call 13; refine (few_len L M _ ⟨hM, hk⟩ v _ HL.out).mono ?_; rintro e w1 ⟨A1, c1, rfl, g1, rfl⟩; have G1 := hid g1; clear g1) | (go_at_call 14; (with_reducible refine (N1.out _ _ G1.out).mono ?_); rintro e w2 ⟨rfl, k2⟩) | (go_at_call 15; (with_reducible refine (N2.out _ _ (Kept.ints ?_ G1.out)).mono ?_); exact (by repeat (first | exact Kept.refl _ | assumption | refine Kept.alloc ?_ _ | refine Kept.drew ?_ | refine Kept.drewN ?_ _ | refine Kept.setCell ?_ (by simp; try omega) _ | refine Kept.trans ?_ (by assumption))); rintro e w3 ⟨rfl, k3⟩) | (go_at_call 16; refine (P1.out _).mono ?_; rintro e w4 ⟨v4, rfl, g4, k4⟩; have G4 := hid g4; clear g4) | (go_at_call 17; refine (P2.out _).mono ?_; rintro e w5 ⟨A5, c5, rfl, g5, k5⟩; have G5 := hid g5; clear g5) | (go_at_call 18; (with_reducible refine (same_t v4 _ p p _ (Kept.ints ?_ G4.out) G5.out rfl).mono ?_); exact (by repeat (first | exact Kept.refl _ | assumption | refine Kept.alloc ?_ _ | refine Kept.drew ?_ | refine Kept.drewN ?_ _ | refine Kept.setCell ?_ (by simp; try omega) _ | refine Kept.trans ?_ (by assumption))); rintro e w6 ⟨rfl, k6⟩) | (go_at_call 12; refine (awake_any _ (Kept.tab (by repeat (first | exact Kept.refl _ | assumption | refine Kept.alloc ?_ _ | refine Kept.drew ?_ | refine Kept.drewN ?_ _ | refine Kept.setCell ?_ (by simp; try omega) _ | refine Kept.trans ?_ (by assumption))) HT.out)).mono ?_; rintro e w7 ⟨rfl, k7⟩))
      go_ret
      exact ⟨rfl, (by repeat (first | exact Kept.refl _ | assumption | refine Kept.alloc ?_ _ | refine Kept.drew ?_ | refine Kept.drewN ?_ _ | refine Kept.setCell ?_ (by simp; try omega) _ | refine Kept.trans ?_ (by assumption)))⟩
    · have z1 : ((k : Int) + 1 == 0) = false := by simp; omega
      go_enter Tryd.func4, Tryd.ntmps4
      go_wp2_with (first | (go_at_call 13; refine (few_len L M _ ⟨hM, hk⟩ v _ HL.out).mono ?_; rintro e w1 ⟨A1, c1, rfl, g1, rfl⟩; have G1 := hid g1; clear g1) | (go_at_call 14; (with_reducible refine (N1.out _ _ G1.out).mono ?_); rintro e w2 ⟨rfl, k2⟩) | (go_at_call 15; (with_reducible refine (N2.out _ _ (Kept.ints ?_ G1.out)).mono ?_); exact (by repeat (first | exact Kept.refl _ | assumption | refine Kept.alloc ?_ _ | refine Kept.drew ?_ | refine Kept.drewN ?_ _ | refine Kept.setCell ?_ (by simp; try omega) _ | refine Kept.trans ?_ (by assumption))); rintro e w3 ⟨rfl, k3⟩) | (go_at_call 16; refine (P1.out _).mono ?_; rintro e w4 ⟨v4, rfl, g4, k4⟩; have G4 := hid g4; clear g4) | (go_at_call 17; refine (P2.out _).mono ?_; rintro e w5 ⟨A5, c5, rfl, g5, k5⟩; have G5 := hid g5; clear g5) | (go_at_call 18; (with_reducible refine (same_t v4 _ p p _ (Kept.ints ?_ G4.out) G5.out rfl).mono ?_); exact (by repeat (first | exact Kept.refl _ | assumption | refine Kept.alloc ?_ _ | refine Kept.drew ?_ | refine Kept.drewN ?_ _ | refine Kept.setCell ?_ (by simp; try omega) _ | refine Kept.trans ?_ (by assumption))); rintro e w6 ⟨rfl, k6⟩) | (go_at_call 12; refine (awake_any _ (Kept.tab (by repeat (first | exact Kept.refl _ | assumption | refine Kept.alloc ?_ _ | refine Kept.drew ?_ | refine Kept.drewN ?_ _ | refine Kept.setCell ?_ (by simp; try omega) _ | refine Kept.trans ?_ (by assumption))) HT.out)).mono ?_; rintro e w7 ⟨rfl, k7⟩))
      go_ret
      exact ⟨rfl, (by repeat (first | exact Kept.refl _ | assumption | refine Kept.alloc ?_ _ | refine Kept.drew ?_ | refine Kept.drewN ?_ _ | refine Kept.setCell ?_ (by simp; try omega) _ | refine Kept.trans ?_ (by assumption)))⟩

set_option maxRecDepth 100000 in
set_option maxHeartbeats 1000000 in
theorem nodes_lo (n : Int) (h : n < 0) (L : List Int) (v : Value) (w : World) (hL : Ints w v L) (ht : Tab w) :
    Calls Tryd.prog 4 #[v, .int .i64 n] w fun e w' => e = .returned (.bool true) ∧ Kept w w' := by
  have HT := hid ht; clear ht
  have HL := hid hL; clear hL
  have P1 := hid (fun w => node_no n (.inl h) w)
  obtain ⟨M, hM⟩ : ∃ M, L.take 6 = M := ⟨_, rfl⟩
  cases hb : numF M with
  | some m =>
    have hm : 0 ≤ m := by obtain ⟨k, -, -, rfl⟩ := (numF_iff _ m).1 hb; omega
    have N1 := hid (number_yes _ m hb)
    have N2 := hid (rnumber_yes _ m hb)
    obtain ⟨k, hk⟩ : ∃ k, M.length = k + 1 := by cases M with
      | nil => cases hb
      | cons a r => exact ⟨r.length, rfl⟩
    clear hb
    have z1 : ((k : Int) + 1 == 0) = false := by simp; omega
    go_enter Tryd.func4, Tryd.ntmps4
    go_wp2_with (first | (go_at_call 13; refine (few_len L M _ ⟨hM, hk⟩ v _ HL.out).mono ?_; rintro e w1 ⟨A1, c1, rfl, g1, rfl⟩; have G1 := hid g1; clear g1) | (go_at_call 14; (with_reducible refine (N1.out _ _ G1.out).mono ?_); rintro e w2 ⟨rfl, k2⟩) | (go_at_call 15; (with_reducible refine (N2.out _ _ (Kept.ints ?_ G1.out)).mono ?_); exact (by repeat (first | exact Kept.refl _ | assumption | refine Kept.alloc ?_ _ | refine Kept.drew ?_ | refine Kept.drewN ?_ _ | refine Kept.setCell ?_ (by simp; try omega) _ | refine Kept.trans ?_ (by assumption))); rintro e w3 ⟨rfl, k3⟩) | (go_at_call 16; refine (P1.out _).mono ?_; rintro e w4 ⟨rfl, k4⟩) | (go_at_call 18; (with_reducible refine (same_t _ _ [] [] _ (ints_nil _) (ints_nil _) rfl).mono ?_); rintro e w6 ⟨rfl, k6⟩) | (go_at_call 12; refine (awake_any _ (Kept.tab (by repeat (first | exact Kept.refl _ | assumption | refine Kept.alloc ?_ _ | refine Kept.drew ?_ | refine Kept.drewN ?_ _ | refine Kept.setCell ?_ (by simp; try omega) _ | refine Kept.trans ?_ (by assumption))) HT.out)).mono ?_; rintro e w7 ⟨rfl, k7⟩))
    go_ret
    exact ⟨rfl, (by repeat (first | exact Kept.refl _ | assumption | refine Kept.alloc ?_ _ | refine Kept.drew ?_ | refine Kept.drewN ?_ _ | refine Kept.setCell ?_ (by simp; try omega) _ | refine Kept.trans ?_ (by assumption)))⟩
  | none =>
    have N1 := hid (number_none _ hb)
    have N2 := hid (rnumber_none _ hb)
    clear hb
    obtain hk | ⟨k, hk⟩ : M.length = 0 ∨ ∃ k, M.length = k + 1 := by cases M with
      | nil => exact .inl rfl
      | cons a r => exact .inr ⟨r.length, rfl⟩
    · go_enter Tryd.func4, Tryd.ntmps4
      go_wp2_with (first | (go_at_call 13; refine (few_len L M _ ⟨hM, hk⟩ v _ HL.out).mono ?_; rintro e w1 ⟨A1, c1, rfl, g1, rfl⟩; have G1 := hid g1; clear g1) | (go_at_call 14; (with_reducible refine (N1.out _ _ G1.out).mono ?_); rintro e w2 ⟨rfl, k2⟩) | (go_at_call 15; (with_reducible refine (N2.out _ _ (Kept.ints ?_ G1.out)).mono ?_); exact (by repeat (first | exact Kept.refl _ | assumption | refine Kept.alloc ?_ _ | refine Kept.drew ?_ | refine Kept.drewN ?_ _ | refine Kept.setCell ?_ (by simp; try omega) _ | refine Kept.trans ?_ (by assumption))); rintro e w3 ⟨rfl, k3⟩) | (go_at_call 16; refine (P1.out _).mono ?_; rintro e w4 ⟨rfl, k4⟩) | (go_at_call 18; (with_reducible refine (same_t _ _ [] [] _ (ints_nil _) (ints_nil _) rfl).mono ?_); rintro e w6 ⟨rfl, k6⟩) | (go_at_call 12; refine (awake_any _ (Kept.tab (by repeat (first | exact Kept.refl _ | assumption | refine Kept.alloc ?_ _ | refine Kept.drew ?_ | refine Kept.drewN ?_ _ | refine Kept.setCell ?_ (by simp; try omega) _ | refine Kept.trans ?_ (by assumption))) HT.out)).mono ?_; rintro e w7 ⟨rfl, k7⟩))
      go_ret
      exact ⟨rfl, (by repeat (first | exact Kept.refl _ | assumption | refine Kept.alloc ?_ _ | refine Kept.drew ?_ | refine Kept.drewN ?_ _ | refine Kept.setCell ?_ (by simp; try omega) _ | refine Kept.trans ?_ (by assumption)))⟩
    · have z1 : ((k : Int) + 1 == 0) = false := by simp; omega
      go_enter Tryd.func4, Tryd.ntmps4
      go_wp2_with (first | (go_at_call 13; refine (few_len L M _ ⟨hM, hk⟩ v _ HL.out).mono ?_; rintro e w1 ⟨A1, c1, rfl, g1, rfl⟩; have G1 := hid g1; clear g1) | (go_at_call 14; (with_reducible refine (N1.out _ _ G1.out).mono ?_); rintro e w2 ⟨rfl, k2⟩) | (go_at_call 15; (with_reducible refine (N2.out _ _ (Kept.ints ?_ G1.out)).mono ?_); exact (by repeat (first | exact Kept.refl _ | assumption | refine Kept.alloc ?_ _ | refine Kept.drew ?_ | refine Kept.drewN ?_ _ | refine Kept.setCell ?_ (by simp; try omega) _ | refine Kept.trans ?_ (by assumption))); rintro e w3 ⟨rfl, k3⟩) | (go_at_call 16; refine (P1.out _).mono ?_; rintro e w4 ⟨rfl, k4⟩) | (go_at_call 18; (with_reducible refine (same_t _ _ [] [] _ (ints_nil _) (ints_nil _) rfl).mono ?_); rintro e w6 ⟨rfl, k6⟩) | (go_at_call 12; refine (awake_any _ (Kept.tab (by repeat (first | exact Kept.refl _ | assumption | refine Kept.alloc ?_ _ | refine Kept.drew ?_ | refine Kept.drewN ?_ _ | refine Kept.setCell ?_ (by simp; try omega) _ | refine Kept.trans ?_ (by assumption))) HT.out)).mono ?_; rintro e w7 ⟨rfl, k7⟩))
      go_ret
      exact ⟨rfl, (by repeat (first | exact Kept.refl _ | assumption | refine Kept.alloc ?_ _ | refine Kept.drew ?_ | refine Kept.drewN ?_ _ | refine Kept.setCell ?_ (by simp; try omega) _ | refine Kept.trans ?_ (by assumption)))⟩

set_option maxRecDepth 100000 in
set_option maxHeartbeats 1000000 in
theorem nodes_hi (n : Int) (h : 258 ≤ n) (h0 : 0 ≤ n) (L : List Int) (v : Value) (w : World) (hL : Ints w v L) (ht : Tab w) :
    Calls Tryd.prog 4 #[v, .int .i64 n] w fun e w' => e = .returned (.bool true) ∧ Kept w w' := by
  have HT := hid ht; clear ht
  have HL := hid hL; clear hL
  have P1 := hid (fun w => node_no n (.inr h) w)
  obtain ⟨M, hM⟩ : ∃ M, L.take 6 = M := ⟨_, rfl⟩
  cases hb : numF M with
  | some m =>
    have hm : 0 ≤ m := by obtain ⟨k, -, -, rfl⟩ := (numF_iff _ m).1 hb; omega
    have N1 := hid (number_yes _ m hb)
    have N2 := hid (rnumber_yes _ m hb)
    obtain ⟨k, hk⟩ : ∃ k, M.length = k + 1 := by cases M with
      | nil => cases hb
      | cons a r => exact ⟨r.length, rfl⟩
    clear hb
    have z1 : ((k : Int) + 1 == 0) = false := by simp; omega
    go_enter Tryd.func4, Tryd.ntmps4
    go_wp2_with (first | (go_at_call 13; refine (few_len L M _ ⟨hM, hk⟩ v _ HL.out).mono ?_; rintro e w1 ⟨A1, c1, rfl, g1, rfl⟩; have G1 := hid g1; clear g1) | (go_at_call 14; (with_reducible refine (N1.out _ _ G1.out).mono ?_); rintro e w2 ⟨rfl, k2⟩) | (go_at_call 15; (with_reducible refine (N2.out _ _ (Kept.ints ?_ G1.out)).mono ?_); exact (by repeat (first | exact Kept.refl _ | assumption | refine Kept.alloc ?_ _ | refine Kept.drew ?_ | refine Kept.drewN ?_ _ | refine Kept.setCell ?_ (by simp; try omega) _ | refine Kept.trans ?_ (by assumption))); rintro e w3 ⟨rfl, k3⟩) | (go_at_call 16; refine (P1.out _).mono ?_; rintro e w4 ⟨rfl, k4⟩) | (go_at_call 18; (with_reducible refine (same_t _ _ [] [] _ (ints_nil _) (ints_nil _) rfl).mono ?_); rintro e w6 ⟨rfl, k6⟩) | (go_at_call 12; refine (awake_any _ (Kept.tab (by repeat (first | exact Kept.refl _ | assumption | refine Kept.alloc ?_ _ | refine Kept.drew ?_ | refine Kept.drewN ?_ _ | refine Kept.setCell ?_ (by simp; try omega) _ | refine Kept.trans ?_ (by assumption))) HT.out)).mono ?_; rintro e w7 ⟨rfl, k7⟩))
    go_ret
    exact ⟨rfl, (by repeat (first | exact Kept.refl _ | assumption | refine Kept.alloc ?_ _ | refine Kept.drew ?_ | refine Kept.drewN ?_ _ | refine Kept.setCell ?_ (by simp; try omega) _ | refine Kept.trans ?_ (by assumption)))⟩
  | none =>
    have N1 := hid (number_none _ hb)
    have N2 := hid (rnumber_none _ hb)
    clear hb
    obtain hk | ⟨k, hk⟩ : M.length = 0 ∨ ∃ k, M.length = k + 1 := by cases M with
      | nil => exact .inl rfl
      | cons a r => exact .inr ⟨r.length, rfl⟩
    · go_enter Tryd.func4, Tryd.ntmps4
      go_wp2_with (first | (go_at_call 13; refine (few_len L M _ ⟨hM, hk⟩ v _ HL.out).mono ?_; rintro e w1 ⟨A1, c1, rfl, g1, rfl⟩; have G1 := hid g1; clear g1) | (go_at_call 14; (with_reducible refine (N1.out _ _ G1.out).mono ?_); rintro e w2 ⟨rfl, k2⟩) | (go_at_call 15; (with_reducible refine (N2.out _ _ (Kept.ints ?_ G1.out)).mono ?_); exact (by repeat (first | exact Kept.refl _ | assumption | refine Kept.alloc ?_ _ | refine Kept.drew ?_ | refine Kept.drewN ?_ _ | refine Kept.setCell ?_ (by simp; try omega) _ | refine Kept.trans ?_ (by assumption))); rintro e w3 ⟨rfl, k3⟩) | (go_at_call 16; refine (P1.out _).mono ?_; rintro e w4 ⟨rfl, k4⟩) | (go_at_call 18; (with_reducible refine (same_t _ _ [] [] _ (ints_nil _) (ints_nil _) rfl).mono ?_); rintro e w6 ⟨rfl, k6⟩) | (go_at_call 12; refine (awake_any _ (Kept.tab (by repeat (first | exact Kept.refl _ | assumption | refine Kept.alloc ?_ _ | refine Kept.drew ?_ | refine Kept.drewN ?_ _ | refine Kept.setCell ?_ (by simp; try omega) _ | refine Kept.trans ?_ (by assumption))) HT.out)).mono ?_; rintro e w7 ⟨rfl, k7⟩))
      go_ret
      exact ⟨rfl, (by repeat (first | exact Kept.refl _ | assumption | refine Kept.alloc ?_ _ | refine Kept.drew ?_ | refine Kept.drewN ?_ _ | refine Kept.setCell ?_ (by simp; try omega) _ | refine Kept.trans ?_ (by assumption)))⟩
    · have z1 : ((k : Int) + 1 == 0) = false := by simp; omega
      go_enter Tryd.func4, Tryd.ntmps4
      go_wp2_with (first | (go_at_call 13; refine (few_len L M _ ⟨hM, hk⟩ v _ HL.out).mono ?_; rintro e w1 ⟨A1, c1, rfl, g1, rfl⟩; have G1 := hid g1; clear g1) | (go_at_call 14; (with_reducible refine (N1.out _ _ G1.out).mono ?_); rintro e w2 ⟨rfl, k2⟩) | (go_at_call 15; (with_reducible refine (N2.out _ _ (Kept.ints ?_ G1.out)).mono ?_); exact (by repeat (first | exact Kept.refl _ | assumption | refine Kept.alloc ?_ _ | refine Kept.drew ?_ | refine Kept.drewN ?_ _ | refine Kept.setCell ?_ (by simp; try omega) _ | refine Kept.trans ?_ (by assumption))); rintro e w3 ⟨rfl, k3⟩) | (go_at_call 16; refine (P1.out _).mono ?_; rintro e w4 ⟨rfl, k4⟩) | (go_at_call 18; (with_reducible refine (same_t _ _ [] [] _ (ints_nil _) (ints_nil _) rfl).mono ?_); rintro e w6 ⟨rfl, k6⟩) | (go_at_call 12; refine (awake_any _ (Kept.tab (by repeat (first | exact Kept.refl _ | assumption | refine Kept.alloc ?_ _ | refine Kept.drew ?_ | refine Kept.drewN ?_ _ | refine Kept.setCell ?_ (by simp; try omega) _ | refine Kept.trans ?_ (by assumption))) HT.out)).mono ?_; rintro e w7 ⟨rfl, k7⟩))
      go_ret
      exact ⟨rfl, (by repeat (first | exact Kept.refl _ | assumption | refine Kept.alloc ?_ _ | refine Kept.drew ?_ | refine Kept.drewN ?_ _ | refine Kept.setCell ?_ (by simp; try omega) _ | refine Kept.trans ?_ (by assumption)))⟩

theorem nodes_walk (L : List Int) (v : Value) (w : World) (hL : Ints w v L) (n : Int) (ht : Tab w) :
    Calls Tryd.prog 4 #[v, .int .i64 n] w fun e w' => e = .returned (.bool true) ∧ Kept w w' := by
  by_cases h : 0 ≤ n
  · by_cases h' : n < 258
    · exact nodes_in n h h' L v w hL ht
    · exact nodes_hi n (by omega) h L v w hL ht
  · exact nodes_lo n (by omega) L v w hL ht
end Go.Proofs.YtcloijjiemlbdaaDoor
