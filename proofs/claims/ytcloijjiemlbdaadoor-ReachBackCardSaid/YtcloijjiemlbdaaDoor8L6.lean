/- ReachBack: the walk. -/
import Derived.Test.YtcloijjiemlbdaaDoor8L5
namespace Go.Proofs.YtcloijjiemlbdaaDoor
set_option linter.unusedSimpArgs false
set_option linter.unusedVariables false
open Go.RowKit

theorem nodes_back (n : Nat) (hn : n < 3621) (U : List Int) (u : Nat) (hU : upTo (onAll [(n : Int)]) 258 = U ∧ U.length = u) (v : Value) (w : World) (hL : Ints w v [(n : Int)]) (ht : Tab w) : Calls Tryd.prog 23 #[v] w
    fun e w' => ∃ A c, e = .returned (.tuple #[.slice A u c, .int .i64 0]) ∧ Ints w' (.slice A u c) U ∧ Kept w w' := by
  refine (nodes_yes [(n : Int)] (by intro x hx; obtain rfl := List.mem_singleton.1 hx; omega) v w hL ht).mono fun e w' ⟨v', he, hi, hk⟩ => ?_
  rw [hU.1] at hi
  obtain ⟨A, c, rfl⟩ := hi.shape
  rw [hU.2] at he hi
  exact ⟨A, c, he, hi, hk⟩
theorem node_at (x : Nat) (L : List Int) (hx : x < 258) (h : nodeOf x = L) (w : World) : Calls Tryd.prog 16 #[.int .i64 x] w
    fun e w' => ∃ v, e = .returned (.tuple #[v, .int .i64 0]) ∧ Ints w' v L ∧ Kept w w' := by
  have := node_any x (by omega) (by omega) w
  rwa [show ((x : Int)).toNat = x by omega, h] at this

set_option maxRecDepth 100000 in
set_option maxHeartbeats 1000000 in
theorem back_eq (n m : Int) (a b : Nat) (hn0 : 0 ≤ n) (hn1 : n ≤ 65535) (hm0 : 0 ≤ m) (hm1 : m ≤ 65535) (ha : n % 3621 = (a : Int)) (hb : m % 3621 = (b : Int)) (hab : a = b) (w : World) (ht : Tab w) :
    Calls Tryd.prog 8 #[.int .u16 n, .int .u16 m] w fun e w' => e = .returned (.bool true) ∧ Kept w w' := by
  have HT := hid ht; clear ht
  have ha3 : a < 3621 := by omega
  have hb3 : b < 3621 := by omega
  obtain ⟨P, hP⟩ : ∃ P, pathOf a = P := ⟨_, rfl⟩
  obtain ⟨p, hp⟩ : ∃ p, P.length = p := ⟨_, rfl⟩
  obtain ⟨Q, hQ⟩ : ∃ Q, pathOf b = Q := ⟨_, rfl⟩
  obtain ⟨q, hq⟩ : ∃ q, Q.length = q := ⟨_, rfl⟩
  obtain ⟨U, hU⟩ : ∃ U, upTo (onAll [(a : Int)]) 258 = U := ⟨_, rfl⟩
  obtain ⟨u, hu⟩ : ∃ u, U.length = u := ⟨_, rfl⟩
  have HP := hid (path_at_len a P p (by omega) (by omega) ⟨by simpa using hP, hp⟩)
  have HQ := hid (path_at_len b Q q (by omega) (by omega) ⟨by simpa using hQ, hq⟩)
  have HU := hid (nodes_back a ha3 U u ⟨hU, hu⟩)
  have HK := hid (block_yes P a ((blkF_iff _ _).2 ⟨a, ha3, hP, rfl⟩))
  have hp4 : (p : Int) ≤ 4 := by have := (path_len a).2; rw [hP, hp] at this; omega
  have hp1 : 1 ≤ p := by have := (path_len a).1; rw [hP, hp] at this; omega
  obtain ⟨hb1, hb2⟩ := back_core a ha3
  rw [hP, hU, hp, hu] at hb1
  rw [hP, hU, hp] at hb2
  have hlen : ((u : Int) != (p : Int) - 1) = false := by simp; omega
  have HB := hid hb2
  have HB1 := hid hb1
  have HPQ : Hid (P = Q) := by rw [Hid, ← hP, ← hQ, hab]
  have hab1 : (a == b) = true := by simpa using hab
  have hab2 : ((a : Int) == (b : Int)) = true := by simp; omega
  clear hP hp hQ hq hU hu hb1 hb2 hab ha3 hb3
  go_enter Tryd.func8, Tryd.ntmps8
  go_wp2_with (fail)
  have HA := hid (And.intro ha hb); clear ha hb
  go_wp2_with (go_at_call 19; (with_reducible refine (HP.out _ HT.out).mono ?_); rintro e w2 ⟨b2, o2, c2, rfl, g2, k2⟩; have G2 := hid g2; clear g2; have T2 := hid (Kept.tab k2 HT.out))
  go_wp2_with (go_at_call 19; (with_reducible refine (HQ.out _ T2.out).mono ?_); rintro e w3 ⟨b3, o3, c3, rfl, g3, k3⟩; have G3 := hid g3; clear g3; have T3 := hid (Kept.tab k3 T2.out); have G23 := hid (Kept.ints k3 G2.out))
  go_wp2_with (go_at_call 21; (with_reducible refine (HK.out _ _ G23.out T3.out).mono ?_); rintro e w4 ⟨rfl, k4⟩; have T4 := hid (Kept.tab k4 T3.out))
  go_wp2_with (go_at_call 23; (with_reducible refine (HU.out _ _ (ints_new1 _ _ _ rfl) (Kept.tab (by repeat (first | exact Kept.refl _ | assumption | refine Kept.alloc ?_ _ | refine Kept.drew ?_ | refine Kept.drewN ?_ _ | refine Kept.setCell ?_ (by simp; try omega) _ | refine Kept.trans ?_ (by assumption))) T4.out)).mono ?_); rintro e w5 ⟨A5, c5, rfl, g5, k5⟩; have G5 := hid g5; clear g5; have K5 := hid (show Kept w4 w5 from (by repeat (first | exact Kept.refl _ | assumption | refine Kept.alloc ?_ _ | refine Kept.drew ?_ | refine Kept.drewN ?_ _ | refine Kept.setCell ?_ (by simp; try omega) _ | refine Kept.trans ?_ (by assumption)))); clear k5)
  go_wp2_with (go_at_call 18; (with_reducible refine (same_t _ _ P Q _ (Kept.ints ?_ G23.out) (Kept.ints ?_ G3.out) HPQ.out).mono ?_); exact Kept.trans k4 K5.out; exact Kept.trans k4 K5.out; rintro e w6 ⟨rfl, k6⟩)
  have K6 := hid (show Kept w w6 from Kept.trans (Kept.trans (Kept.trans (Kept.trans k2 k3) k4) K5.out) k6)
  have G26 := hid (Kept.ints (Kept.trans (Kept.trans k4 K5.out) k6) G23.out)
  have G56 := hid (Kept.ints k6 G5.out)
  clear k2 k3 k4 k6
  go_loopw [15] (fun t wr => ∃ k : Nat, 1 ≤ k ∧ k ≤ p ∧ t = .int .i64 k ∧ Kept w6 wr) (fun t _ => (p - intOf t).toNat)
  case atStart => exact ⟨1, by omega, by omega, rfl, Kept.refl _⟩
  case round =>
    obtain ⟨k, hk1, hkp, rfl, hkr⟩ := hrel
    by_cases hlt : k < p
    · obtain ⟨x, hx, hnum, hnode, hget⟩ := HB.out k hk1 hlt
      obtain ⟨b5, o5, rfl, hcl⟩ := G56.out.cells (by have := HB1.out; omega)
      have ck := hkr.keeps (hcl (k - 1) (by have := HB1.out; omega))
      clear hcl
      rw [hget] at ck
      have HN := hid (number_yes _ _ hnum)
      have HD := hid (node_at x _ hx hnode)
      clear hnum hnode hget
      have hne : ((x : Int) != (x : Int)) = false := by simp
      have hkc : k ≤ c2 := by have := G26.out.len; omega
      have hku : ((k : Int) - 1) < (u : Int) := by have := HB1.out; omega
      have hku2 : k - 1 < u := by have := HB1.out; omega
      go_wp2_with (go_at_call 14; (with_reducible refine (HN.out _ _ (Ints.take (Kept.ints hkr G26.out) k ?_)).mono ?_); omega; rintro e w7 ⟨rfl, k7⟩)
      go_wp2_with (go_at_call 16; (with_reducible refine (HD.out _).mono ?_); rintro e w8 ⟨v8, rfl, g8, k8⟩; have G8 := hid g8; clear g8)
      have ck8 := k8.keeps (k7.keeps ck)
      go_wp2_with (go_at_call 18; (with_reducible refine (same_t _ _ (P.take k) (P.take k) _ G8.out (Ints.take (Kept.ints (Kept.trans (Kept.trans hkr k7) k8) G26.out) k ?_) rfl).mono ?_); omega; rintro e w9 ⟨rfl, k9⟩; have ck9 := k9.keeps ck8)
      go_roundw
      case rel => exact ⟨k + 1, by omega, by omega, by go_num, (by repeat (first | exact Kept.refl _ | assumption | refine Kept.alloc ?_ _ | refine Kept.drew ?_ | refine Kept.drewN ?_ _ | refine Kept.setCell ?_ (by simp; try omega) _ | refine Kept.trans ?_ (by assumption)))⟩
      case measure => simp [intOf]; omega
    · obtain rfl : k = p := by omega
      go_wp2_with (go_at_call 12; refine (awake_any _ (Kept.tab (Kept.trans K6.out hkr) HT.out)).mono ?_; rintro e w7 ⟨rfl, k7⟩)
      go_ret
      exact ⟨rfl, Kept.trans K6.out (Kept.trans hkr k7)⟩

set_option maxRecDepth 100000 in
set_option maxHeartbeats 1000000 in
theorem back_ne (n m : Int) (a b : Nat) (hn0 : 0 ≤ n) (hn1 : n ≤ 65535) (hm0 : 0 ≤ m) (hm1 : m ≤ 65535) (ha : n % 3621 = (a : Int)) (hb : m % 3621 = (b : Int)) (hab : ¬ a = b) (w : World) (ht : Tab w) :
    Calls Tryd.prog 8 #[.int .u16 n, .int .u16 m] w fun e w' => e = .returned (.bool true) ∧ Kept w w' := by
  have HT := hid ht; clear ht
  have ha3 : a < 3621 := by omega
  have hb3 : b < 3621 := by omega
  obtain ⟨P, hP⟩ : ∃ P, pathOf a = P := ⟨_, rfl⟩
  obtain ⟨p, hp⟩ : ∃ p, P.length = p := ⟨_, rfl⟩
  obtain ⟨Q, hQ⟩ : ∃ Q, pathOf b = Q := ⟨_, rfl⟩
  obtain ⟨q, hq⟩ : ∃ q, Q.length = q := ⟨_, rfl⟩
  obtain ⟨U, hU⟩ : ∃ U, upTo (onAll [(a : Int)]) 258 = U := ⟨_, rfl⟩
  obtain ⟨u, hu⟩ : ∃ u, U.length = u := ⟨_, rfl⟩
  have HP := hid (path_at_len a P p (by omega) (by omega) ⟨by simpa using hP, hp⟩)
  have HQ := hid (path_at_len b Q q (by omega) (by omega) ⟨by simpa using hQ, hq⟩)
  have HU := hid (nodes_back a ha3 U u ⟨hU, hu⟩)
  have HK := hid (block_yes P a ((blkF_iff _ _).2 ⟨a, ha3, hP, rfl⟩))
  have hp4 : (p : Int) ≤ 4 := by have := (path_len a).2; rw [hP, hp] at this; omega
  have hp1 : 1 ≤ p := by have := (path_len a).1; rw [hP, hp] at this; omega
  obtain ⟨hb1, hb2⟩ := back_core a ha3
  rw [hP, hU, hp, hu] at hb1
  rw [hP, hU, hp] at hb2
  have hlen : ((u : Int) != (p : Int) - 1) = false := by simp; omega
  have HB := hid hb2
  have HB1 := hid hb1
  have HPQ : Hid (¬ P = Q) := by rw [Hid, ← hP, ← hQ]; exact fun h => hab (pathOf_inj a b ha3 hb3 h)
  have hab1 : (a == b) = false := by simpa using hab
  have hab2 : ((a : Int) == (b : Int)) = false := by simp; omega
  clear hP hp hQ hq hU hu hb1 hb2 hab ha3 hb3
  go_enter Tryd.func8, Tryd.ntmps8
  go_wp2_with (fail)
  have HA := hid (And.intro ha hb); clear ha hb
  go_wp2_with (go_at_call 19; (with_reducible refine (HP.out _ HT.out).mono ?_); rintro e w2 ⟨b2, o2, c2, rfl, g2, k2⟩; have G2 := hid g2; clear g2; have T2 := hid (Kept.tab k2 HT.out))
  go_wp2_with (go_at_call 19; (with_reducible refine (HQ.out _ T2.out).mono ?_); rintro e w3 ⟨b3, o3, c3, rfl, g3, k3⟩; have G3 := hid g3; clear g3; have T3 := hid (Kept.tab k3 T2.out); have G23 := hid (Kept.ints k3 G2.out))
  go_wp2_with (go_at_call 21; (with_reducible refine (HK.out _ _ G23.out T3.out).mono ?_); rintro e w4 ⟨rfl, k4⟩; have T4 := hid (Kept.tab k4 T3.out))
  go_wp2_with (go_at_call 23; (with_reducible refine (HU.out _ _ (ints_new1 _ _ _ rfl) (Kept.tab (by repeat (first | exact Kept.refl _ | assumption | refine Kept.alloc ?_ _ | refine Kept.drew ?_ | refine Kept.drewN ?_ _ | refine Kept.setCell ?_ (by simp; try omega) _ | refine Kept.trans ?_ (by assumption))) T4.out)).mono ?_); rintro e w5 ⟨A5, c5, rfl, g5, k5⟩; have G5 := hid g5; clear g5; have K5 := hid (show Kept w4 w5 from (by repeat (first | exact Kept.refl _ | assumption | refine Kept.alloc ?_ _ | refine Kept.drew ?_ | refine Kept.drewN ?_ _ | refine Kept.setCell ?_ (by simp; try omega) _ | refine Kept.trans ?_ (by assumption)))); clear k5)
  go_wp2_with (go_at_call 18; (with_reducible refine (same_f _ _ P Q _ (Kept.ints ?_ G23.out) (Kept.ints ?_ G3.out) HPQ.out).mono ?_); exact Kept.trans k4 K5.out; exact Kept.trans k4 K5.out; rintro e w6 ⟨rfl, k6⟩)
  have K6 := hid (show Kept w w6 from Kept.trans (Kept.trans (Kept.trans (Kept.trans k2 k3) k4) K5.out) k6)
  have G26 := hid (Kept.ints (Kept.trans (Kept.trans k4 K5.out) k6) G23.out)
  have G56 := hid (Kept.ints k6 G5.out)
  clear k2 k3 k4 k6
  go_loopw [15] (fun t wr => ∃ k : Nat, 1 ≤ k ∧ k ≤ p ∧ t = .int .i64 k ∧ Kept w6 wr) (fun t _ => (p - intOf t).toNat)
  case atStart => exact ⟨1, by omega, by omega, rfl, Kept.refl _⟩
  case round =>
    obtain ⟨k, hk1, hkp, rfl, hkr⟩ := hrel
    by_cases hlt : k < p
    · obtain ⟨x, hx, hnum, hnode, hget⟩ := HB.out k hk1 hlt
      obtain ⟨b5, o5, rfl, hcl⟩ := G56.out.cells (by have := HB1.out; omega)
      have ck := hkr.keeps (hcl (k - 1) (by have := HB1.out; omega))
      clear hcl
      rw [hget] at ck
      have HN := hid (number_yes _ _ hnum)
      have HD := hid (node_at x _ hx hnode)
      clear hnum hnode hget
      have hne : ((x : Int) != (x : Int)) = false := by simp
      have hkc : k ≤ c2 := by have := G26.out.len; omega
      have hku : ((k : Int) - 1) < (u : Int) := by have := HB1.out; omega
      have hku2 : k - 1 < u := by have := HB1.out; omega
      go_wp2_with (go_at_call 14; (with_reducible refine (HN.out _ _ (Ints.take (Kept.ints hkr G26.out) k ?_)).mono ?_); omega; rintro e w7 ⟨rfl, k7⟩)
      go_wp2_with (go_at_call 16; (with_reducible refine (HD.out _).mono ?_); rintro e w8 ⟨v8, rfl, g8, k8⟩; have G8 := hid g8; clear g8)
      have ck8 := k8.keeps (k7.keeps ck)
      go_wp2_with (go_at_call 18; (with_reducible refine (same_t _ _ (P.take k) (P.take k) _ G8.out (Ints.take (Kept.ints (Kept.trans (Kept.trans hkr k7) k8) G26.out) k ?_) rfl).mono ?_); omega; rintro e w9 ⟨rfl, k9⟩; have ck9 := k9.keeps ck8)
      go_roundw
      case rel => exact ⟨k + 1, by omega, by omega, by go_num, (by repeat (first | exact Kept.refl _ | assumption | refine Kept.alloc ?_ _ | refine Kept.drew ?_ | refine Kept.drewN ?_ _ | refine Kept.setCell ?_ (by simp; try omega) _ | refine Kept.trans ?_ (by assumption)))⟩
      case measure => simp [intOf]; omega
    · obtain rfl : k = p := by omega
      go_wp2_with (go_at_call 12; refine (awake_any _ (Kept.tab (Kept.trans K6.out hkr) HT.out)).mono ?_; rintro e w7 ⟨rfl, k7⟩)
      go_ret
      exact ⟨rfl, Kept.trans K6.out (Kept.trans hkr k7)⟩

theorem back_walk (n : Int) (hn : 0 ≤ n ∧ n ≤ 65535) (m : Int) (hm : 0 ≤ m ∧ m ≤ 65535) (w : World) (ht : Tab w) :
    Calls Tryd.prog 8 #[.int .u16 n, .int .u16 m] w fun e w' => e = .returned (.bool true) ∧ Kept w w' := by
  have ha : n % 3621 = (((n % 3621).toNat : Nat) : Int) := by omega
  have hb : m % 3621 = (((m % 3621).toNat : Nat) : Int) := by omega
  by_cases h : (n % 3621).toNat = (m % 3621).toNat
  · exact back_eq n m _ _ hn.1 hn.2 hm.1 hm.2 ha hb h w ht
  · exact back_ne n m _ _ hn.1 hn.2 hm.1 hm.2 ha hb h w ht
end Go.Proofs.YtcloijjiemlbdaaDoor
