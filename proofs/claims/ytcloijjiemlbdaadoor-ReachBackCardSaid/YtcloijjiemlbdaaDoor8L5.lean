/- ReachOrder: the walk. -/
import Derived.Test.YtcloijjiemlbdaaDoor8L4
import Derived.Test.YtcloijjiemlbdaaDoor8Plain2
namespace Go.Proofs.YtcloijjiemlbdaaDoor
set_option linter.unusedSimpArgs false
set_option linter.unusedVariables false
open Go.RowKit

theorem nodes_cnt (m : Nat) (hm : m < 256) (u : Nat) (hu : cntF m = (u : Int)) (v : Value) (w : World) (hL : Ints w v (firsts m)) (ht : Tab w) : Calls Tryd.prog 23 #[v] w
    fun e w' => ∃ A c, e = .returned (.tuple #[.slice A u c, .int .i64 0]) ∧ Kept w w' := by
  refine (nodes_yes _ (firsts_in m (by omega)) v w hL ht).mono fun e w' ⟨v', he, hi, hk⟩ => ?_
  obtain ⟨A, c, rfl⟩ := hi.shape
  have := cnt_low m hm
  have hu' : (upTo (onAll (firsts m)) 258).length = u := by omega
  rw [hu'] at he
  exact ⟨A, c, he, hk⟩
theorem path_at_len (n : Int) (L : List Int) (l : Nat) (h0 : 0 ≤ n) (h1 : n < 3621) (h : pathOf n.toNat = L ∧ L.length = l) (w : World) (ht : Tab w) :
    Calls Tryd.prog 19 #[.int .i64 n] w fun e w' => ∃ b o c, e = .returned (.tuple #[.slice (some ⟨b, o, none⟩) l c, .int .i64 0]) ∧ Ints w' (.slice (some ⟨b, o, none⟩) l c) L ∧ Kept w w' := by
  refine (path_any n h0 h1 w ht).mono fun e w' ⟨v, he, hi, hk⟩ => ?_
  rw [h.1] at hi
  obtain ⟨A, c, rfl⟩ := hi.shape
  obtain ⟨b, o, rfl, -⟩ := hi.cells (by have := path_len n.toNat; rw [h.1] at this; omega)
  rw [h.2] at he hi
  exact ⟨b, o, c, he, hi, hk⟩

set_option maxRecDepth 100000 in
set_option maxHeartbeats 1000000 in
theorem order_eq (n m : Int) (K a b : Nat) (hn0 : 0 ≤ n) (hn1 : n ≤ 65535) (hm0 : 0 ≤ m) (hm1 : m ≤ 65535) (hK : (K : Int) ≤ 255) (ha : n % 3621 = (a : Int)) (hb : m % 3621 = (b : Int)) (hab : a = b) (w : World) (ht : Tab w) :
    Calls Tryd.prog 7 #[.int .u16 n, .int .u16 m, .int .u8 K] w fun e w' => e = .returned (.bool true) ∧ Kept w w' := by
  have HT := hid ht; clear ht
  have ha3 : a < 3621 := by omega
  have hb3 : b < 3621 := by omega
  obtain ⟨P, hP⟩ : ∃ P, pathOf a = P := ⟨_, rfl⟩
  obtain ⟨p, hp⟩ : ∃ p, P.length = p := ⟨_, rfl⟩
  have HP := hid (path_at_len a P p (by omega) (by omega) ⟨by simpa using hP, hp⟩)
  have hp4 : (p : Int) ≤ 4 := by have := (path_len a).2; rw [hP, hp] at this; omega
  have HQ := hid (path_at_len b P p (by omega) (by omega) ⟨by rw [← hab]; simpa using hP, hp⟩)
  clear hP hp
  obtain ⟨u, hu⟩ : ∃ u : Nat, cntF K = (u : Int) := ⟨(cntF K).toNat, by have := cntF_bd K (by omega); omega⟩
  have HN := hid (nodes_cnt K (by omega) u hu)
  have HC := hid (count_at K u hu)
  clear hu
  clear ha3 hb3
  have hnab : decide (a < b) = false := by simp; omega
  clear hab
  go_enter Tryd.func7, Tryd.ntmps7
  go_wp2_with (fail)
  have HA := hid (And.intro ha hb); clear ha hb
  go_wp2_with (go_at_call 19; (with_reducible refine (HP.out _ HT.out).mono ?_); rintro e w2 ⟨b2, o2, c2, rfl, g2, k2⟩; have G2 := hid g2; clear g2; have T2 := hid (Kept.tab k2 HT.out))
  go_wp2_with (go_at_call 19; (with_reducible refine (HQ.out _ T2.out).mono ?_); rintro e w3 ⟨b3, o3, c3, rfl, g3, k3⟩; have G3 := hid g3; clear g3)
  go_loopw [13, 14] (fun l t wr => ∃ k : Nat, k ≤ p ∧ t = .int .i64 k ∧ l = .bool false ∧ Kept w3 wr) (fun _ t _ => (p - intOf t).toNat)
  case atStart => exact ⟨0, by omega, rfl, rfl, Kept.refl _⟩
  case round =>
    obtain ⟨k, hkp, rfl, rfl, hkr⟩ := hrel
    by_cases hlt : k < p
    · have ck := hkr.keeps (k3.keeps ((G2.out.cells (by omega)).elim fun _ h => h.elim fun _ h => by obtain ⟨h1, h2⟩ := h; cases h1; exact h2 k hlt))
      have ck' := hkr.keeps ((G3.out.cells (by omega)).elim fun _ h => h.elim fun _ h => by obtain ⟨h1, h2⟩ := h; cases h1; exact h2 k hlt)
      have hi0 : (0 : Int) ≤ (k : Int) := by omega
      have hi1 : (k : Int) < (p : Int) := by omega
      generalize P.getD k 0 = x at ck ck'
      have hne : (x != x) = false := by simp
      go_wp2
      go_quiet (fail)
      go_wp2
      go_roundw
      case rel => exact ⟨k + 1, by omega, by go_num, rfl, (by repeat (first | exact Kept.refl _ | assumption | refine Kept.alloc ?_ _ | refine Kept.drew ?_ | refine Kept.drewN ?_ _ | refine Kept.setCell ?_ (by simp; try omega) _ | refine Kept.trans ?_ (by assumption)))⟩
      case measure => simp [intOf]; omega
    · obtain rfl : k = p := by omega
      go_wp2

      go_loopw [15, 16] (fun v t wl => ∃ i : Nat, i ≤ K ∧ t = .int .i64 i ∧ wl.ownsRow w.heap.size 3 1 v i ((firsts i).map (Value.int .i64)) ∧ Kept w wl) (fun _ t _ => (K - intOf t).toNat)
      case atStart => exact ⟨0, by omega, rfl, World.ownsRow_nil _ _ _ _, (by repeat (first | exact Kept.refl _ | assumption | refine Kept.alloc ?_ _ | refine Kept.drew ?_ | refine Kept.drewN ?_ _ | refine Kept.setCell ?_ (by simp; try omega) _ | refine Kept.trans ?_ (by assumption)))⟩
      case round =>
        obtain ⟨i, hi, rfl, hown, hkl⟩ := hrel
        by_cases hlt3 : i < K
        · have HS := hid (firsts_succ i)
          go_wp2_with (at_builtin; refine wpList_pushI (W := w) rfl (.tmp 77) (.tmp 79) rfl _ i (firsts i) i _ _ rfl hown rfl (by simp) (by omega) hkl ?_; intro v3 w4 hown3 hk3)
          go_roundw
          case rel => exact ⟨i + 1, by omega, by go_num, by rw [HS.out]; exact hown3, hk3⟩
          case measure => simp [intOf]; omega
        · obtain rfl : i = K := by omega
          have HO := hid (ints_own hown).1
          clear hown
          go_wp2_with (first
            | (go_at_call 23; (with_reducible refine (HN.out _ _ HO.out (Kept.tab (by repeat (first | exact Kept.refl _ | assumption | refine Kept.alloc ?_ _ | refine Kept.drew ?_ | refine Kept.drewN ?_ _ | refine Kept.setCell ?_ (by simp; try omega) _ | refine Kept.trans ?_ (by assumption))) HT.out)).mono ?_); rintro e w5 ⟨A5, c5, rfl, k5⟩)
            | (go_at_call 9; refine (HC.out _ (Kept.tab (by repeat (first | exact Kept.refl _ | assumption | refine Kept.alloc ?_ _ | refine Kept.drew ?_ | refine Kept.drewN ?_ _ | refine Kept.setCell ?_ (by simp; try omega) _ | refine Kept.trans ?_ (by assumption))) HT.out)).mono ?_; rintro e w6 ⟨rfl, rfl⟩)
            | (go_at_call 12; refine (awake_any _ (Kept.tab (by repeat (first | exact Kept.refl _ | assumption | refine Kept.alloc ?_ _ | refine Kept.drew ?_ | refine Kept.drewN ?_ _ | refine Kept.setCell ?_ (by simp; try omega) _ | refine Kept.trans ?_ (by assumption))) HT.out)).mono ?_; rintro e w7 ⟨rfl, k7⟩))
          go_ret
          exact ⟨rfl, (by repeat (first | exact Kept.refl _ | assumption | refine Kept.alloc ?_ _ | refine Kept.drew ?_ | refine Kept.drewN ?_ _ | refine Kept.setCell ?_ (by simp; try omega) _ | refine Kept.trans ?_ (by assumption)))⟩

set_option maxRecDepth 100000 in
set_option maxHeartbeats 1000000 in
theorem order_lt (n m : Int) (K a b : Nat) (hn0 : 0 ≤ n) (hn1 : n ≤ 65535) (hm0 : 0 ≤ m) (hm1 : m ≤ 65535) (hK : (K : Int) ≤ 255) (ha : n % 3621 = (a : Int)) (hb : m % 3621 = (b : Int)) (hab : a < b) (w : World) (ht : Tab w) :
    Calls Tryd.prog 7 #[.int .u16 n, .int .u16 m, .int .u8 K] w fun e w' => e = .returned (.bool true) ∧ Kept w w' := by
  have HT := hid ht; clear ht
  have ha3 : a < 3621 := by omega
  have hb3 : b < 3621 := by omega
  obtain ⟨ks, hk1, hk2, hk3, hk4⟩ := path_order a b hb3 hab
  obtain ⟨P, hP⟩ : ∃ P, pathOf a = P := ⟨_, rfl⟩
  obtain ⟨p, hp⟩ : ∃ p, P.length = p := ⟨_, rfl⟩
  obtain ⟨Q, hQ⟩ : ∃ Q, pathOf b = Q := ⟨_, rfl⟩
  obtain ⟨q, hq⟩ : ∃ q, Q.length = q := ⟨_, rfl⟩
  have HP := hid (path_at_len a P p (by omega) (by omega) ⟨by simpa using hP, hp⟩)
  have hp4 : (p : Int) ≤ 4 := by have := (path_len a).2; rw [hP, hp] at this; omega
  have HQ := hid (path_at_len b Q q (by omega) (by omega) ⟨by simpa using hQ, hq⟩)
  have hq4 : (q : Int) ≤ 4 := by have := (path_len b).2; rw [hQ, hq] at this; omega
  rw [hP, hQ] at hk3 hk4
  rw [hP, hp] at hk1
  rw [hQ, hq] at hk2
  have HE := hid hk3
  have HL := hid hk4
  clear hP hp hQ hq hk3 hk4
  obtain ⟨u, hu⟩ : ∃ u : Nat, cntF K = (u : Int) := ⟨(cntF K).toNat, by have := cntF_bd K (by omega); omega⟩
  have HN := hid (nodes_cnt K (by omega) u hu)
  have HC := hid (count_at K u hu)
  clear hu
  clear ha3 hb3
  go_enter Tryd.func7, Tryd.ntmps7
  go_wp2_with (fail)
  have HA := hid (And.intro ha hb); clear ha hb
  go_wp2_with (go_at_call 19; (with_reducible refine (HP.out _ HT.out).mono ?_); rintro e w2 ⟨b2, o2, c2, rfl, g2, k2⟩; have G2 := hid g2; clear g2; have T2 := hid (Kept.tab k2 HT.out))
  go_wp2_with (go_at_call 19; (with_reducible refine (HQ.out _ T2.out).mono ?_); rintro e w3 ⟨b3, o3, c3, rfl, g3, k3⟩; have G3 := hid g3; clear g3)
  go_loopw [14] (fun t wr => ∃ k : Nat, k ≤ ks ∧ t = .int .i64 k ∧ Kept w3 wr) (fun t _ => (ks + 1 - intOf t).toNat)
  case atStart => exact ⟨0, by omega, rfl, Kept.refl _⟩
  case round =>
    obtain ⟨k, hks, rfl, hkr⟩ := hrel
    have hkp : k < p := by omega
    have hkq : k < q := by omega
    have ck := hkr.keeps (k3.keeps ((G2.out.cells (by omega)).elim fun _ h => h.elim fun _ h => by obtain ⟨h1, h2⟩ := h; cases h1; exact h2 k hkp))
    have ck' := hkr.keeps ((G3.out.cells (by omega)).elim fun _ h => h.elim fun _ h => by obtain ⟨h1, h2⟩ := h; cases h1; exact h2 k hkq)
    have hi0 : (0 : Int) ≤ (k : Int) := by omega
    have hi1 : (k : Int) < (p : Int) := by omega
    have hi2 : (k : Int) < (q : Int) := by omega
    by_cases hlt : k < ks
    · have he := HE.out k hlt
      rw [he] at ck
      clear he
      generalize Q.getD k 0 = x at ck ck'
      have hne : (x != x) = false := by simp
      go_wp2
      go_quiet (fail)
      go_wp2
      go_roundw
      case rel => exact ⟨k + 1, by omega, by go_num, (by repeat (first | exact Kept.refl _ | assumption | refine Kept.alloc ?_ _ | refine Kept.drew ?_ | refine Kept.drewN ?_ _ | refine Kept.setCell ?_ (by simp; try omega) _ | refine Kept.trans ?_ (by assumption)))⟩
      case measure => simp [intOf]; omega
    · obtain rfl : k = ks := by omega
      have hl := HL.out
      generalize P.getD k 0 = x at ck ck' hl
      generalize Q.getD k 0 = y at ck ck' hl
      have hne : (x != y) = true := by rw [bne_iff_ne]; omega
      have hdl : decide (x < y) = true := by simp; omega
      go_wp2
      go_quiet (fail)
      go_wp2
      go_quiet (fail)
      go_wp2

      go_loopw [15, 16] (fun v t wl => ∃ i : Nat, i ≤ K ∧ t = .int .i64 i ∧ wl.ownsRow w.heap.size 3 1 v i ((firsts i).map (Value.int .i64)) ∧ Kept w wl) (fun _ t _ => (K - intOf t).toNat)
      case atStart => exact ⟨0, by omega, rfl, World.ownsRow_nil _ _ _ _, (by repeat (first | exact Kept.refl _ | assumption | refine Kept.alloc ?_ _ | refine Kept.drew ?_ | refine Kept.drewN ?_ _ | refine Kept.setCell ?_ (by simp; try omega) _ | refine Kept.trans ?_ (by assumption)))⟩
      case round =>
        obtain ⟨i, hi, rfl, hown, hkl⟩ := hrel
        by_cases hlt3 : i < K
        · have HS := hid (firsts_succ i)
          go_wp2_with (at_builtin; refine wpList_pushI (W := w) rfl (.tmp 77) (.tmp 79) rfl _ i (firsts i) i _ _ rfl hown rfl (by simp) (by omega) hkl ?_; intro v3 w4 hown3 hk3)
          go_roundw
          case rel => exact ⟨i + 1, by omega, by go_num, by rw [HS.out]; exact hown3, hk3⟩
          case measure => simp [intOf]; omega
        · obtain rfl : i = K := by omega
          have HO := hid (ints_own hown).1
          clear hown
          go_wp2_with (first
            | (go_at_call 23; (with_reducible refine (HN.out _ _ HO.out (Kept.tab (by repeat (first | exact Kept.refl _ | assumption | refine Kept.alloc ?_ _ | refine Kept.drew ?_ | refine Kept.drewN ?_ _ | refine Kept.setCell ?_ (by simp; try omega) _ | refine Kept.trans ?_ (by assumption))) HT.out)).mono ?_); rintro e w5 ⟨A5, c5, rfl, k5⟩)
            | (go_at_call 9; refine (HC.out _ (Kept.tab (by repeat (first | exact Kept.refl _ | assumption | refine Kept.alloc ?_ _ | refine Kept.drew ?_ | refine Kept.drewN ?_ _ | refine Kept.setCell ?_ (by simp; try omega) _ | refine Kept.trans ?_ (by assumption))) HT.out)).mono ?_; rintro e w6 ⟨rfl, rfl⟩)
            | (go_at_call 12; refine (awake_any _ (Kept.tab (by repeat (first | exact Kept.refl _ | assumption | refine Kept.alloc ?_ _ | refine Kept.drew ?_ | refine Kept.drewN ?_ _ | refine Kept.setCell ?_ (by simp; try omega) _ | refine Kept.trans ?_ (by assumption))) HT.out)).mono ?_; rintro e w7 ⟨rfl, k7⟩))
          go_ret
          exact ⟨rfl, (by repeat (first | exact Kept.refl _ | assumption | refine Kept.alloc ?_ _ | refine Kept.drew ?_ | refine Kept.drewN ?_ _ | refine Kept.setCell ?_ (by simp; try omega) _ | refine Kept.trans ?_ (by assumption)))⟩

set_option maxRecDepth 100000 in
set_option maxHeartbeats 1000000 in
theorem order_gt (n m : Int) (K a b : Nat) (hn0 : 0 ≤ n) (hn1 : n ≤ 65535) (hm0 : 0 ≤ m) (hm1 : m ≤ 65535) (hK : (K : Int) ≤ 255) (ha : n % 3621 = (a : Int)) (hb : m % 3621 = (b : Int)) (hab : b < a) (w : World) (ht : Tab w) :
    Calls Tryd.prog 7 #[.int .u16 n, .int .u16 m, .int .u8 K] w fun e w' => e = .returned (.bool true) ∧ Kept w w' := by
  have HT := hid ht; clear ht
  have ha3 : a < 3621 := by omega
  have hb3 : b < 3621 := by omega
  obtain ⟨ks, hk1, hk2, hk3, hk4⟩ := path_order b a ha3 hab
  obtain ⟨P, hP⟩ : ∃ P, pathOf a = P := ⟨_, rfl⟩
  obtain ⟨p, hp⟩ : ∃ p, P.length = p := ⟨_, rfl⟩
  obtain ⟨Q, hQ⟩ : ∃ Q, pathOf b = Q := ⟨_, rfl⟩
  obtain ⟨q, hq⟩ : ∃ q, Q.length = q := ⟨_, rfl⟩
  have HP := hid (path_at_len a P p (by omega) (by omega) ⟨by simpa using hP, hp⟩)
  have hp4 : (p : Int) ≤ 4 := by have := (path_len a).2; rw [hP, hp] at this; omega
  have HQ := hid (path_at_len b Q q (by omega) (by omega) ⟨by simpa using hQ, hq⟩)
  have hq4 : (q : Int) ≤ 4 := by have := (path_len b).2; rw [hQ, hq] at this; omega
  rw [hP, hQ] at hk3 hk4
  rw [hQ, hq] at hk1
  rw [hP, hp] at hk2
  have HE := hid hk3
  have HL := hid hk4
  clear hP hp hQ hq hk3 hk4
  obtain ⟨u, hu⟩ : ∃ u : Nat, cntF K = (u : Int) := ⟨(cntF K).toNat, by have := cntF_bd K (by omega); omega⟩
  have HN := hid (nodes_cnt K (by omega) u hu)
  have HC := hid (count_at K u hu)
  clear hu
  clear ha3 hb3
  have hnab : decide (a < b) = false := by simp; omega
  clear hab
  go_enter Tryd.func7, Tryd.ntmps7
  go_wp2_with (fail)
  have HA := hid (And.intro ha hb); clear ha hb
  go_wp2_with (go_at_call 19; (with_reducible refine (HP.out _ HT.out).mono ?_); rintro e w2 ⟨b2, o2, c2, rfl, g2, k2⟩; have G2 := hid g2; clear g2; have T2 := hid (Kept.tab k2 HT.out))
  go_wp2_with (go_at_call 19; (with_reducible refine (HQ.out _ T2.out).mono ?_); rintro e w3 ⟨b3, o3, c3, rfl, g3, k3⟩; have G3 := hid g3; clear g3)
  go_loopw [14] (fun t wr => ∃ k : Nat, k ≤ ks ∧ t = .int .i64 k ∧ Kept w3 wr) (fun t _ => (ks + 1 - intOf t).toNat)
  case atStart => exact ⟨0, by omega, rfl, Kept.refl _⟩
  case round =>
    obtain ⟨k, hks, rfl, hkr⟩ := hrel
    have hkp : k < p := by omega
    have hkq : k < q := by omega
    have ck := hkr.keeps (k3.keeps ((G2.out.cells (by omega)).elim fun _ h => h.elim fun _ h => by obtain ⟨h1, h2⟩ := h; cases h1; exact h2 k hkp))
    have ck' := hkr.keeps ((G3.out.cells (by omega)).elim fun _ h => h.elim fun _ h => by obtain ⟨h1, h2⟩ := h; cases h1; exact h2 k hkq)
    have hi0 : (0 : Int) ≤ (k : Int) := by omega
    have hi1 : (k : Int) < (p : Int) := by omega
    have hi2 : (k : Int) < (q : Int) := by omega
    by_cases hlt : k < ks
    · have he := HE.out k hlt
      rw [he] at ck'
      clear he
      generalize P.getD k 0 = x at ck ck'
      have hne : (x != x) = false := by simp
      go_wp2
      go_quiet (fail)
      go_wp2
      go_roundw
      case rel => exact ⟨k + 1, by omega, by go_num, (by repeat (first | exact Kept.refl _ | assumption | refine Kept.alloc ?_ _ | refine Kept.drew ?_ | refine Kept.drewN ?_ _ | refine Kept.setCell ?_ (by simp; try omega) _ | refine Kept.trans ?_ (by assumption)))⟩
      case measure => simp [intOf]; omega
    · obtain rfl : k = ks := by omega
      have hl := HL.out
      generalize P.getD k 0 = x at ck ck' hl
      generalize Q.getD k 0 = y at ck ck' hl
      have hne : (x != y) = true := by rw [bne_iff_ne]; omega
      have hdl : decide (x < y) = false := by simp; omega
      go_wp2
      go_quiet (fail)
      go_wp2
      go_quiet (fail)
      go_wp2

      go_loopw [15, 16] (fun v t wl => ∃ i : Nat, i ≤ K ∧ t = .int .i64 i ∧ wl.ownsRow w.heap.size 3 1 v i ((firsts i).map (Value.int .i64)) ∧ Kept w wl) (fun _ t _ => (K - intOf t).toNat)
      case atStart => exact ⟨0, by omega, rfl, World.ownsRow_nil _ _ _ _, (by repeat (first | exact Kept.refl _ | assumption | refine Kept.alloc ?_ _ | refine Kept.drew ?_ | refine Kept.drewN ?_ _ | refine Kept.setCell ?_ (by simp; try omega) _ | refine Kept.trans ?_ (by assumption)))⟩
      case round =>
        obtain ⟨i, hi, rfl, hown, hkl⟩ := hrel
        by_cases hlt3 : i < K
        · have HS := hid (firsts_succ i)
          go_wp2_with (at_builtin; refine wpList_pushI (W := w) rfl (.tmp 77) (.tmp 79) rfl _ i (firsts i) i _ _ rfl hown rfl (by simp) (by omega) hkl ?_; intro v3 w4 hown3 hk3)
          go_roundw
          case rel => exact ⟨i + 1, by omega, by go_num, by rw [HS.out]; exact hown3, hk3⟩
          case measure => simp [intOf]; omega
        · obtain rfl : i = K := by omega
          have HO := hid (ints_own hown).1
          clear hown
          go_wp2_with (first
            | (go_at_call 23; (with_reducible refine (HN.out _ _ HO.out (Kept.tab (by repeat (first | exact Kept.refl _ | assumption | refine Kept.alloc ?_ _ | refine Kept.drew ?_ | refine Kept.drewN ?_ _ | refine Kept.setCell ?_ (by simp; try omega) _ | refine Kept.trans ?_ (by assumption))) HT.out)).mono ?_); rintro e w5 ⟨A5, c5, rfl, k5⟩)
            | (go_at_call 9; refine (HC.out _ (Kept.tab (by repeat (first | exact Kept.refl _ | assumption | refine Kept.alloc ?_ _ | refine Kept.drew ?_ | refine Kept.drewN ?_ _ | refine Kept.setCell ?_ (by simp; try omega) _ | refine Kept.trans ?_ (by assumption))) HT.out)).mono ?_; rintro e w6 ⟨rfl, rfl⟩)
            | (go_at_call 12; refine (awake_any _ (Kept.tab (by repeat (first | exact Kept.refl _ | assumption | refine Kept.alloc ?_ _ | refine Kept.drew ?_ | refine Kept.drewN ?_ _ | refine Kept.setCell ?_ (by simp; try omega) _ | refine Kept.trans ?_ (by assumption))) HT.out)).mono ?_; rintro e w7 ⟨rfl, k7⟩))
          go_ret
          exact ⟨rfl, (by repeat (first | exact Kept.refl _ | assumption | refine Kept.alloc ?_ _ | refine Kept.drew ?_ | refine Kept.drewN ?_ _ | refine Kept.setCell ?_ (by simp; try omega) _ | refine Kept.trans ?_ (by assumption)))⟩

theorem order_walk (n : Int) (hn : 0 ≤ n ∧ n ≤ 65535) (m : Int) (hm : 0 ≤ m ∧ m ≤ 65535) (k : Int) (hk : 0 ≤ k ∧ k ≤ 255) (w : World) (ht : Tab w) :
    Calls Tryd.prog 7 #[.int .u16 n, .int .u16 m, .int .u8 k] w fun e w' => e = .returned (.bool true) ∧ Kept w w' := by
  obtain ⟨K, rfl⟩ : ∃ K : Nat, k = (K : Int) := ⟨k.toNat, by omega⟩
  have ha : n % 3621 = (((n % 3621).toNat : Nat) : Int) := by omega
  have hb : m % 3621 = (((m % 3621).toNat : Nat) : Int) := by omega
  rcases Nat.lt_trichotomy (n % 3621).toNat (m % 3621).toNat with h | h | h
  · exact order_lt n m K _ _ hn.1 hn.2 hm.1 hm.2 hk.2 ha hb h w ht
  · exact order_eq n m K _ _ hn.1 hn.2 hm.1 hm.2 hk.2 ha hb h w ht
  · exact order_gt n m K _ _ hn.1 hn.2 hm.1 hm.2 hk.2 ha hb h w ht
end Go.Proofs.YtcloijjiemlbdaaDoor
