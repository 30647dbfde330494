/- DevTorn: the states it goes through, and the walk. -/
import Derived.Test.Ytpbmkokjjcdhfaa4N
namespace Go.Proofs.Ytpbmkokjjcdhfaa
set_option linter.unusedSimpArgs false
set_option linter.unusedVariables false
open Go.RowKit

def zB : Nat → List UInt8 := fun _ => List.replicate 128 0
def t1 (c : UInt8) : DS := { newS 2 with pend := [(1, rep c)] }
def t2 (c : UInt8) : DS := { newS 2 with blk := upd zB 1 (rep c) }
def t3 (c n : UInt8) : DS := { newS 2 with blk := upd zB 1 (rep c), pend := [(1, rep n)] }
def tornL (c n : UInt8) (far : Int) : List UInt8 := (rep n).take (cl far) ++ (rep c).drop (cl far)
def t4 (c n : UInt8) (far : Int) : DS := { newS 2 with blk := upd (upd zB 1 (rep c)) 1 (tornL c n far), pow := false }
theorem t_e1 (c : UInt8) : wrE (newS 2) 1 (rep c).length = 0 := by rw [rep_len]; decide
theorem t_s1 (c : UInt8) : wrS (newS 2) 1 (rep c) = t1 c := by
  rw [wrS, if_neg (by rw [rep_len]; decide), if_pos (t_e1 c)]; rfl
theorem t_e2 (c : UInt8) : spendE (t1 c) = 0 := by rfl
theorem t_s2 (c : UInt8) : flS (t1 c) = t2 c := by
  have h : (rep c).take 128 ++ (zB 1).drop 128 = rep c := by
    rw [List.take_of_length_le (by rw [rep_len]; omega), List.drop_of_length_le (by simp [zB]), List.append_nil]
  rw [flS, if_pos (t_e2 c)]
  show ({ spendS (t1 c) with blk := upd zB 1 ((rep c).take 128 ++ (zB 1).drop 128), pend := [] } : DS) = _
  rw [h]; rfl
theorem t_e3 (c n : UInt8) : wrE (t2 c) 1 (rep n).length = 0 := by rw [rep_len]; rfl
theorem t_s3 (c n : UInt8) : wrS (t2 c) 1 (rep n) = t3 c n := by
  rw [wrS, if_neg (by rw [rep_len]; intro h; rcases h with h | h; cases h; exact h rfl), if_pos (t_e3 c n)]; rfl
theorem t_s4 (c n : UInt8) (far : Int) : crS (t3 c n) [far] = t4 c n far := by
  have h : upd zB 1 (rep c) 1 = rep c := by rw [upd, if_pos rfl]
  show ({ t3 c n with blk := upd (upd zB 1 (rep c)) 1 ((rep n).take (cl far) ++ (upd zB 1 (rep c) 1).drop (cl far)), pend := [], pow := false } : DS) = _
  rw [h]; rfl
theorem t_l4 (c n : UInt8) (far : Int) : hasL (t4 c n far) 1 = tornL c n far := by
  show upd (upd zB 1 (rep c)) 1 (tornL c n far) 1 = _
  rw [upd, if_pos rfl]
theorem t_e4 (c n : UInt8) (far : Int) : hasE (t4 c n far) 1 = 0 := by rfl
theorem tornL_len (c n : UInt8) (far : Int) : (tornL c n far).length = 128 := by
  have := cl_le far
  rw [tornL, List.length_append, List.length_take, List.length_drop, rep_len, rep_len]; omega
theorem tornL_at (c n : UInt8) (far : Int) (k : Nat) (hk : k < 128) : (tornL c n far).getD k 0 = if (k : Int) < far then n else c := by
  have h1 := cl_le far; have h2 := cl_int far
  rw [tornL, List.getD_eq_getElem?_getD]
  by_cases e : (k : Int) < far
  · rw [if_pos e, List.getElem?_append_left (by rw [List.length_take, rep_len]; omega), List.getElem?_take, if_pos (by omega), rep, List.getElem?_replicate, if_pos hk]; rfl
  · rw [if_neg e, List.getElem?_append_right (by rw [List.length_take, rep_len]; omega), List.length_take, rep_len, List.getElem?_drop, rep, List.getElem?_replicate, if_pos (by omega)]; rfl
theorem tornL_ne (c n : UInt8) (far : Int) : tornL c n far ≠ [] := by
  intro h; have := tornL_len c n far; rw [h] at this; cases this

set_option maxRecDepth 100000 in
set_option maxHeartbeats 4000000 in
theorem torn_any (c n : UInt8) (far : Int) (w : World) : Calls Try.prog 5 #[.int .u8 (c.toNat : Int), .int .u8 (n.toNat : Int), .int .i64 far] w fun e w' => e = .returned (.bool true) ∧ Kept w w' := by
  have HN := hid (new_any 2 (by decide) (by decide))
  have AC := hid (all_at c _ rfl)
  have AN := hid (all_at n _ rfl)
  have AW := hid awake_any
  have HL := hid (tornL_at c n far)
  generalize hx : (c.toNat : Int) = x at *
  generalize hy : (n.toNat : Int) = y at *
  have HX := hid hx; have HY := hid hy
  clear hx hy
  go_enter Try.func5, Try.ntmps5
  go_wp2_with (first
    | (go_at_call 8; refine (HN.out _).mono ?_; rintro e w1 ⟨h0, rfl, d0, k0⟩; obtain ⟨P, hP⟩ : ∃ P, P = h0.P := ⟨_, rfl⟩; rw [← hP]; have P0 := hid hP.symm; have D0 := hid d0; have K0 := hid k0; clear hP d0 k0)
    | (go_at_call 10; (with_reducible refine (AC.out _).mono ?_); rintro e w2 ⟨g7, rfl, o7, l7, k7⟩; have D1 := hid (k7.dev D0.out); have B7 := hid (all_bin D0.out k7 o7 l7); have K7 := hid k7; clear o7 l7 k7)
    | (go_at_call 9; (with_reducible refine (write_at 1 _ (rep c) _ D1.out P0.out B7.out (by decide) 0 (t_e1 c) _ (t_s1 c)).mono ?_); rintro e w3 ⟨rfl, h1, d1, s1, p1⟩; have D2 := hid d1; have S2 := hid s1; have P2 := hid p1; clear d1 s1 p1)
    | (go_at_call 11; refine (flush_at _ D2.out P2.out 0 (t_e2 c) _ (t_s2 c)).mono ?_; rintro e w4 ⟨rfl, h2, d2, s2, p2⟩; have D3 := hid d2; have S3 := hid s2; have P3 := hid p2; clear d2 s2 p2)
    | (go_at_call 10; (with_reducible refine (AN.out _).mono ?_); rintro e w5 ⟨g8, rfl, o8, l8, k8⟩; have D4 := hid (k8.dev D3.out); have B8 := hid (all_bin D3.out k8 o8 l8); have S4 := hid (k8.step h2); clear o8 l8 k8)
    | (go_at_call 9; (with_reducible refine (write_at 1 _ (rep n) _ D4.out P3.out B8.out (Nat.zero_le _) 0 (t_e3 c n) _ (t_s3 c n)).mono ?_); rintro e w6 ⟨rfl, h3, d3, s3, p3⟩; have D5 := hid d3; have S5 := hid s3; have P5 := hid p3; clear d3 s3 p3)
    | (go_at_call 13; refine (crash_at _ [far] _ (((Kept.refl w6).alloc _).dev D5.out) P5.out (nin_one ⟨by simp, D5.out.new_out (Nat.le_refl _)⟩ (by simp [go_sem])) _ (t_s4 c n far)).mono ?_; rintro e w7 ⟨rfl, h4, d4, s4, p4⟩; have D6 := hid d4; have S6 := hid (((Kept.refl w6).alloc _).step h3 |>.trans s4); have P6 := hid p4; clear d4 s4 p4)
    | (go_at_call 18; refine (has_at 1 _ D6.out P6.out _ (t_l4 c n far) 0 (t_e4 c n far)).mono ?_; rintro e w8 ⟨vb, rfl, hb, k9⟩; obtain ⟨gb, rfl, ob, lb⟩ := bout_some hb (tornL_ne c n far); have D7 := hid (k9.dev D6.out); have OB := hid ob; have S7 := hid (k9.step h4); clear ob lb hb k9)
    | (go_at_call 19; refine (power_at _ D7.out P6.out false rfl).mono ?_; rintro e w9 ⟨rfl, rfl⟩))
  have hkk : Kept w w8 := by
    have e1 := (K0.out.trans K7.out)
    have e2 := (S2.out.trans S3.out).trans (S4.out.trans (S5.out.trans (S6.out.trans S7.out)))
    exact e1.below.trans (e2.below D1.out (by have := e1.size; omega))
  have HKK := hid hkk
  have HC : ∀ k : Nat, k < 128 → w8.cell? ⟨gb, k, none⟩ = some (.int .u8 (if (k : Int) < far then y else x)) := fun k hk => by
    have h1 := OB.out.blk.cell k (by rw [tornL_len]; exact hk)
    rw [HL.out k hk] at h1
    rw [h1]
    split
    · rw [HY.out]
    · rw [HX.out]
  have HCC := hid HC
  clear hkk HC HL D0 D1 D2 D3 D4 D5 D6 D7 S2 S3 S4 S5 S6 S7 B7 B8 K0 K7 OB HX HY AC AN HN P0 P2 P3 P5 P6
  go_loopw [11] (fun t wr => ∃ k : Nat, k ≤ 128 ∧ t = .int .i64 k ∧ wr = w8) (fun t _ => 128 - (intOf t).toNat)
  case atStart => exact ⟨0, by omega, rfl, rfl⟩
  case round =>
    obtain ⟨k, hk, rfl, rfl⟩ := hrel
    by_cases hlt : k < 128
    · have hc := HCC.out k hlt
      have hk0 : (0 : Int) ≤ (k : Int) := by omega
      have hk1 : (k : Int) < 128 := by omega
      by_cases hf : (k : Int) < far
      · rw [if_pos hf] at hc
        go_wp2
        go_roundw
        case rel => exact ⟨k + 1, by omega, by go_num, trivial⟩
        case measure => simp [intOf]; omega
      · rw [if_neg hf] at hc
        go_wp2
        go_roundw
        case rel => exact ⟨k + 1, by omega, by go_num, trivial⟩
        case measure => simp [intOf]; omega
    · obtain rfl : k = 128 := by omega
      go_wp2_with (go_at_call 15; refine (AW.out _).mono ?_; rintro e w10 ⟨rfl, kA⟩)
      go_ret
      exact ⟨rfl, HKK.out.trans kA⟩
theorem octet_of (a : Int) (ra : 0 ≤ a ∧ a ≤ 255) : ∃ c : UInt8, (c.toNat : Int) = a :=
  ⟨UInt8.ofNat a.toNat, by rw [UInt8.toNat_ofNat_of_lt' (by simp [UInt8.size]; omega)]; omega⟩
theorem torn_at (a : Int) (ra : 0 ≤ a ∧ a ≤ 255) (b : Int) (rb : 0 ≤ b ∧ b ≤ 255) (far : Int) (w : World) : Calls Try.prog 5 #[.int .u8 a, .int .u8 b, .int .i64 far] w fun e w' => e = .returned (.bool true) ∧ Kept w w' := by
  obtain ⟨c, rfl⟩ := octet_of a ra
  obtain ⟨n, rfl⟩ := octet_of b rb
  exact torn_any c n far w
end Go.Proofs.Ytpbmkokjjcdhfaa
