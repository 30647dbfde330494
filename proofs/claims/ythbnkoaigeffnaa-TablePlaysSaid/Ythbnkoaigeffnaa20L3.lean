/- TableOpens: the walk. -/
import Derived.Test.Ythbnkoaigeffnaa20F
namespace Go.Proofs.Ythbnkoaigeffnaa
set_option linter.unusedSimpArgs false
set_option linter.unusedVariables false
open Go.RowKit

theorem sum_le (S : Tb) (hok : Ok S) (k n : Nat) (hk : k ≤ 8) : sumTo S k n ≤ k := by
  induction k with
  | zero => rw [sum_zero]; omega
  | succ k ih =>
    have h := Sl.ok_ino (hok k (by omega))
    rw [sum_step S k n (fun hu => by have : ¬ (S k).ino = 0 := fun e => by rw [h.1.1 e] at hu; cases hu
                                     omega)]
    have := ih (by omega)
    split <;> omega
theorem list_len (S : Tb) (c : Nat) (hc : (upsTo S 8).length = c) (a : Nat) (w : World) (hS : TabP w a S) :
    Calls Try.prog 7 #[.pointer (some ⟨a, 0, none⟩)] w fun e w' => ∃ A cp, e = .returned (.slice A c cp) ∧ Kept w w' := by
  refine (list_any S a w hS).mono fun e w' ⟨v, he, hi, hk⟩ => ?_
  obtain ⟨A, cp, rfl⟩ := hi.shape
  rw [hc] at he
  exact ⟨A, cp, he, hk⟩
theorem get_eq (S : Tb) (fd i m p x : Int) (h : gI S fd = i ∧ gM S fd = m ∧ gP S fd = p ∧ gE S fd = x) (a : Nat) (w : World) (hS : TabP w a S) :
    Calls Try.prog 9 #[.pointer (some ⟨a, 0, none⟩), .int .i64 fd] w fun e w' => e = .returned (.tuple #[.agg #[.int .i64 i, .int .i64 m, .int .i64 p], .int .i64 x]) ∧ Kept w w' := by
  have := get_any S a fd w hS
  rwa [h.1, h.2.1, h.2.2.1, h.2.2.2] at this

theorem tmod8 (x : Int) : -7 ≤ x.tmod 8 ∧ x.tmod 8 ≤ 7 := by
  rcases Int.le_total 0 x with h | h
  · rw [Int.tmod_eq_emod_of_nonneg h]; omega
  · obtain ⟨y, rfl⟩ : ∃ y, x = -y := ⟨-x, by omega⟩
    rw [Int.neg_tmod, Int.tmod_eq_emod_of_nonneg (by omega)]; omega
/-- one step of the script: what is done, by its kind; how the count turns -/
def stS (S : Tb) (s q' : Nat) (x m : Int) : Tb := if s = 0 then oS S x m else if s = 1 then cS S q' else sS S q' m
theorem st_ok {S : Tb} (h : Ok S) (s q' : Nat) (x m : Int) : Ok (stS S s q' x m) := by
  unfold stS
  split
  · exact h.opn x m
  · split
    · exact h.cl _
    · exact h.sk _ _
theorem st_same (S : Tb) (s q q' : Nat) (x m : Int) (hq : q ≠ q') (h : (S q).up = true) : stS S s q' x m q = S q := by
  unfold stS
  split
  · exact open_same S x m q h
  · split
    · exact close_same S _ q (by omega) (by omega)
    · exact seek_same S _ _ q (by omega) (by omega)

set_option maxRecDepth 100000 in
set_option maxHeartbeats 4000000 in
theorem tabopens_walk (A : Option Addr) (n c : Nat) (d x m : Nat → Int) (w : World) (hA : Acts w A n c d x m) :
    Calls Try.prog 5 #[.slice A n c] w fun e w' => e = .returned (.bool true) ∧ Kept w w' := by
  obtain ⟨hnc, hc63, hcells⟩ := hA
  have HCL := hid hcells; clear hcells
  have hn63 : (n : Int) ≤ 9223372036854775807 := by omega
  clear hnc hc63
  go_enter Try.func5, Try.ntmps5
  go_wp2_with (go_at_call 6; refine (new_any _).mono ?_; rintro e w1 ⟨a, rfl, ha, hb, k1⟩; have T1 := hid (show TabP w1 a S0 from hb); have K1 := hid k1; have HAA := hid ha; clear hb k1 ha)
  go_loopw [4, 5] (fun mv t wr => ∃ (i cc : Nat) (S : Tb), i ≤ n ∧ i ≤ 40 ∧ t = .int .i64 i ∧ mv = .int .i64 cc ∧ (upsTo S 8).length = cc ∧ Ok S ∧ TabP wr a S ∧ Kept w wr) (fun _ t _ => (40 - intOf t).toNat)
  case atStart => exact ⟨0, 0, S0, by omega, by omega, rfl, rfl, by decide, ok0, T1.out, K1.out⟩
  case round =>
    obtain ⟨i, cc, S, hin, hi40, rfl, rfl, hcc, hok, hT, hkr⟩ := hrel
    have T := hid hT; have K := hid hkr; have HCC := hid hcc; have HOK := hid hok
    have hcc8 : cc ≤ 8 := by rw [← hcc]; exact ups_len S 8
    clear hT hkr hcc hok
    by_cases hlt : i < n
    · by_cases h40 : i < 40
      · obtain ⟨b, o, rfl, hcl⟩ := HCL.out (by omega)
        obtain ⟨hc0, hc1, hc2⟩ := hcl i hlt
        have hc0 := K.out.keeps hc0
        have hc1 := K.out.keeps hc1
        have hc2 := K.out.keeps hc2
        clear hcl
        generalize d i = dd at *
        generalize x i = xx at *
        generalize m i = mm at *
        obtain ⟨r, hr⟩ : ∃ r, xx.tmod 8 = r := ⟨_, rfl⟩
        have hr0 : -7 ≤ r := by rw [← hr]; exact (tmod8 xx).1
        have hr1 : r ≤ 7 := by rw [← hr]; exact (tmod8 xx).2
        have hr8 : 0 ≤ r + 8 := by omega
        obtain ⟨q, hq⟩ : ∃ q : Nat, (r + 8) % 8 = (q : Int) := ⟨((r + 8) % 8).toNat, by omega⟩
        have hq8 : (q : Int) < 8 := by omega
        obtain ⟨q', hq'⟩ : ∃ q' : Nat, ((q : Int) + 1) % 8 = (q' : Int) := ⟨(((q : Int) + 1) % 8).toNat, by omega⟩
        have hqq : q ≠ q' := by omega
        have HQQ := hid hqq; clear hqq
        obtain ⟨i1, hi1⟩ : ∃ z, gI S q = z := ⟨_, rfl⟩
        obtain ⟨m1, hm1⟩ : ∃ z, gM S q = z := ⟨_, rfl⟩
        obtain ⟨p1, hp1⟩ : ∃ z, gP S q = z := ⟨_, rfl⟩
        obtain ⟨e1, he1⟩ : ∃ z, gE S q = z := ⟨_, rfl⟩
        have HG1 := hid (get_eq S q i1 m1 p1 e1 ⟨hi1, hm1, hp1, he1⟩)
        have HE1 : Hid (e1 = 0 ∨ e1 = 15) := by rw [Hid, ← he1]; unfold gE; split <;> simp
        have HSAME := hid (fun s => get_same S (stS S s q' xx mm) q (by omega) (fun hu => st_same S s q q' xx mm HQQ.out hu))
        rw [hi1, hm1, hp1, he1] at HSAME
        have HO := hid (open_any S a xx mm)
        have HC := hid (close_any S a q')
        have HS := hid (seek_any S a q' mm)
        have HUO := hid (ups_open S xx mm)
        have HUC := hid (ups_close S q')
        have HUS := hid (ups_seek S q' mm)
        have HST := hid (fun s => st_ok HOK.out s q' xx mm)
        generalize oF S xx mm = f at *
        generalize oE S xx mm = oe at *
        generalize cE S q' = ce at *
        generalize sE S q' mm = se at *
        rw [HCC.out] at HUO HUC HUS
        clear hi1 hm1 hp1 he1
        have ways : ∀ (s : Nat) (S' : Tb) (c' : Nat), stS S s q' xx mm = S' → (upsTo S' 8).length = c' → True := fun _ _ _ _ _ => trivial
        clear ways
        have hca := T.out.lt
        have HCA := hid hca; clear hca
        by_cases hs0 : dd.tmod 3 = 0
        · obtain ⟨S', hS'⟩ : ∃ S', stS S 0 q' xx mm = S' := ⟨_, rfl⟩
          have hS2 : oS S xx mm = S' := hS'
          have HST2 := hid (HST.out 0)
          have HSA2 := hid (HSAME.out 0)
          rw [hS'] at HST2 HSA2
          rw [hS2] at HO HUO
          clear hS' hS2 HC HS HUC HUS HST HSAME
          rcases HE1.out with rfl | rfl
          all_goals
            first
              | (obtain ⟨hj1, hj2, hj3, hj4⟩ := HSA2.out rfl; have HG2 := hid (get_eq S' q i1 m1 p1 0 ⟨hj1, hj2, hj3, hj4⟩); clear hj1 hj2 hj3 hj4)
              | (obtain ⟨i2, hi2⟩ : ∃ z, gI S' q = z := ⟨_, rfl⟩; obtain ⟨m2, hm2⟩ : ∃ z, gM S' q = z := ⟨_, rfl⟩; obtain ⟨p2, hp2⟩ : ∃ z, gP S' q = z := ⟨_, rfl⟩; obtain ⟨e2, he2⟩ : ∃ z, gE S' q = z := ⟨_, rfl⟩; have HG2 := hid (get_eq S' q i2 m2 p2 e2 ⟨hi2, hm2, hp2, he2⟩); clear hi2 hm2 hp2 he2)
            clear HSA2 HE1
            by_cases hoe : oe = 0
          all_goals
            first
              | (subst hoe; have hlen : (upsTo S' 8).length = cc + 1 := (by have := HUO.out; simp only [if_true] at this; omega))
              | (have hoe2 : (oe == 0) = false := (by simpa using hoe); have hlen : (upsTo S' 8).length = cc := (by have := HUO.out; rw [if_neg hoe] at this; omega); clear hoe)
            have HL := hid (list_len S' _ hlen)
            have HLEN := hid hlen
            have HS40 := hid ((sum_all S' HST2.out 8 (by omega)).trans hlen)
            clear HUO hlen
            go_wp2_with (go_at_call 9; refine (HG1.out _ _ (show TabP _ a S from Blk.alloc T.out _)).mono ?_; rintro e w4 ⟨rfl, k4⟩; have bk0 := k4.keeps (b := wr.heap.size) (o := 0) (s := none) (v := .int .i64 dd) (by simp [go_sem]); have bk1 := k4.keeps (b := wr.heap.size) (o := 1) (s := none) (v := .int .i64 xx) (by simp [go_sem]); have bk2 := k4.keeps (b := wr.heap.size) (o := 2) (s := none) (v := .int .i64 mm) (by simp [go_sem]); have hne0 : w4.heap.size ≠ a := (by have h1 := k4.size; simp at h1; have := HCA.out; omega); have T4 := hid (show TabP w4 a S from k4.blk (Blk.alloc T.out _)); have K4 := hid ((K.out.alloc _).trans k4); clear k4)
            have g00 : (w4.alloc (.cells #[.int .i64 i1, .int .i64 m1, .int .i64 p1] 33)).cell? ⟨w4.heap.size, 0, none⟩ = some (.int .i64 i1) := by simp [go_sem]
            have g01 : (w4.alloc (.cells #[.int .i64 i1, .int .i64 m1, .int .i64 p1] 33)).cell? ⟨w4.heap.size, 1, none⟩ = some (.int .i64 m1) := by simp [go_sem]
            have g02 : (w4.alloc (.cells #[.int .i64 i1, .int .i64 m1, .int .i64 p1] 33)).cell? ⟨w4.heap.size, 2, none⟩ = some (.int .i64 p1) := by simp [go_sem]
            go_wp2_with (go_at_call 11; refine (HO.out _ (show TabP _ a S from Blk.alloc T4.out _)).mono ?_; rintro e w5 ⟨rfl, hb, k⟩; have g10 := k.keeps g00 hne0; have g11 := k.keeps g01 hne0; have g12 := k.keeps g02 hne0; have T5 := hid hb; have K5 := hid ((K4.out.alloc _).turned k HAA.out); clear g00 g01 g02 hb k)
            go_wp2_with (go_at_call 9; refine (HG2.out _ _ T5.out).mono ?_; rintro e w6 ⟨rfl, k6⟩; have g20 := k6.keeps g10; have g21 := k6.keeps g11; have g22 := k6.keeps g12; have T6 := hid (show TabP w6 a S' from k6.blk T5.out); have K6 := hid (K5.out.trans k6); clear g10 g11 g12 k6)
            have hneq := neq_fd
            have hneg := neq_fd_guard

            go_wp2_with (go_at_call 7; refine (HL.out _ _ (show TabP _ a S' from Blk.alloc T6.out _)).mono ?_; rintro e w7 ⟨A7, cp7, rfl, k7⟩; have T7 := hid (show TabP w7 a S' from k7.blk (Blk.alloc T6.out _)); have K7 := hid ((K6.out.alloc _).trans k7); clear g20 g21 g22 k7)
            clear hneq hneg
            go_loopw [15, 16] (fun al t wl => ∃ j : Nat, 1 ≤ j ∧ j ≤ 40 ∧ t = .int .i64 j ∧ al = .int .i64 (sumTo S' 8 j) ∧ TabP wl a S' ∧ Kept w wl) (fun _ t _ => (40 - intOf t).toNat)
            case atStart => exact ⟨1, by omega, by omega, rfl, by simp [sumTo], T7.out, K7.out⟩
            case round =>
              obtain ⟨j, hj1, hj40, rfl, rfl, hT8, hK8⟩ := hrel
              have T8 := hid hT8; have K8 := hid hK8; clear hT8 hK8
              by_cases hjl : j < 40
              · have HSU : Hid (sumTo S' 8 (j + 1) = sumTo S' 8 j + cntTo S' j 8) := by rw [Hid, sumTo, if_neg (by omega)]
                have hsl := sum_le S' HST2.out 8 j (by omega)
                have hcl := cnt_le S' j 8
                have HOP := hid (opens_any S' a j)
                generalize sumTo S' 8 j = sj at *
                generalize cntTo S' j 8 = cj at *
                go_wp2_with (go_at_call 10; refine (HOP.out _ T8.out).mono ?_; rintro e w9 ⟨rfl, k9⟩)
                go_roundw
                case rel => exact ⟨j + 1, by omega, by omega, by go_num, by rw [HSU.out]; go_num, k9.blk T8.out, K8.out.trans k9⟩
                case measure => simp [intOf]; omega
              · obtain rfl : j = 40 := by omega
                have hs40 := HS40.out
                go_wp2
                go_roundw
                case rel => first | exact ⟨i + 1, cc + 1, S', by omega, by omega, by go_num, by go_num, HLEN.out, HST2.out, T8.out, K8.out⟩ | exact ⟨i + 1, cc, S', by omega, by omega, by go_num, rfl, HLEN.out, HST2.out, T8.out, K8.out⟩
                case measure => simp [intOf]; omega
        · by_cases hs1 : dd.tmod 3 = 1
          · clear hs0
            obtain ⟨S', hS'⟩ : ∃ S', stS S 1 q' xx mm = S' := ⟨_, rfl⟩
            have hS2 : cS S q' = S' := hS'
            have HST2 := hid (HST.out 1)
            have HSA2 := hid (HSAME.out 1)
            rw [hS'] at HST2 HSA2
            rw [hS2] at HC HUC
            clear hS' hS2 HO HS HUO HUS HST HSAME
            rcases HE1.out with rfl | rfl
            all_goals
              first
                | (obtain ⟨hj1, hj2, hj3, hj4⟩ := HSA2.out rfl; have HG2 := hid (get_eq S' q i1 m1 p1 0 ⟨hj1, hj2, hj3, hj4⟩); clear hj1 hj2 hj3 hj4)
                | (obtain ⟨i2, hi2⟩ : ∃ z, gI S' q = z := ⟨_, rfl⟩; obtain ⟨m2, hm2⟩ : ∃ z, gM S' q = z := ⟨_, rfl⟩; obtain ⟨p2, hp2⟩ : ∃ z, gP S' q = z := ⟨_, rfl⟩; obtain ⟨e2, he2⟩ : ∃ z, gE S' q = z := ⟨_, rfl⟩; have HG2 := hid (get_eq S' q i2 m2 p2 e2 ⟨hi2, hm2, hp2, he2⟩); clear hi2 hm2 hp2 he2)
              clear HSA2 HE1
              by_cases hoe : ce = 0
            all_goals
              first
                | (subst hoe; obtain ⟨c2, rfl⟩ : ∃ c2, cc = c2 + 1 := ⟨cc - 1, by have := HUC.out; simp only [if_true] at this; omega⟩; have hlen : (upsTo S' 8).length = c2 := (by have := HUC.out; simp only [if_true] at this; omega))
                | (have hoe2 : (ce == 0) = false := (by simpa using hoe); have hlen : (upsTo S' 8).length = cc := (by have := HUC.out; rw [if_neg hoe] at this; omega); clear hoe)
              have HL := hid (list_len S' _ hlen)
              have HLEN := hid hlen
              have HS40 := hid ((sum_all S' HST2.out 8 (by omega)).trans hlen)
              clear HUC hlen
              go_wp2_with (go_at_call 9; refine (HG1.out _ _ (show TabP _ a S from Blk.alloc T.out _)).mono ?_; rintro e w4 ⟨rfl, k4⟩; have bk0 := k4.keeps (b := wr.heap.size) (o := 0) (s := none) (v := .int .i64 dd) (by simp [go_sem]); have bk1 := k4.keeps (b := wr.heap.size) (o := 1) (s := none) (v := .int .i64 xx) (by simp [go_sem]); have bk2 := k4.keeps (b := wr.heap.size) (o := 2) (s := none) (v := .int .i64 mm) (by simp [go_sem]); have hne0 : w4.heap.size ≠ a := (by have h1 := k4.size; simp at h1; have := HCA.out; omega); have T4 := hid (show TabP w4 a S from k4.blk (Blk.alloc T.out _)); have K4 := hid ((K.out.alloc _).trans k4); clear k4)
              have g00 : (w4.alloc (.cells #[.int .i64 i1, .int .i64 m1, .int .i64 p1] 33)).cell? ⟨w4.heap.size, 0, none⟩ = some (.int .i64 i1) := by simp [go_sem]
              have g01 : (w4.alloc (.cells #[.int .i64 i1, .int .i64 m1, .int .i64 p1] 33)).cell? ⟨w4.heap.size, 1, none⟩ = some (.int .i64 m1) := by simp [go_sem]
              have g02 : (w4.alloc (.cells #[.int .i64 i1, .int .i64 m1, .int .i64 p1] 33)).cell? ⟨w4.heap.size, 2, none⟩ = some (.int .i64 p1) := by simp [go_sem]
              go_wp2_with (go_at_call 8; refine (HC.out _ (show TabP _ a S from Blk.alloc T4.out _)).mono ?_; rintro e w5 ⟨rfl, hb, k⟩; have g10 := k.keeps g00 hne0; have g11 := k.keeps g01 hne0; have g12 := k.keeps g02 hne0; have T5 := hid hb; have K5 := hid ((K4.out.alloc _).turned k HAA.out); clear g00 g01 g02 hb k)
              go_wp2_with (go_at_call 9; refine (HG2.out _ _ T5.out).mono ?_; rintro e w6 ⟨rfl, k6⟩; have g20 := k6.keeps g10; have g21 := k6.keeps g11; have g22 := k6.keeps g12; have T6 := hid (show TabP w6 a S' from k6.blk T5.out); have K6 := hid (K5.out.trans k6); clear g10 g11 g12 k6)
              have hneq := neq_fd
              have hneg := neq_fd_guard

              go_wp2_with (go_at_call 7; refine (HL.out _ _ (show TabP _ a S' from Blk.alloc T6.out _)).mono ?_; rintro e w7 ⟨A7, cp7, rfl, k7⟩; have T7 := hid (show TabP w7 a S' from k7.blk (Blk.alloc T6.out _)); have K7 := hid ((K6.out.alloc _).trans k7); clear g20 g21 g22 k7)
              clear hneq hneg
              go_loopw [15, 16] (fun al t wl => ∃ j : Nat, 1 ≤ j ∧ j ≤ 40 ∧ t = .int .i64 j ∧ al = .int .i64 (sumTo S' 8 j) ∧ TabP wl a S' ∧ Kept w wl) (fun _ t _ => (40 - intOf t).toNat)
              case atStart => exact ⟨1, by omega, by omega, rfl, by simp [sumTo], T7.out, K7.out⟩
              case round =>
                obtain ⟨j, hj1, hj40, rfl, rfl, hT8, hK8⟩ := hrel
                have T8 := hid hT8; have K8 := hid hK8; clear hT8 hK8
                by_cases hjl : j < 40
                · have HSU : Hid (sumTo S' 8 (j + 1) = sumTo S' 8 j + cntTo S' j 8) := by rw [Hid, sumTo, if_neg (by omega)]
                  have hsl := sum_le S' HST2.out 8 j (by omega)
                  have hcl := cnt_le S' j 8
                  have HOP := hid (opens_any S' a j)
                  generalize sumTo S' 8 j = sj at *
                  generalize cntTo S' j 8 = cj at *
                  go_wp2_with (go_at_call 10; refine (HOP.out _ T8.out).mono ?_; rintro e w9 ⟨rfl, k9⟩)
                  go_roundw
                  case rel => exact ⟨j + 1, by omega, by omega, by go_num, by rw [HSU.out]; go_num, k9.blk T8.out, K8.out.trans k9⟩
                  case measure => simp [intOf]; omega
                · obtain rfl : j = 40 := by omega
                  have hs40 := HS40.out
                  go_wp2
                  go_roundw
                  case rel => first | exact ⟨i + 1, c2, S', by omega, by omega, by go_num, by go_num, HLEN.out, HST2.out, T8.out, K8.out⟩ | exact ⟨i + 1, cc, S', by omega, by omega, by go_num, rfl, HLEN.out, HST2.out, T8.out, K8.out⟩
                  case measure => simp [intOf]; omega
          · have e0 : (dd.tmod 3 == 0) = false := by simpa using hs0
            have e1 : (dd.tmod 3 == 1) = false := by simpa using hs1
            clear hs0 hs1
            obtain ⟨S', hS'⟩ : ∃ S', stS S 2 q' xx mm = S' := ⟨_, rfl⟩
            have hS2 : sS S q' mm = S' := hS'
            have HST2 := hid (HST.out 2)
            have HSA2 := hid (HSAME.out 2)
            rw [hS'] at HST2 HSA2
            rw [hS2] at HS HUS
            clear hS' hS2 HO HC HUO HUC HST HSAME
            rcases HE1.out with rfl | rfl
            all_goals
              first
                | (obtain ⟨hj1, hj2, hj3, hj4⟩ := HSA2.out rfl; have HG2 := hid (get_eq S' q i1 m1 p1 0 ⟨hj1, hj2, hj3, hj4⟩); clear hj1 hj2 hj3 hj4)
                | (obtain ⟨i2, hi2⟩ : ∃ z, gI S' q = z := ⟨_, rfl⟩; obtain ⟨m2, hm2⟩ : ∃ z, gM S' q = z := ⟨_, rfl⟩; obtain ⟨p2, hp2⟩ : ∃ z, gP S' q = z := ⟨_, rfl⟩; obtain ⟨e2, he2⟩ : ∃ z, gE S' q = z := ⟨_, rfl⟩; have HG2 := hid (get_eq S' q i2 m2 p2 e2 ⟨hi2, hm2, hp2, he2⟩); clear hi2 hm2 hp2 he2)
              clear HSA2 HE1
              have hlen : (upsTo S' 8).length = cc := HUS.out
              have HL := hid (list_len S' _ hlen)
              have HLEN := hid hlen
              have HS40 := hid ((sum_all S' HST2.out 8 (by omega)).trans hlen)
              clear HUS hlen
              go_wp2_with (go_at_call 9; refine (HG1.out _ _ (show TabP _ a S from Blk.alloc T.out _)).mono ?_; rintro e w4 ⟨rfl, k4⟩; have bk0 := k4.keeps (b := wr.heap.size) (o := 0) (s := none) (v := .int .i64 dd) (by simp [go_sem]); have bk1 := k4.keeps (b := wr.heap.size) (o := 1) (s := none) (v := .int .i64 xx) (by simp [go_sem]); have bk2 := k4.keeps (b := wr.heap.size) (o := 2) (s := none) (v := .int .i64 mm) (by simp [go_sem]); have hne0 : w4.heap.size ≠ a := (by have h1 := k4.size; simp at h1; have := HCA.out; omega); have T4 := hid (show TabP w4 a S from k4.blk (Blk.alloc T.out _)); have K4 := hid ((K.out.alloc _).trans k4); clear k4)
              have g00 : (w4.alloc (.cells #[.int .i64 i1, .int .i64 m1, .int .i64 p1] 33)).cell? ⟨w4.heap.size, 0, none⟩ = some (.int .i64 i1) := by simp [go_sem]
              have g01 : (w4.alloc (.cells #[.int .i64 i1, .int .i64 m1, .int .i64 p1] 33)).cell? ⟨w4.heap.size, 1, none⟩ = some (.int .i64 m1) := by simp [go_sem]
              have g02 : (w4.alloc (.cells #[.int .i64 i1, .int .i64 m1, .int .i64 p1] 33)).cell? ⟨w4.heap.size, 2, none⟩ = some (.int .i64 p1) := by simp [go_sem]
              go_wp2_with (go_at_call 19; refine (HS.out _ (show TabP _ a S from Blk.alloc T4.out _)).mono ?_; rintro e w5 ⟨rfl, hb, k⟩; have g10 := k.keeps g00 hne0; have g11 := k.keeps g01 hne0; have g12 := k.keeps g02 hne0; have T5 := hid hb; have K5 := hid ((K4.out.alloc _).turned k HAA.out); clear g00 g01 g02 hb k)
              go_wp2_with (go_at_call 9; refine (HG2.out _ _ T5.out).mono ?_; rintro e w6 ⟨rfl, k6⟩; have g20 := k6.keeps g10; have g21 := k6.keeps g11; have g22 := k6.keeps g12; have T6 := hid (show TabP w6 a S' from k6.blk T5.out); have K6 := hid (K5.out.trans k6); clear g10 g11 g12 k6)
              have hneq := neq_fd
              have hneg := neq_fd_guard

              go_wp2_with (go_at_call 7; refine (HL.out _ _ (show TabP _ a S' from Blk.alloc T6.out _)).mono ?_; rintro e w7 ⟨A7, cp7, rfl, k7⟩; have T7 := hid (show TabP w7 a S' from k7.blk (Blk.alloc T6.out _)); have K7 := hid ((K6.out.alloc _).trans k7); clear g20 g21 g22 k7)
              clear hneq hneg
              go_loopw [15, 16] (fun al t wl => ∃ j : Nat, 1 ≤ j ∧ j ≤ 40 ∧ t = .int .i64 j ∧ al = .int .i64 (sumTo S' 8 j) ∧ TabP wl a S' ∧ Kept w wl) (fun _ t _ => (40 - intOf t).toNat)
              case atStart => exact ⟨1, by omega, by omega, rfl, by simp [sumTo], T7.out, K7.out⟩
              case round =>
                obtain ⟨j, hj1, hj40, rfl, rfl, hT8, hK8⟩ := hrel
                have T8 := hid hT8; have K8 := hid hK8; clear hT8 hK8
                by_cases hjl : j < 40
                · have HSU : Hid (sumTo S' 8 (j + 1) = sumTo S' 8 j + cntTo S' j 8) := by rw [Hid, sumTo, if_neg (by omega)]
                  have hsl := sum_le S' HST2.out 8 j (by omega)
                  have hcl := cnt_le S' j 8
                  have HOP := hid (opens_any S' a j)
                  generalize sumTo S' 8 j = sj at *
                  generalize cntTo S' j 8 = cj at *
                  go_wp2_with (go_at_call 10; refine (HOP.out _ T8.out).mono ?_; rintro e w9 ⟨rfl, k9⟩)
                  go_roundw
                  case rel => exact ⟨j + 1, by omega, by omega, by go_num, by rw [HSU.out]; go_num, k9.blk T8.out, K8.out.trans k9⟩
                  case measure => simp [intOf]; omega
                · obtain rfl : j = 40 := by omega
                  have hs40 := HS40.out
                  go_wp2
                  go_roundw
                  case rel => exact ⟨i + 1, cc, S', by omega, by omega, by go_num, rfl, HLEN.out, HST2.out, T8.out, K8.out⟩
                  case measure => simp [intOf]; omega
      · obtain rfl : i = 40 := by omega
        go_wp2_with (go_at_call 12; refine (awake_any _).mono ?_; rintro e w9 ⟨rfl, k9⟩)
        go_ret
        exact ⟨rfl, K.out.trans k9⟩
    · obtain rfl : i = n := by omega
      go_wp2_with (go_at_call 12; refine (awake_any _).mono ?_; rintro e w9 ⟨rfl, k9⟩)
      go_ret
      exact ⟨rfl, K.out.trans k9⟩
end Go.Proofs.Ythbnkoaigeffnaa
