/- DevErases: the walk. -/
import Derived.Test.Ytpbmkokjjcdhfaa4T
namespace Go.Proofs.Ytpbmkokjjcdhfaa
set_option linter.unusedSimpArgs false
set_option linter.unusedVariables false
open Go.RowKit

theorem Kept.after {w wr w2 : World} {h h' : DH} {S : DS} (k : Kept w wr) (d : DevAt wr w.heap.size h S) (s : Step h h' wr w2) : Kept w w2 :=
  k.below.trans (s.below d k.size)
theorem ints_nin {w w2 : World} {h : DH} {S : DS} {v : Value} {L : List Int} (hL : Ints w v L) (k : Kept w w2) (d : DevAt w2 w.heap.size h S) : NIn h w2 v L := by
  obtain ⟨A, c, hv, hc, hm, hz, hr⟩ := hL
  refine ⟨A, c, hv, hc, hm, fun h0 => ?_⟩
  obtain ⟨b, o, hA, hcell⟩ := hr h0
  have hb : b < w.heap.size := by
    rcases Nat.lt_or_ge b w.heap.size with h' | h'
    · exact h'
    · have := hcell 0 h0
      simp [World.cell?, Array.getElem?_eq_none h'] at this
  exact ⟨b, o, hA, ⟨Nat.lt_of_lt_of_le hb k.size, d.low_out hb⟩, fun i hi => k.keeps (hcell i hi)⟩

theorem erase_at {B P : Nat} {h : DH} {S : DS} (w : World) (d : DevAt w B h S) (hP : h.P = P) (k : Int) (hk : spendE S = k) (S' : DS) (hS : eraS S = S') : Calls Try.prog 20 #[.pointer (some ⟨P, 0, none⟩)] w (DP (.int .i64 k) S' B P h w) := by
  subst hk; subst hS; subst hP
  exact (erase_any w d).mono fun _ _ p => p.at_ rfl
theorem waits_at {B P : Nat} {h : DH} {S : DS} (w : World) (d : DevAt w B h S) (hP : h.P = P) (hpl : S.pend.length ≤ 1000) (L : List Int) (hL : waitL S = L) : Calls Try.prog 21 #[.pointer (some ⟨P, 0, none⟩)] w fun e w' => ∃ v, e = .returned v ∧ Ints w' v L ∧ Kept w w' := by
  subst hL; subst hP
  exact waits_any w d hpl
set_option maxRecDepth 100000 in
set_option maxHeartbeats 4000000 in
theorem erases_any {w : World} (n : Nat) (F : Nat → Ac) (v : Value) (hA : Acts w v n F) (L : List Int) (vf : Value) (hL : Ints w vf L) :
    Calls Try.prog 6 #[v, vf] w fun e w' => e = .returned (.bool true) ∧ Kept w w' := by
  have HN := hid (new_any 4 (by decide) (by decide))
  have AW := hid awake_any
  have HAC := hid (fun (c : UInt8) => all_at c _ rfl)
  have HEN := hid (est_nice F)
  obtain ⟨A, c, rfl, hnc, hc63, hcell⟩ := hA
  have HCE := hid hcell
  have HLI := hid hL
  clear hcell hL
  go_enter Try.func6, Try.ntmps6
  go_wp2_with (go_at_call 8; refine (HN.out _).mono ?_; rintro e w1 ⟨h0, rfl, d0, k0⟩; obtain ⟨P, hP⟩ : ∃ P, P = h0.P := ⟨_, rfl⟩; rw [← hP]; have P0 := hid hP.symm; have D0 := hid d0; have K0 := hid k0; clear hP d0 k0)
  go_loopw [7] (fun t wr => ∃ (k : Nat) (h' : DH), k ≤ n ∧ k ≤ 20 ∧ t = .int .i64 k ∧ DevAt wr w.heap.size h' (est F k) ∧ h'.P = P ∧ Kept w wr) (fun t _ => 20 - (intOf t).toNat)
  case atStart => exact ⟨0, h0, by omega, by omega, rfl, D0.out, P0.out, K0.out⟩
  case round =>
    obtain ⟨k, h', hk, hk2, rfl, hd, hP, hkw⟩ := hrel
    have D1 := hid hd; have P1 := hid hP; have K1 := hid hkw
    clear hd hP hkw D0 P0 K0
    by_cases hlt : k < n ∧ k < 20
    · obtain ⟨hlt, hlt2⟩ := hlt
      have q0 : (0 : Int) ≤ (k : Int) := by omega
      have q1 : (k : Int) < (n : Int) := by omega
      have q2 : (k : Int) < 20 := by omega
      obtain ⟨b, o, rfl, hat⟩ := HCE.out (by omega)
      have hat := hat k hlt
      have hac := K1.out.acAt hat
      obtain ⟨E1, hE1⟩ : ∃ E1, E1 = est F (k + 1) := ⟨_, rfl⟩
      have HE1 := hid hE1.symm
      rw [est] at hE1
      have EN := hid (HEN.out k)
      generalize est F k = S at *
      generalize F k = ac at *
      obtain ⟨dd, ii, kk, cc, sh, fv, far⟩ := ac
      dsimp only at hac hat hE1
      have c0 := hac.c0; have c1 := hat.c1; have c3 := hat.c3
      dsimp only at c0 c1 c3
      clear hac hat
      by_cases h2 : dd = 2
      · rw [if_pos h2] at hE1
        subst h2
        go_wp2_with (go_at_call 11; refine (flush_at _ D1.out P1.out 0 EN.out.1.spendE E1 hE1.symm).mono ?_; rintro e w4 ⟨rfl, h2, d2, s2, p2⟩; have D2 := hid d2; have S2 := hid s2; have P2 := hid p2; clear d2 s2 p2)
        go_roundw
        case rel => exact ⟨k + 1, _, by omega, by omega, by go_num, by rw [HE1.out]; exact D2.out, P2.out, K1.out.after D1.out S2.out⟩
        case measure => simp [intOf]; omega
      · rw [if_neg h2] at hE1
        have hd2 : (dd == 2) = false := by simpa using h2
        have HS := hid (fun (w' : World) (hk : Kept w w') => (⟨hk, hk.keeps c1, hk.keeps c3⟩ : Kept w w' ∧ w'.cell? ⟨b, o + k * 6 + 1, none⟩ = some (.int .i64 ii) ∧ w'.cell? ⟨b, o + k * 6 + 3, none⟩ = some (.int .u8 (cc.toNat : Int))))
        have k1 := K1.out
        go_wp2
        go_region_held3 (fun w' => Kept w w' ∧ w'.cell? ⟨b, o + k * 6 + 1, none⟩ = some (.int .i64 ii) ∧ w'.cell? ⟨b, o + k * 6 + 3, none⟩ = some (.int .u8 (cc.toNat : Int)))
          (first | exact HS.out _ k1 | exact HS.out _ (by repeat (first | exact Kept.refl _ | assumption | refine Kept.alloc ?_ _ | refine Kept.drew ?_ | refine Kept.drewN ?_ _ | refine Kept.setCell ?_ (by simp; try omega) _ | refine Kept.trans ?_ (by assumption))) | (go_split_ands; exact HS.out _ (by repeat (first | exact Kept.refl _ | assumption | refine Kept.alloc ?_ _ | refine Kept.drew ?_ | refine Kept.drewN ?_ _ | refine Kept.setCell ?_ (by simp; try omega) _ | refine Kept.trans ?_ (by assumption)))))
          (first
          | (go_at_call 9; (with_reducible refine (write_at ii _ (rep cc) _ D2.out P1.out B7.out ?_ _ rfl E1 hE1.symm).mono ?_); (focus (have := EN.out.2; omega)); rintro e w3 ⟨rfl, h3, d3, s3, p3⟩; have D3 := hid d3; have k73 := k72.after D2.out s3; have P3 := hid p3; clear d3 s3 p3)
          | (go_at_call 10; (with_reducible refine (HAC.out _ _).mono ?_); rintro e w2 ⟨g7, rfl, o7, l7, k7⟩; have D2 := hid (k7.dev D1.out.drew); have B7 := hid (all_bin D1.out.drew k7 o7 l7); have k72 := k1.drew.trans k7; clear o7 l7 k7))
        all_goals (
          go_wp2_with fail
          go_roundw
          case rel => exact ⟨k + 1, _, by omega, by omega, by go_num, by rw [HE1.out]; exact D3.out, P3.out, k73⟩
          case measure => simp [intOf]; omega)
    · have EN := hid (HEN.out k)
      have hpk : (est F k).pend.length ≤ 1000 := by have := EN.out.2; omega
      generalize est F k = S at *
      have HWT := hid (fun (w' : World) (h' : DH) (d : DevAt w' w.heap.size h' (zS S)) => waits_any w' d (Nat.zero_le _))
      have HER := hid (EN.out.1.era)
      have HCR := hid (zS_cr S L)
      have HON := hid (zS_on EN.out.1)
      clear hpk
      have A0 := hid (all_at 0 0 rfl)
      rcases (by omega : (k < n ∧ k = 20) ∨ ¬ k < n) with ⟨hlt1, hlt2⟩ | hlt1
      · subst hlt2
        have q1 : (20 : Int) < (n : Int) := by omega
        go_wp2_with (first
          | (go_at_call 20; refine (erase_at _ D1.out P1.out 0 EN.out.1.spendE _ HER.out).mono ?_; rintro e w4 ⟨rfl, h4, d4, s4, p4⟩; have D4 := hid d4; have K4 := hid (K1.out.after D1.out s4); have P4 := hid p4; clear d4 s4 p4)
          | (go_at_call 21; refine (waits_at _ D4.out P4.out (Nat.zero_le _) [] rfl).mono ?_; rintro e w5 ⟨v5, rfl, hI, k5⟩; obtain ⟨A5, c5, rfl⟩ := hI.shape; simp only [List.length_nil]; have D5 := hid (k5.dev D4.out); have K5 := hid (K4.out.trans k5); clear hI k5)
          | (go_at_call 13; refine (crash_at vf L _ D5.out P4.out (ints_nin HLI.out K5.out D5.out) _ HCR.out).mono ?_; rintro e w6 ⟨rfl, h6, d6, s6, p6⟩; have D6 := hid d6; have K6 := hid (K5.out.after D5.out s6); have P6 := hid p6; clear d6 s6 p6)
          | (go_at_call 14; refine (on_at _ D6.out P6.out _ HON.out).mono ?_; rintro e w7 ⟨rfl, h7, d7, s7, p7⟩; have D7 := hid d7; have K7 := hid (K6.out.after D6.out s7); have P7 := hid p7; clear d7 s7 p7))
        go_loopw [8] (fun t wr => ∃ j : Nat, j ≤ 4 ∧ t = .int .i64 j ∧ DevAt wr w.heap.size h7 (zS S) ∧ Kept w wr) (fun t _ => 4 - (intOf t).toNat)
        case atStart => exact ⟨0, by omega, rfl, D7.out, K7.out⟩
        case round =>
          obtain ⟨j, hj, rfl, hdj, hkj⟩ := hrel
          have DJ := hid hdj; have KJ := hid hkj
          clear hdj hkj
          by_cases hlt : j < 4
          · have e0 : (0 : Int) ≤ (j : Int) := by omega
            have e1 : (j : Int) < 4 := by omega
            have HRE := hid (zS_rdE EN.out.1 j hlt); have HRL := hid (zS_rdL EN.out.1 j hlt)
            go_wp2_with (go_at_call 12; refine (read_at (j : Int) _ DJ.out P7.out _ HRL.out 0 HRE.out).mono ?_; rintro e w8 ⟨vb, rfl, hb, k8⟩; obtain ⟨gb, rfl, ob, lb⟩ := bout_some hb (by decide); have D8 := hid (k8.dev DJ.out); have K8 := hid (KJ.out.trans k8); have OB := hid ob; clear ob lb hb k8)
            have HCV := hid (fun (w' : World) (k : Kept w8 w') => (⟨k, conv_blk (n := 128) (rep 0) (rep_len 0) (k.oblk OB.out).range 128⟩ : Kept w8 w' ∧ (convert 31 9 (.slice (some ⟨gb, 0, none⟩) 128 128)).run Try.prog w' = .ok (.string (bstr (rep 0))) w'))
            have KK := Kept.refl w8
            generalize hcs : bstr (rep 0) = cs at *
            refine wp_region_held_drew (S := fun w' => Kept w8 w' ∧ (convert 31 9 (.slice (some ⟨gb, 0, none⟩) 128 128)).run Try.prog w' = .ok (.string cs) w') (by kernel_rfl) (HCV.out _ (by repeat (first | exact Kept.refl _ | assumption | refine Kept.alloc ?_ _ | refine Kept.drew ?_ | refine Kept.drewN ?_ _ | refine Kept.setCell ?_ (by simp; try omega) _ | refine Kept.trans ?_ (by assumption)))) (fun hHeld => ?_)
            refine wpAnyH_take (i := 0) (v := ?_) rfl (by kernel_rfl) (by kernel_rfl) (by kernel_rfl) (fun _ _ _ h => h) (Or.inl ⟨by rfl, ?_⟩) (by assumption) ?_
            rotate_left
            focus (intro w hSw; (try dsimp only at hSw); go_simp; first | done | with_reducible rfl)
            (try simp only [List.getElem_toArray, List.getElem_cons_zero, List.getElem_cons_succ, Act.put, List.setIfInBounds_toArray, List.set_cons_zero, List.set_cons_succ])
            refine wpAnyH_take (i := 1) (v := ?_) rfl (by kernel_rfl) (by kernel_rfl) (by kernel_rfl) (fun _ _ _ h => h) (Or.inl ⟨by rfl, ?_⟩) (by assumption) ?_
            rotate_left
            focus (intro w hSw; (try dsimp only at hSw); go_simp; first | done | with_reducible rfl)
            (try simp only [List.getElem_toArray, List.getElem_cons_zero, List.getElem_cons_succ, Act.put, List.setIfInBounds_toArray, List.set_cons_zero, List.set_cons_succ])
            refine wpAnyH_ready (rs := [2]) (by kernel_rfl) (by simp) ?_
            refine AllReadyH.cons rfl (fun K hK => ?_) AllReadyH.nil
            go_simp; go_at_call 10; (with_reducible refine (A0.out _).mono ?_); rintro e wZ ⟨gZ, rfl, oZ, lZ, kZ⟩; have hcv2 := conv_blk (n := 128) (rep 0) (rep_len 0) oZ.range 128; rw [hcs] at hcv2
            refine hK.out _ _ (HCV.out _ (by repeat (first | exact Kept.refl _ | assumption | refine Kept.alloc ?_ _ | refine Kept.drew ?_ | refine Kept.drewN ?_ _ | refine Kept.setCell ?_ (by simp; try omega) _ | refine Kept.trans ?_ (by assumption)))) (fun hHeld => ?_)
            clear hK K
            (try simp only [List.getElem_toArray, List.getElem_cons_zero, List.getElem_cons_succ, Act.put, List.setIfInBounds_toArray, List.set_cons_zero, List.set_cons_succ])
            refine wpAnyH_ready (rs := [3]) (by kernel_rfl) (by simp) ?_
            refine AllReadyH.cons rfl (fun K hK => ?_) AllReadyH.nil
            go_simp
            refine hK.out _ _ (HCV.out _ (by repeat (first | exact Kept.refl _ | assumption | refine Kept.alloc ?_ _ | refine Kept.drew ?_ | refine Kept.drewN ?_ _ | refine Kept.setCell ?_ (by simp; try omega) _ | refine Kept.trans ?_ (by assumption)))) (fun hHeld => ?_)
            clear hK K
            (try simp only [List.getElem_toArray, List.getElem_cons_zero, List.getElem_cons_succ, Act.put, List.setIfInBounds_toArray, List.set_cons_zero, List.set_cons_succ])
            refine wpAnyH_take (i := 4) (v := ?_) rfl (by kernel_rfl) (by kernel_rfl) (by kernel_rfl) (fun _ _ _ h => h) (Or.inl ⟨by rfl, ?_⟩) (by assumption) ?_
            rotate_left
            focus (intro w hSw; (try dsimp only at hSw); go_simp; first | done | with_reducible rfl)
            (try simp only [List.getElem_toArray, List.getElem_cons_zero, List.getElem_cons_succ, Act.put, List.setIfInBounds_toArray, List.set_cons_zero, List.set_cons_succ])
            refine wpAnyH_take (i := 5) (v := ?_) rfl (by kernel_rfl) (by kernel_rfl) (by kernel_rfl) (fun _ _ _ h => h) (Or.inl ⟨by rfl, ?_⟩) (by assumption) ?_
            rotate_left
            focus (intro w hSw; (try dsimp only at hSw); go_simp; first | done | with_reducible rfl)
            (try simp only [List.getElem_toArray, List.getElem_cons_zero, List.getElem_cons_succ, Act.put, List.setIfInBounds_toArray, List.set_cons_zero, List.set_cons_succ])
            refine wpAnyH_take (i := 6) (v := ?_) rfl (by kernel_rfl) (by kernel_rfl) (by kernel_rfl) (fun _ _ _ h => h) (Or.inl ⟨by rfl, ?_⟩) (by assumption) ?_
            rotate_left
            focus (intro w hSw; (try dsimp only at hSw); go_simp; first | done | with_reducible rfl)
            (try simp only [List.getElem_toArray, List.getElem_cons_zero, List.getElem_cons_succ, Act.put, List.setIfInBounds_toArray, List.set_cons_zero, List.set_cons_succ])
            refine wpAnyH_take (i := 7) (v := ?_) rfl (by kernel_rfl) (by kernel_rfl) (by kernel_rfl) (fun _ _ _ h => h) (Or.inl ⟨by rfl, ?_⟩) (by assumption) ?_
            rotate_left
            focus (intro w hSw; (try dsimp only at hSw); go_simp; first | done | with_reducible rfl)
            (try simp only [List.getElem_toArray, List.getElem_cons_zero, List.getElem_cons_succ, Act.put, List.setIfInBounds_toArray, List.set_cons_zero, List.set_cons_succ])
            refine wpAnyH_take (i := 8) (v := ?_) rfl (by kernel_rfl) (by kernel_rfl) (by kernel_rfl) (fun _ _ _ h => h) (Or.inl ⟨by rfl, ?_⟩) (by assumption) ?_
            rotate_left
            focus (intro w hSw; (try dsimp only at hSw); go_simp; first | done | with_reducible rfl)
            (try simp only [List.getElem_toArray, List.getElem_cons_zero, List.getElem_cons_succ, Act.put, List.setIfInBounds_toArray, List.set_cons_zero, List.set_cons_succ])
            refine wpAnyH_done (by kernel_rfl) ?_ _
            all_goals (
              go_wp2_with fail
              go_roundw
              case rel => exact ⟨j + 1, by omega, by go_num, (show Kept w8 _ from (by repeat (first | exact Kept.refl _ | assumption | refine Kept.alloc ?_ _ | refine Kept.drew ?_ | refine Kept.drewN ?_ _ | refine Kept.setCell ?_ (by simp; try omega) _ | refine Kept.trans ?_ (by assumption)))).dev D8.out, K8.out.trans (show Kept w8 _ from (by repeat (first | exact Kept.refl _ | assumption | refine Kept.alloc ?_ _ | refine Kept.drew ?_ | refine Kept.drewN ?_ _ | refine Kept.setCell ?_ (by simp; try omega) _ | refine Kept.trans ?_ (by assumption))))⟩
              case measure => simp [intOf]; omega)
          · obtain rfl : j = 4 := by omega
            go_wp2_with (go_at_call 15; refine (AW.out _).mono ?_; rintro e w10 ⟨rfl, kA⟩)
            go_ret
            exact ⟨rfl, KJ.out.trans kA⟩
      · have q1 : ¬ (k : Int) < (n : Int) := by omega
        go_wp2_with (first
          | (go_at_call 20; refine (erase_at _ D1.out P1.out 0 EN.out.1.spendE _ HER.out).mono ?_; rintro e w4 ⟨rfl, h4, d4, s4, p4⟩; have D4 := hid d4; have K4 := hid (K1.out.after D1.out s4); have P4 := hid p4; clear d4 s4 p4)
          | (go_at_call 21; refine (waits_at _ D4.out P4.out (Nat.zero_le _) [] rfl).mono ?_; rintro e w5 ⟨v5, rfl, hI, k5⟩; obtain ⟨A5, c5, rfl⟩ := hI.shape; simp only [List.length_nil]; have D5 := hid (k5.dev D4.out); have K5 := hid (K4.out.trans k5); clear hI k5)
          | (go_at_call 13; refine (crash_at vf L _ D5.out P4.out (ints_nin HLI.out K5.out D5.out) _ HCR.out).mono ?_; rintro e w6 ⟨rfl, h6, d6, s6, p6⟩; have D6 := hid d6; have K6 := hid (K5.out.after D5.out s6); have P6 := hid p6; clear d6 s6 p6)
          | (go_at_call 14; refine (on_at _ D6.out P6.out _ HON.out).mono ?_; rintro e w7 ⟨rfl, h7, d7, s7, p7⟩; have D7 := hid d7; have K7 := hid (K6.out.after D6.out s7); have P7 := hid p7; clear d7 s7 p7))
        go_loopw [8] (fun t wr => ∃ j : Nat, j ≤ 4 ∧ t = .int .i64 j ∧ DevAt wr w.heap.size h7 (zS S) ∧ Kept w wr) (fun t _ => 4 - (intOf t).toNat)
        case atStart => exact ⟨0, by omega, rfl, D7.out, K7.out⟩
        case round =>
          obtain ⟨j, hj, rfl, hdj, hkj⟩ := hrel
          have DJ := hid hdj; have KJ := hid hkj
          clear hdj hkj
          by_cases hlt : j < 4
          · have e0 : (0 : Int) ≤ (j : Int) := by omega
            have e1 : (j : Int) < 4 := by omega
            have HRE := hid (zS_rdE EN.out.1 j hlt); have HRL := hid (zS_rdL EN.out.1 j hlt)
            go_wp2_with (go_at_call 12; refine (read_at (j : Int) _ DJ.out P7.out _ HRL.out 0 HRE.out).mono ?_; rintro e w8 ⟨vb, rfl, hb, k8⟩; obtain ⟨gb, rfl, ob, lb⟩ := bout_some hb (by decide); have D8 := hid (k8.dev DJ.out); have K8 := hid (KJ.out.trans k8); have OB := hid ob; clear ob lb hb k8)
            have HCV := hid (fun (w' : World) (k : Kept w8 w') => (⟨k, conv_blk (n := 128) (rep 0) (rep_len 0) (k.oblk OB.out).range 128⟩ : Kept w8 w' ∧ (convert 31 9 (.slice (some ⟨gb, 0, none⟩) 128 128)).run Try.prog w' = .ok (.string (bstr (rep 0))) w'))
            have KK := Kept.refl w8
            generalize hcs : bstr (rep 0) = cs at *
            refine wp_region_held_drew (S := fun w' => Kept w8 w' ∧ (convert 31 9 (.slice (some ⟨gb, 0, none⟩) 128 128)).run Try.prog w' = .ok (.string cs) w') (by kernel_rfl) (HCV.out _ (by repeat (first | exact Kept.refl _ | assumption | refine Kept.alloc ?_ _ | refine Kept.drew ?_ | refine Kept.drewN ?_ _ | refine Kept.setCell ?_ (by simp; try omega) _ | refine Kept.trans ?_ (by assumption)))) (fun hHeld => ?_)
            refine wpAnyH_take (i := 0) (v := ?_) rfl (by kernel_rfl) (by kernel_rfl) (by kernel_rfl) (fun _ _ _ h => h) (Or.inl ⟨by rfl, ?_⟩) (by assumption) ?_
            rotate_left
            focus (intro w hSw; (try dsimp only at hSw); go_simp; first | done | with_reducible rfl)
            (try simp only [List.getElem_toArray, List.getElem_cons_zero, List.getElem_cons_succ, Act.put, List.setIfInBounds_toArray, List.set_cons_zero, List.set_cons_succ])
            refine wpAnyH_take (i := 1) (v := ?_) rfl (by kernel_rfl) (by kernel_rfl) (by kernel_rfl) (fun _ _ _ h => h) (Or.inl ⟨by rfl, ?_⟩) (by assumption) ?_
            rotate_left
            focus (intro w hSw; (try dsimp only at hSw); go_simp; first | done | with_reducible rfl)
            (try simp only [List.getElem_toArray, List.getElem_cons_zero, List.getElem_cons_succ, Act.put, List.setIfInBounds_toArray, List.set_cons_zero, List.set_cons_succ])
            refine wpAnyH_ready (rs := [2]) (by kernel_rfl) (by simp) ?_
            refine AllReadyH.cons rfl (fun K hK => ?_) AllReadyH.nil
            go_simp; go_at_call 10; (with_reducible refine (A0.out _).mono ?_); rintro e wZ ⟨gZ, rfl, oZ, lZ, kZ⟩; have hcv2 := conv_blk (n := 128) (rep 0) (rep_len 0) oZ.range 128; rw [hcs] at hcv2
            refine hK.out _ _ (HCV.out _ (by repeat (first | exact Kept.refl _ | assumption | refine Kept.alloc ?_ _ | refine Kept.drew ?_ | refine Kept.drewN ?_ _ | refine Kept.setCell ?_ (by simp; try omega) _ | refine Kept.trans ?_ (by assumption)))) (fun hHeld => ?_)
            clear hK K
            (try simp only [List.getElem_toArray, List.getElem_cons_zero, List.getElem_cons_succ, Act.put, List.setIfInBounds_toArray, List.set_cons_zero, List.set_cons_succ])
            refine wpAnyH_ready (rs := [3]) (by kernel_rfl) (by simp) ?_
            refine AllReadyH.cons rfl (fun K hK => ?_) AllReadyH.nil
            go_simp
            refine hK.out _ _ (HCV.out _ (by repeat (first | exact Kept.refl _ | assumption | refine Kept.alloc ?_ _ | refine Kept.drew ?_ | refine Kept.drewN ?_ _ | refine Kept.setCell ?_ (by simp; try omega) _ | refine Kept.trans ?_ (by assumption)))) (fun hHeld => ?_)
            clear hK K
            (try simp only [List.getElem_toArray, List.getElem_cons_zero, List.getElem_cons_succ, Act.put, List.setIfInBounds_toArray, List.set_cons_zero, List.set_cons_succ])
            refine wpAnyH_take (i := 4) (v := ?_) rfl (by kernel_rfl) (by kernel_rfl) (by kernel_rfl) (fun _ _ _ h => h) (Or.inl ⟨by rfl, ?_⟩) (by assumption) ?_
            rotate_left
            focus (intro w hSw; (try dsimp only at hSw); go_simp; first | done | with_reducible rfl)
            (try simp only [List.getElem_toArray, List.getElem_cons_zero, List.getElem_cons_succ, Act.put, List.setIfInBounds_toArray, List.set_cons_zero, List.set_cons_succ])
            refine wpAnyH_take (i := 5) (v := ?_) rfl (by kernel_rfl) (by kernel_rfl) (by kernel_rfl) (fun _ _ _ h => h) (Or.inl ⟨by rfl, ?_⟩) (by assumption) ?_
            rotate_left
            focus (intro w hSw; (try dsimp only at hSw); go_simp; first | done | with_reducible rfl)
            (try simp only [List.getElem_toArray, List.getElem_cons_zero, List.getElem_cons_succ, Act.put, List.setIfInBounds_toArray, List.set_cons_zero, List.set_cons_succ])
            refine wpAnyH_take (i := 6) (v := ?_) rfl (by kernel_rfl) (by kernel_rfl) (by kernel_rfl) (fun _ _ _ h => h) (Or.inl ⟨by rfl, ?_⟩) (by assumption) ?_
            rotate_left
            focus (intro w hSw; (try dsimp only at hSw); go_simp; first | done | with_reducible rfl)
            (try simp only [List.getElem_toArray, List.getElem_cons_zero, List.getElem_cons_succ, Act.put, List.setIfInBounds_toArray, List.set_cons_zero, List.set_cons_succ])
            refine wpAnyH_take (i := 7) (v := ?_) rfl (by kernel_rfl) (by kernel_rfl) (by kernel_rfl) (fun _ _ _ h => h) (Or.inl ⟨by rfl, ?_⟩) (by assumption) ?_
            rotate_left
            focus (intro w hSw; (try dsimp only at hSw); go_simp; first | done | with_reducible rfl)
            (try simp only [List.getElem_toArray, List.getElem_cons_zero, List.getElem_cons_succ, Act.put, List.setIfInBounds_toArray, List.set_cons_zero, List.set_cons_succ])
            refine wpAnyH_take (i := 8) (v := ?_) rfl (by kernel_rfl) (by kernel_rfl) (by kernel_rfl) (fun _ _ _ h => h) (Or.inl ⟨by rfl, ?_⟩) (by assumption) ?_
            rotate_left
            focus (intro w hSw; (try dsimp only at hSw); go_simp; first | done | with_reducible rfl)
            (try simp only [List.getElem_toArray, List.getElem_cons_zero, List.getElem_cons_succ, Act.put, List.setIfInBounds_toArray, List.set_cons_zero, List.set_cons_succ])
            refine wpAnyH_done (by kernel_rfl) ?_ _
            all_goals (
              go_wp2_with fail
              go_roundw
              case rel => exact ⟨j + 1, by omega, by go_num, (show Kept w8 _ from (by repeat (first | exact Kept.refl _ | assumption | refine Kept.alloc ?_ _ | refine Kept.drew ?_ | refine Kept.drewN ?_ _ | refine Kept.setCell ?_ (by simp; try omega) _ | refine Kept.trans ?_ (by assumption)))).dev D8.out, K8.out.trans (show Kept w8 _ from (by repeat (first | exact Kept.refl _ | assumption | refine Kept.alloc ?_ _ | refine Kept.drew ?_ | refine Kept.drewN ?_ _ | refine Kept.setCell ?_ (by simp; try omega) _ | refine Kept.trans ?_ (by assumption))))⟩
              case measure => simp [intOf]; omega)
          · obtain rfl : j = 4 := by omega
            go_wp2_with (go_at_call 15; refine (AW.out _).mono ?_; rintro e w10 ⟨rfl, kA⟩)
            go_ret
            exact ⟨rfl, KJ.out.trans kA⟩
theorem erases_at {w : World} (n : Nat) (F : Nat → Ac) (v : Value) (hA : Acts w v n F) (L : List Int) (vf : Value) (hL : Ints w vf L) (_ : World) :
    Calls Try.prog 6 #[v, vf] w fun e w' => e = .returned (.bool true) ∧ Kept w w' := erases_any n F v hA L vf hL
end Go.Proofs.Ytpbmkokjjcdhfaa
