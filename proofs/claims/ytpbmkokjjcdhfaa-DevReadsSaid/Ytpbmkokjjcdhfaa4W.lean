/- DevReads: the walk. -/
import Derived.Test.Ytpbmkokjjcdhfaa4V
namespace Go.Proofs.Ytpbmkokjjcdhfaa
set_option linter.unusedSimpArgs false
set_option linter.unusedVariables false
open Go.RowKit

theorem rep_ne (c : UInt8) : rep c ≠ [] := by intro h; have := rep_len c; rw [h] at this; cases this
structure RLoop (w : World) (P q n : Nat) (k : Nat) (h : DH) (S : DS) (want : UInt8) (fault : Int) (away : Bool) (wr : World) : Prop where
  kn : k ≤ n
  k40 : k ≤ 40
  d : DevAt wr w.heap.size h S
  p : h.P = P
  r : RInv k q S want fault away
  kept : Kept w wr

set_option maxRecDepth 100000 in
set_option maxHeartbeats 4000000 in
theorem reads_any {w : World} (n : Nat) (F : Nat → Ac) (v : Value) (hA : Acts w v n F) (a : Int) (ra : 0 ≤ a ∧ a ≤ 255) :
    Calls Try.prog 4 #[v, .int .u8 a] w fun e w' => e = .returned (.bool true) ∧ Kept w w' := by
  have HN := hid (new_any 4 (by decide) (by decide))
  have AW := hid awake_any
  have HAC := hid (fun (c : UInt8) => all_at c _ rfl)
  have A0 := hid (all_at 0 0 rfl)
  have hte : Int.tmod a 4 = a % 4 := Int.tmod_eq_emod_of_nonneg ra.1
  obtain ⟨q, hq, hqe⟩ : ∃ q : Nat, q < 4 ∧ a % 4 = (q : Int) := ⟨(a % 4).toNat, by omega, by omega⟩
  have hqa : Int.tmod a 4 = (q : Int) := hte.trans hqe
  clear hte
  have hw1 : IntKind.u8.wrap (q : Int) = (q : Int) := by simp [IntKind.wrap, go_sem]; omega
  have hw2 : IntKind.i64.wrap (q : Int) = (q : Int) := by simp [IntKind.wrap, go_sem]; omega
  obtain ⟨A, c, rfl, hnc, hc63, hcell⟩ := hA
  have HCE := hid hcell
  clear hcell
  have HCV := hid (fun (w' : World) (g : Nat) (x : UInt8) (ob : OBlk w' g 5 (rep x)) => conv_blk (n := 128) (rep x) (rep_len x) ob.range 128)
  go_enter Try.func4, Try.ntmps4
  go_wp2_with (first
    | (go_at_call 8; refine (HN.out _).mono ?_; rintro e w1 ⟨h0, rfl, d0, k0⟩; obtain ⟨P, hP⟩ : ∃ P, P = h0.P := ⟨_, rfl⟩; rw [← hP]; have P0 := hid hP.symm; have D0 := hid d0; have K0 := hid k0; clear hP d0 k0)
    | (go_at_call 10; (with_reducible refine (A0.out _).mono ?_); rintro e w2 ⟨g7, rfl, o7, l7, k7⟩; have D1 := hid (k7.dev D0.out); have K1 := hid (K0.out.trans k7); have hcv := HCV.out _ _ _ o7; clear o7 l7 k7))
  have HQ := hid hqa; have HQE := hid hqe; have HQ4 := hid hq
  clear hqa hqe hw1 hw2 hcv
  go_loopw [8, 9, 10, 11] (fun tw tf ta tk wr => ∃ (k : Nat) (h : DH) (S : DS) (want : UInt8) (fault : Int) (away : Bool), tw = .string (bstr (rep want)) ∧ tf = .int .i64 fault ∧ ta = .bool away ∧ tk = .int .i64 k ∧ RLoop w P q n k h S want fault away wr) (fun _ _ _ t _ => 40 - (intOf t).toNat)
  case atStart => exact ⟨0, h0, newS 4, 0, 0, false, rfl, rfl, rfl, rfl, by omega, by omega, D1.out, P0.out, rinv_new q, K1.out⟩
  case round =>
    obtain ⟨k, h', S, want, fault, away, rfl, rfl, rfl, rfl, hl⟩ := hrel
    have HL := hid hl
    have hk1 := hl.kn; have hk2 := hl.k40
    clear hl D0 D1 P0 K0 K1
    by_cases hlt : k < n ∧ k < 40
    · obtain ⟨hlt, hlt2⟩ := hlt
      have q0 : (0 : Int) ≤ (k : Int) := by omega
      have q1 : (k : Int) < (n : Int) := by omega
      have q2 : (k : Int) < 40 := by omega
      obtain ⟨b, o, rfl, hat⟩ := HCE.out (by omega)
      have hac := HL.out.kept.acAt (hat k hlt)
      clear hat
      generalize F k = ac at *
      obtain ⟨dd, ii, kk, cc, sh, fv, far⟩ := ac
      obtain ⟨Af, cf, hfv⟩ := hac.fr.shape
      dsimp only at hfv
      subst hfv
      have c0 := hac.c0; have c1 := hac.c1; have c2 := hac.c2; have c3 := hac.c3; have c4 := hac.c4; have c5 := hac.c5
      dsimp only at c0 c1 c2 c3 c4 c5
      clear hac
      by_cases h2 : dd = 2
      · subst h2
        go_wp2_with (go_at_call 11; refine (flush_at _ (((Kept.refl wr).alloc _).dev HL.out.d) HL.out.p _ rfl _ rfl).mono ?_; rintro e w4 ⟨rfl, h4, d4, s4, p4⟩; have DZ := hid d4; have PZ := hid p4; have KZ := hid ((HL.out.kept.trans ((Kept.refl wr).alloc _)).after (((Kept.refl wr).alloc _).dev HL.out.d) s4); clear d4 s4 p4)
        have RZ := hid (HL.out.r.flush HQ4.out)
        clear HL
        have hf0 := (RZ.out.f0).1
        have HE := hid (RZ.out.rdE HQ4.out); have HLL := hid (RZ.out.rdL HQ4.out)
        by_cases hrd : away = true ∨ fault % 2 = 1
        · have HE2 := hid (HE.out.trans (if_pos hrd)); have HL2 := hid (HLL.out.trans (if_pos hrd))
          clear HE HLL
          rcases Bool.eq_false_or_eq_true away with haw | haw <;> cases haw
          all_goals (
            (first | (have hff : fault % 2 = 1 := by simpa using hrd) | skip)
            have HRD := hid hrd
            clear hrd
            go_wp2_with (go_at_call 12; refine (read_at (q : Int) _ DZ.out PZ.out [] HL2.out 9 HE2.out).mono ?_; rintro e w8 ⟨vb, rfl, hb, k8⟩; obtain rfl := bout_none hb; have D8 := hid (k8.dev DZ.out); have K8 := hid (KZ.out.trans k8); clear hb k8)
            go_roundw
            case rel => exact ⟨k + 1, _, _, _, _, _, rfl, rfl, rfl, by go_num, ⟨by omega, by omega, D8.out, PZ.out, RZ.out, K8.out⟩⟩
            case measure => simp [intOf]; omega)
        · have HE2 := hid (HE.out.trans (if_neg hrd)); have HL2 := hid (HLL.out.trans (if_neg hrd))
          clear HE HLL
          obtain ⟨haw, hff⟩ : away = false ∧ ¬ fault % 2 = 1 := ⟨by cases h : away with | true => exact absurd (Or.inl h) hrd | false => rfl, fun h => hrd (Or.inr h)⟩
          clear hrd
          cases haw
          go_wp2_with (go_at_call 12; refine (read_at (q : Int) _ DZ.out PZ.out _ HL2.out 0 HE2.out).mono ?_; rintro e w8 ⟨vb, rfl, hb, k8⟩; obtain ⟨gb, rfl, ob, lb⟩ := bout_some hb (rep_ne _); have D8 := hid (k8.dev DZ.out); have K8 := hid (KZ.out.trans k8); have hcv := conv_blk (n := 128) (rep want) (rep_len want) ob.range 128; clear ob lb hb k8)
          go_roundw
          case rel => exact ⟨k + 1, _, _, _, _, _, rfl, rfl, rfl, by go_num, ⟨by omega, by omega, D8.out, PZ.out, RZ.out, K8.out⟩⟩
          case measure => simp [intOf]; omega
      · by_cases h6 : dd = 6
        · have e2 : (dd == 2) = false := by simp [h6]
          subst h6
          have HFN := hid (show S.fn ≤ 1000 by have := HL.out.r.fn; omega)
          have CB := hid c1; have CC := hid c2
          have HR := hid (HL.out.r.fault_at ii kk)
          obtain ⟨r, hr⟩ : ∃ r, r = fltE S ii kk := ⟨_, rfl⟩
          obtain ⟨S', hS'⟩ : ∃ S', S' = (if fltE S ii kk = 0 then fltS S ii kk else S) := ⟨_, rfl⟩
          rw [← hS', ← hr] at HR
          have HRE := hid hr.symm; have HSE := hid hS'.symm
          clear hr hS'
          by_cases hz : r = 0 ∧ ii = (q : Int)
          · obtain ⟨hz1, hz2⟩ := hz
            subst hz1; subst hz2
            go_wp2_with (go_at_call 16; refine (fault_at _ kk _ (((Kept.refl wr).alloc _).dev HL.out.d) HL.out.p HFN.out _ HRE.out _ HSE.out).mono ?_; rintro e w4 ⟨rfl, h4, d4, s4, p4⟩; have DZ := hid d4; have PZ := hid p4; have KZ := hid ((HL.out.kept.trans ((Kept.refl wr).alloc _)).after (((Kept.refl wr).alloc _).dev HL.out.d) s4); have g1 := s4.keeps (b := wr.heap.size) (o := 1) (sp := none) (v := .int .i64 (q : Int)) ⟨by simp, HL.out.d.new_out (Nat.le_refl _)⟩ (by simp [go_sem]); have g2 := s4.keeps (b := wr.heap.size) (o := 2) (sp := none) (v := .int .i64 kk) ⟨by simp, HL.out.d.new_out (Nat.le_refl _)⟩ (by simp [go_sem]); clear d4 s4 p4)
            have RZ := hid (show RInv (k + 1) q S' want kk away by have h := HR.out; rwa [if_pos ⟨trivial, trivial⟩] at h)
            clear HL HR HRE HSE g1 g2
            have hf0 := (RZ.out.f0).1
            have HE := hid (RZ.out.rdE HQ4.out); have HLL := hid (RZ.out.rdL HQ4.out)
            by_cases hrd : away = true ∨ kk % 2 = 1
            · have HE2 := hid (HE.out.trans (if_pos hrd)); have HL2 := hid (HLL.out.trans (if_pos hrd))
              clear HE HLL
              rcases Bool.eq_false_or_eq_true away with haw | haw <;> cases haw
              all_goals (
                (first | (have hff : kk % 2 = 1 := by simpa using hrd) | skip)
                have HRD := hid hrd
                clear hrd
                go_wp2_with (go_at_call 12; refine (read_at (q : Int) _ DZ.out PZ.out [] HL2.out 9 HE2.out).mono ?_; rintro e w8 ⟨vb, rfl, hb, k8⟩; obtain rfl := bout_none hb; have D8 := hid (k8.dev DZ.out); have K8 := hid (KZ.out.trans k8); clear hb k8)
                go_roundw
                case rel => exact ⟨k + 1, _, _, _, _, _, rfl, rfl, rfl, by go_num, ⟨by omega, by omega, D8.out, PZ.out, RZ.out, K8.out⟩⟩
                case measure => simp [intOf]; omega)
            · have HE2 := hid (HE.out.trans (if_neg hrd)); have HL2 := hid (HLL.out.trans (if_neg hrd))
              clear HE HLL
              obtain ⟨haw, hff⟩ : away = false ∧ ¬ kk % 2 = 1 := ⟨by cases h : away with | true => exact absurd (Or.inl h) hrd | false => rfl, fun h => hrd (Or.inr h)⟩
              clear hrd
              cases haw
              go_wp2_with (go_at_call 12; refine (read_at (q : Int) _ DZ.out PZ.out _ HL2.out 0 HE2.out).mono ?_; rintro e w8 ⟨vb, rfl, hb, k8⟩; obtain ⟨gb, rfl, ob, lb⟩ := bout_some hb (rep_ne _); have D8 := hid (k8.dev DZ.out); have K8 := hid (KZ.out.trans k8); have hcv := conv_blk (n := 128) (rep want) (rep_len want) ob.range 128; clear ob lb hb k8)
              go_roundw
              case rel => exact ⟨k + 1, _, _, _, _, _, rfl, rfl, rfl, by go_num, ⟨by omega, by omega, D8.out, PZ.out, RZ.out, K8.out⟩⟩
              case measure => simp [intOf]; omega
          · have RZ := hid (show RInv (k + 1) q S' want fault away by have h := HR.out; rwa [if_neg hz] at h)
            clear HR
            by_cases hr0 : r = 0
            · have hr1 : (r == 0) = true := by simpa using hr0
              have hr2 : (ii == (q : Int)) = false := by simp; exact fun e => hz ⟨hr0, e⟩
              clear hz hr0
              go_wp2_with (go_at_call 16; refine (fault_at _ kk _ (((Kept.refl wr).alloc _).dev HL.out.d) HL.out.p HFN.out _ HRE.out _ HSE.out).mono ?_; rintro e w4 ⟨rfl, h4, d4, s4, p4⟩; have DZ := hid d4; have PZ := hid p4; have KZ := hid ((HL.out.kept.trans ((Kept.refl wr).alloc _)).after (((Kept.refl wr).alloc _).dev HL.out.d) s4); have g1 := s4.keeps (b := wr.heap.size) (o := 1) (sp := none) (v := .int .i64 ii) ⟨by simp, HL.out.d.new_out (Nat.le_refl _)⟩ (by simp [go_sem]); have g2 := s4.keeps (b := wr.heap.size) (o := 2) (sp := none) (v := .int .i64 kk) ⟨by simp, HL.out.d.new_out (Nat.le_refl _)⟩ (by simp [go_sem]); clear d4 s4 p4)
              clear HL HRE HSE g1 g2 hr1 hr2
              have hf0 := (RZ.out.f0).1
              have HE := hid (RZ.out.rdE HQ4.out); have HLL := hid (RZ.out.rdL HQ4.out)
              by_cases hrd : away = true ∨ fault % 2 = 1
              · have HE2 := hid (HE.out.trans (if_pos hrd)); have HL2 := hid (HLL.out.trans (if_pos hrd))
                clear HE HLL
                rcases Bool.eq_false_or_eq_true away with haw | haw <;> cases haw
                all_goals (
                  (first | (have hff : fault % 2 = 1 := by simpa using hrd) | skip)
                  have HRD := hid hrd
                  clear hrd
                  go_wp2_with (go_at_call 12; refine (read_at (q : Int) _ DZ.out PZ.out [] HL2.out 9 HE2.out).mono ?_; rintro e w8 ⟨vb, rfl, hb, k8⟩; obtain rfl := bout_none hb; have D8 := hid (k8.dev DZ.out); have K8 := hid (KZ.out.trans k8); clear hb k8)
                  go_roundw
                  case rel => exact ⟨k + 1, _, _, _, _, _, rfl, rfl, rfl, by go_num, ⟨by omega, by omega, D8.out, PZ.out, RZ.out, K8.out⟩⟩
                  case measure => simp [intOf]; omega)
              · have HE2 := hid (HE.out.trans (if_neg hrd)); have HL2 := hid (HLL.out.trans (if_neg hrd))
                clear HE HLL
                obtain ⟨haw, hff⟩ : away = false ∧ ¬ fault % 2 = 1 := ⟨by cases h : away with | true => exact absurd (Or.inl h) hrd | false => rfl, fun h => hrd (Or.inr h)⟩
                clear hrd
                cases haw
                go_wp2_with (go_at_call 12; refine (read_at (q : Int) _ DZ.out PZ.out _ HL2.out 0 HE2.out).mono ?_; rintro e w8 ⟨vb, rfl, hb, k8⟩; obtain ⟨gb, rfl, ob, lb⟩ := bout_some hb (rep_ne _); have D8 := hid (k8.dev DZ.out); have K8 := hid (KZ.out.trans k8); have hcv := conv_blk (n := 128) (rep want) (rep_len want) ob.range 128; clear ob lb hb k8)
                go_roundw
                case rel => exact ⟨k + 1, _, _, _, _, _, rfl, rfl, rfl, by go_num, ⟨by omega, by omega, D8.out, PZ.out, RZ.out, K8.out⟩⟩
                case measure => simp [intOf]; omega
            · have hr1 : (r == 0) = false := by simpa using hr0
              clear hz hr0
              go_wp2_with (go_at_call 16; refine (fault_at _ kk _ (((Kept.refl wr).alloc _).dev HL.out.d) HL.out.p HFN.out _ HRE.out _ HSE.out).mono ?_; rintro e w4 ⟨rfl, h4, d4, s4, p4⟩; have DZ := hid d4; have PZ := hid p4; have KZ := hid ((HL.out.kept.trans ((Kept.refl wr).alloc _)).after (((Kept.refl wr).alloc _).dev HL.out.d) s4); have g1 := s4.keeps (b := wr.heap.size) (o := 1) (sp := none) (v := .int .i64 ii) ⟨by simp, HL.out.d.new_out (Nat.le_refl _)⟩ (by simp [go_sem]); have g2 := s4.keeps (b := wr.heap.size) (o := 2) (sp := none) (v := .int .i64 kk) ⟨by simp, HL.out.d.new_out (Nat.le_refl _)⟩ (by simp [go_sem]); clear d4 s4 p4)
              clear HL HRE HSE g1 g2 hr1
              have hf0 := (RZ.out.f0).1
              have HE := hid (RZ.out.rdE HQ4.out); have HLL := hid (RZ.out.rdL HQ4.out)
              by_cases hrd : away = true ∨ fault % 2 = 1
              · have HE2 := hid (HE.out.trans (if_pos hrd)); have HL2 := hid (HLL.out.trans (if_pos hrd))
                clear HE HLL
                rcases Bool.eq_false_or_eq_true away with haw | haw <;> cases haw
                all_goals (
                  (first | (have hff : fault % 2 = 1 := by simpa using hrd) | skip)
                  have HRD := hid hrd
                  clear hrd
                  go_wp2_with (go_at_call 12; refine (read_at (q : Int) _ DZ.out PZ.out [] HL2.out 9 HE2.out).mono ?_; rintro e w8 ⟨vb, rfl, hb, k8⟩; obtain rfl := bout_none hb; have D8 := hid (k8.dev DZ.out); have K8 := hid (KZ.out.trans k8); clear hb k8)
                  go_roundw
                  case rel => exact ⟨k + 1, _, _, _, _, _, rfl, rfl, rfl, by go_num, ⟨by omega, by omega, D8.out, PZ.out, RZ.out, K8.out⟩⟩
                  case measure => simp [intOf]; omega)
              · have HE2 := hid (HE.out.trans (if_neg hrd)); have HL2 := hid (HLL.out.trans (if_neg hrd))
                clear HE HLL
                obtain ⟨haw, hff⟩ : away = false ∧ ¬ fault % 2 = 1 := ⟨by cases h : away with | true => exact absurd (Or.inl h) hrd | false => rfl, fun h => hrd (Or.inr h)⟩
                clear hrd
                cases haw
                go_wp2_with (go_at_call 12; refine (read_at (q : Int) _ DZ.out PZ.out _ HL2.out 0 HE2.out).mono ?_; rintro e w8 ⟨vb, rfl, hb, k8⟩; obtain ⟨gb, rfl, ob, lb⟩ := bout_some hb (rep_ne _); have D8 := hid (k8.dev DZ.out); have K8 := hid (KZ.out.trans k8); have hcv := conv_blk (n := 128) (rep want) (rep_len want) ob.range 128; clear ob lb hb k8)
                go_roundw
                case rel => exact ⟨k + 1, _, _, _, _, _, rfl, rfl, rfl, by go_num, ⟨by omega, by omega, D8.out, PZ.out, RZ.out, K8.out⟩⟩
                case measure => simp [intOf]; omega
        · by_cases h7 : dd = 7
          · have e2 : (dd == 2) = false := by simp [h7]
            have e3 : (dd == 6) = false := by simp [h7]
            subst h7
            obtain ⟨aw, hmk⟩ : ∃ aw : Bool, (Int.tmod kk 2 != 0) = aw := ⟨_, rfl⟩
            have RZ := hid (HL.out.r.mount aw)
            go_wp2_with (go_at_call 17; refine (mount_at (!aw) _ (((Kept.refl wr).alloc _).dev HL.out.d) HL.out.p _ rfl).mono ?_; rintro e w4 ⟨rfl, h4, d4, s4, p4⟩; have DZ := hid d4; have PZ := hid p4; have KZ := hid ((HL.out.kept.trans ((Kept.refl wr).alloc _)).after (((Kept.refl wr).alloc _).dev HL.out.d) s4); clear d4 s4 p4)
            clear HL hmk
            have hf0 := (RZ.out.f0).1
            have HE := hid (RZ.out.rdE HQ4.out); have HLL := hid (RZ.out.rdL HQ4.out)
            by_cases hrd : aw = true ∨ fault % 2 = 1
            · have HE2 := hid (HE.out.trans (if_pos hrd)); have HL2 := hid (HLL.out.trans (if_pos hrd))
              clear HE HLL
              rcases Bool.eq_false_or_eq_true aw with haw | haw <;> cases haw
              all_goals (
                (first | (have hff : fault % 2 = 1 := by simpa using hrd) | skip)
                have HRD := hid hrd
                clear hrd
                go_wp2_with (go_at_call 12; refine (read_at (q : Int) _ DZ.out PZ.out [] HL2.out 9 HE2.out).mono ?_; rintro e w8 ⟨vb, rfl, hb, k8⟩; obtain rfl := bout_none hb; have D8 := hid (k8.dev DZ.out); have K8 := hid (KZ.out.trans k8); clear hb k8)
                go_roundw
                case rel => exact ⟨k + 1, _, _, _, _, _, rfl, rfl, rfl, by go_num, ⟨by omega, by omega, D8.out, PZ.out, RZ.out, K8.out⟩⟩
                case measure => simp [intOf]; omega)
            · have HE2 := hid (HE.out.trans (if_neg hrd)); have HL2 := hid (HLL.out.trans (if_neg hrd))
              clear HE HLL
              obtain ⟨haw, hff⟩ : aw = false ∧ ¬ fault % 2 = 1 := ⟨by cases h : aw with | true => exact absurd (Or.inl h) hrd | false => rfl, fun h => hrd (Or.inr h)⟩
              clear hrd
              cases haw
              go_wp2_with (go_at_call 12; refine (read_at (q : Int) _ DZ.out PZ.out _ HL2.out 0 HE2.out).mono ?_; rintro e w8 ⟨vb, rfl, hb, k8⟩; obtain ⟨gb, rfl, ob, lb⟩ := bout_some hb (rep_ne _); have D8 := hid (k8.dev DZ.out); have K8 := hid (KZ.out.trans k8); have hcv := conv_blk (n := 128) (rep want) (rep_len want) ob.range 128; clear ob lb hb k8)
              go_roundw
              case rel => exact ⟨k + 1, _, _, _, _, _, rfl, rfl, rfl, by go_num, ⟨by omega, by omega, D8.out, PZ.out, RZ.out, K8.out⟩⟩
              case measure => simp [intOf]; omega
          · have e2 : (dd == 2) = false := by simpa using h2
            have e3 : (dd == 6) = false := by simpa using h6
            have e4 : (dd == 7) = false := by simpa using h7
            clear h2 h6 h7
            have HPE := hid (show S.pend.length ≤ 1000 by have := HL.out.r.pd; omega)
            have RZ0 := hid (HL.out.r.write ii cc)
            have W0 := hid (HL.out.r.wr0 ii cc)
            obtain ⟨r, hr⟩ : ∃ r, r = wrE S ii (rep cc).length := ⟨_, rfl⟩
            rw [← hr] at RZ0 W0
            obtain ⟨S', hS'⟩ : ∃ S', S' = wrS S ii (rep cc) := ⟨_, rfl⟩
            rw [← hS'] at RZ0
            have HRE := hid hr.symm; have HSE := hid hS'.symm
            clear hr hS'
            go_wp2_with fail
            have DB := hid (((Kept.refl wr).alloc (.cells #[.int .i64 dd, .int .i64 ii, .int .i64 kk, .int .u8 (cc.toNat : Int), .bool sh, .slice Af far.length cf] 30)).dev HL.out.d)
            have KB := hid (HL.out.kept.trans ((Kept.refl wr).alloc (.cells #[.int .i64 dd, .int .i64 ii, .int .i64 kk, .int .u8 (cc.toNat : Int), .bool sh, .slice Af far.length cf] 30)))
            have g1 : (wr.alloc (.cells #[.int .i64 dd, .int .i64 ii, .int .i64 kk, .int .u8 (cc.toNat : Int), .bool sh, .slice Af far.length cf] 30)).cell? ⟨wr.heap.size, 1, none⟩ = some (.int .i64 ii) := by simp [go_sem]
            have g3 : (wr.alloc (.cells #[.int .i64 dd, .int .i64 ii, .int .i64 kk, .int .u8 (cc.toNat : Int), .bool sh, .slice Af far.length cf] 30)).cell? ⟨wr.heap.size, 3, none⟩ = some (.int .u8 (cc.toNat : Int)) := by simp [go_sem]
            have HO := hid (HL.out.d.new_out (Nat.le_refl _))
            have PB := hid HL.out.p
            clear HL c0 c1 c2 c3 c4 c5
            generalize (wr.alloc (.cells #[.int .i64 dd, .int .i64 ii, .int .i64 kk, .int .u8 (cc.toNat : Int), .bool sh, .slice Af far.length cf] 30)) = wb at *
            generalize wr.heap.size = bx at *
            rcases (by by_cases h1 : r = 0 <;> by_cases h2 : ii = (q : Int) <;> simp [h1, h2] : (r = 0 ∧ ii = (q : Int)) ∨ (r = 0 ∧ ¬ ii = (q : Int)) ∨ ¬ r = 0) with ⟨hr0, hiq⟩ | ⟨hr0, hiq⟩ | hr0
            · subst hr0; subst hiq
              have RZ := hid (show RInv (k + 1) q S' cc fault away by have h := RZ0.out; rwa [if_pos ⟨rfl, rfl⟩] at h)
              have hav := (W0.out rfl).1
              have hfl := (W0.out rfl).2.1 rfl
              clear RZ0 W0
              subst hav
              (first | (go_region_held3 (fun w' => w'.cell? ⟨bx, 1, none⟩ = some (.int .i64 (q : Int)) ∧ w'.cell? ⟨bx, 3, none⟩ = some (.int .u8 (cc.toNat : Int)))
                (first | exact ⟨g1, g3⟩ | exact ⟨by assumption, by assumption⟩ | (go_split_ands; exact ⟨by assumption, by assumption⟩))
                (first
                | (go_at_call 9; (with_reducible refine (write_at _ _ (rep cc) _ D2.out PB.out B7.out HPE.out _ HRE.out S' HSE.out).mono ?_); rintro e w3 ⟨rfl, h3, d3, s3, p3⟩; have D3 := hid d3; have K3 := hid (K2.out.after D2.out s3); have PZ := hid p3; have m1 := s3.keeps O2.out n1; have m3 := s3.keeps O2.out n3; clear d3 s3 p3)
                | (go_at_call 10; (with_reducible refine (HAC.out _ _).mono ?_); rintro e w2 ⟨g7, rfl, o7, l7, k7⟩; have D2 := hid (k7.dev DB.out.drew); have B7 := hid (all_bin DB.out.drew k7 o7 l7); have K2 := hid (KB.out.drew.trans k7); have n1 := k7.keeps (b := bx) (o := 1) (s := none) g1; have n3 := k7.keeps (b := bx) (o := 3) (s := none) g3; have O2 := hid (show Out h' w2 bx from ⟨cell_lt n1, HO.out⟩); clear o7 l7 k7))) | fail)
              all_goals (
                go_wp2_with (go_at_call 10; (with_reducible refine (HAC.out _ _).mono ?_); rintro e w5 ⟨g8, rfl, o8, l8, k8⟩; have DZ := hid (k8.dev D3.out); have KZ := hid (K3.out.trans k8); have hcv := HCV.out _ _ _ o8; clear o8 l8 k8)
                clear m1 m3 n1 n3 g1 g3 HRE HSE D3 K3
                have hf0 := (RZ.out.f0).1
                have HE := hid (RZ.out.rdE HQ4.out); have HLL := hid (RZ.out.rdL HQ4.out)
                by_cases hrd : false = true ∨ fault % 2 = 1
                · have HE2 := hid (HE.out.trans (if_pos hrd)); have HL2 := hid (HLL.out.trans (if_pos hrd))
                  clear HE HLL
                  rcases Bool.eq_false_or_eq_true false with haw | haw <;> cases haw
                  all_goals (
                    (first | (have hff : fault % 2 = 1 := by simpa using hrd) | skip)
                    have HRD := hid hrd
                    clear hrd
                    go_wp2_with (go_at_call 12; refine (read_at (q : Int) _ DZ.out PZ.out [] HL2.out 9 HE2.out).mono ?_; rintro e w8 ⟨vb, rfl, hb, k8⟩; obtain rfl := bout_none hb; have D8 := hid (k8.dev DZ.out); have K8 := hid (KZ.out.trans k8); clear hb k8)
                    go_roundw
                    case rel => exact ⟨k + 1, _, _, _, _, _, rfl, rfl, rfl, by go_num, ⟨by omega, by omega, D8.out, PZ.out, RZ.out, K8.out⟩⟩
                    case measure => simp [intOf]; omega)
                · have HE2 := hid (HE.out.trans (if_neg hrd)); have HL2 := hid (HLL.out.trans (if_neg hrd))
                  clear HE HLL
                  obtain ⟨haw, hff⟩ : false = false ∧ ¬ fault % 2 = 1 := ⟨by cases h : false with | true => exact absurd (Or.inl h) hrd | false => rfl, fun h => hrd (Or.inr h)⟩
                  clear hrd
                  cases haw
                  go_wp2_with (go_at_call 12; refine (read_at (q : Int) _ DZ.out PZ.out _ HL2.out 0 HE2.out).mono ?_; rintro e w8 ⟨vb, rfl, hb, k8⟩; obtain ⟨gb, rfl, ob, lb⟩ := bout_some hb (rep_ne _); have D8 := hid (k8.dev DZ.out); have K8 := hid (KZ.out.trans k8); have hcv := conv_blk (n := 128) (rep cc) (rep_len cc) ob.range 128; clear ob lb hb k8)
                  go_roundw
                  case rel => exact ⟨k + 1, _, _, _, _, _, rfl, rfl, rfl, by go_num, ⟨by omega, by omega, D8.out, PZ.out, RZ.out, K8.out⟩⟩
                  case measure => simp [intOf]; omega
                skip)
            · subst hr0
              have hiq2 : (ii == (q : Int)) = false := by simpa using hiq
              have RZ := hid (show RInv (k + 1) q S' want fault away by have h := RZ0.out; rwa [if_neg (fun e => hiq e.2)] at h)
              clear RZ0 W0 hiq
              (first | (go_region_held3 (fun w' => w'.cell? ⟨bx, 1, none⟩ = some (.int .i64 ii) ∧ w'.cell? ⟨bx, 3, none⟩ = some (.int .u8 (cc.toNat : Int)))
                (first | exact ⟨g1, g3⟩ | exact ⟨by assumption, by assumption⟩ | (go_split_ands; exact ⟨by assumption, by assumption⟩))
                (first
                | (go_at_call 9; (with_reducible refine (write_at _ _ (rep cc) _ D2.out PB.out B7.out HPE.out _ HRE.out S' HSE.out).mono ?_); rintro e w3 ⟨rfl, h3, d3, s3, p3⟩; have D3 := hid d3; have K3 := hid (K2.out.after D2.out s3); have PZ := hid p3; have m1 := s3.keeps O2.out n1; have m3 := s3.keeps O2.out n3; clear d3 s3 p3)
                | (go_at_call 10; (with_reducible refine (HAC.out _ _).mono ?_); rintro e w2 ⟨g7, rfl, o7, l7, k7⟩; have D2 := hid (k7.dev DB.out.drew); have B7 := hid (all_bin DB.out.drew k7 o7 l7); have K2 := hid (KB.out.drew.trans k7); have n1 := k7.keeps (b := bx) (o := 1) (s := none) g1; have n3 := k7.keeps (b := bx) (o := 3) (s := none) g3; have O2 := hid (show Out h' w2 bx from ⟨cell_lt n1, HO.out⟩); clear o7 l7 k7))) | fail)
              all_goals (
                have DZ := D3; have KZ := K3
                clear D3 K3 m1 m3 n1 n3 g1 g3 HRE HSE
                have hf0 := (RZ.out.f0).1
                have HE := hid (RZ.out.rdE HQ4.out); have HLL := hid (RZ.out.rdL HQ4.out)
                by_cases hrd : away = true ∨ fault % 2 = 1
                · have HE2 := hid (HE.out.trans (if_pos hrd)); have HL2 := hid (HLL.out.trans (if_pos hrd))
                  clear HE HLL
                  rcases Bool.eq_false_or_eq_true away with haw | haw <;> cases haw
                  all_goals (
                    (first | (have hff : fault % 2 = 1 := by simpa using hrd) | skip)
                    have HRD := hid hrd
                    clear hrd
                    go_wp2_with (go_at_call 12; refine (read_at (q : Int) _ DZ.out PZ.out [] HL2.out 9 HE2.out).mono ?_; rintro e w8 ⟨vb, rfl, hb, k8⟩; obtain rfl := bout_none hb; have D8 := hid (k8.dev DZ.out); have K8 := hid (KZ.out.trans k8); clear hb k8)
                    go_roundw
                    case rel => exact ⟨k + 1, _, _, _, _, _, rfl, rfl, rfl, by go_num, ⟨by omega, by omega, D8.out, PZ.out, RZ.out, K8.out⟩⟩
                    case measure => simp [intOf]; omega)
                · have HE2 := hid (HE.out.trans (if_neg hrd)); have HL2 := hid (HLL.out.trans (if_neg hrd))
                  clear HE HLL
                  obtain ⟨haw, hff⟩ : away = false ∧ ¬ fault % 2 = 1 := ⟨by cases h : away with | true => exact absurd (Or.inl h) hrd | false => rfl, fun h => hrd (Or.inr h)⟩
                  clear hrd
                  cases haw
                  go_wp2_with (go_at_call 12; refine (read_at (q : Int) _ DZ.out PZ.out _ HL2.out 0 HE2.out).mono ?_; rintro e w8 ⟨vb, rfl, hb, k8⟩; obtain ⟨gb, rfl, ob, lb⟩ := bout_some hb (rep_ne _); have D8 := hid (k8.dev DZ.out); have K8 := hid (KZ.out.trans k8); have hcv := conv_blk (n := 128) (rep want) (rep_len want) ob.range 128; clear ob lb hb k8)
                  go_roundw
                  case rel => exact ⟨k + 1, _, _, _, _, _, rfl, rfl, rfl, by go_num, ⟨by omega, by omega, D8.out, PZ.out, RZ.out, K8.out⟩⟩
                  case measure => simp [intOf]; omega
                skip)
            · have hr1 : (r == 0) = false := by simpa using hr0
              have hr2 : decide (r = 0) = false := by simpa using hr0
              have RZ := hid (show RInv (k + 1) q S' want fault away by have h := RZ0.out; rwa [if_neg (fun e => hr0 e.1)] at h)
              clear RZ0 W0 hr0
              refine wp_region_held_drew (S := fun w' => w'.cell? ⟨bx, 1, none⟩ = some (.int .i64 ii) ∧ w'.cell? ⟨bx, 3, none⟩ = some (.int .u8 (cc.toNat : Int))) (by kernel_rfl) ⟨g1, g3⟩ (fun hHeld => ?_)
              refine wpAnyH_take (i := 0) (v := ?_) rfl (by kernel_rfl) (by kernel_rfl) (by kernel_rfl) (fun _ _ _ h => h) (Or.inl ⟨by rfl, ?_⟩) (by assumption) ?_
              rotate_left
              focus (intro w hSw; (try dsimp only at hSw); go_simp; first | done | with_reducible rfl)
              (try simp only [List.getElem_toArray, List.getElem_cons_zero, List.getElem_cons_succ, Act.put, List.setIfInBounds_toArray, List.set_cons_zero, List.set_cons_succ])
              refine wpAnyH_take (i := 1) (v := ?_) rfl (by kernel_rfl) (by kernel_rfl) (by kernel_rfl) (fun _ _ _ h => h) (Or.inl ⟨by rfl, ?_⟩) (by assumption) ?_
              rotate_left
              focus (intro w hSw; (try dsimp only at hSw); go_simp; first | done | with_reducible rfl)
              (try simp only [List.getElem_toArray, List.getElem_cons_zero, List.getElem_cons_succ, Act.put, List.setIfInBounds_toArray, List.set_cons_zero, List.set_cons_succ])
              refine wpAnyH_take (i := 2) (v := ?_) rfl (by kernel_rfl) (by kernel_rfl) (by kernel_rfl) (fun _ _ _ h => h) (Or.inl ⟨by rfl, ?_⟩) (by assumption) ?_
              rotate_left
              focus (intro w hSw; (try dsimp only at hSw); go_simp; first | done | with_reducible rfl)
              (try simp only [List.getElem_toArray, List.getElem_cons_zero, List.getElem_cons_succ, Act.put, List.setIfInBounds_toArray, List.set_cons_zero, List.set_cons_succ])
              refine wpAnyH_take (i := 3) (v := ?_) rfl (by kernel_rfl) (by kernel_rfl) (by kernel_rfl) (fun _ _ _ h => h) (Or.inl ⟨by rfl, ?_⟩) (by assumption) ?_
              rotate_left
              focus (intro w hSw; (try dsimp only at hSw); go_simp; first | done | with_reducible rfl)
              (try simp only [List.getElem_toArray, List.getElem_cons_zero, List.getElem_cons_succ, Act.put, List.setIfInBounds_toArray, List.set_cons_zero, List.set_cons_succ])
              refine wpAnyH_take (i := 4) (v := ?_) rfl (by kernel_rfl) (by kernel_rfl) (by kernel_rfl) (fun _ _ _ h => h) (Or.inl ⟨by rfl, ?_⟩) (by assumption) ?_
              rotate_left
              focus (intro w hSw; (try dsimp only at hSw); go_simp; first | done | with_reducible rfl)
              (try simp only [List.getElem_toArray, List.getElem_cons_zero, List.getElem_cons_succ, Act.put, List.setIfInBounds_toArray, List.set_cons_zero, List.set_cons_succ])
              refine wpAnyH_ready (rs := [5]) (by kernel_rfl) (by simp) ?_
              refine AllReadyH.cons rfl (fun K hK => ?_) AllReadyH.nil
              go_simp; go_at_call 10; (with_reducible refine (HAC.out _ _).mono ?_); rintro e w2 ⟨g7, rfl, o7, l7, k7⟩; have D2 := hid (k7.dev DB.out.drew); have B7 := hid (all_bin DB.out.drew k7 o7 l7); have K2 := hid (KB.out.drew.trans k7); have n1 := k7.keeps (b := bx) (o := 1) (s := none) g1; have n3 := k7.keeps (b := bx) (o := 3) (s := none) g3; have O2 := hid (show Out h' w2 bx from ⟨cell_lt n1, HO.out⟩); clear o7 l7 k7
              refine hK.out _ _ (⟨n1, n3⟩) (fun hHeld => ?_)
              clear hK K
              (try simp only [List.getElem_toArray, List.getElem_cons_zero, List.getElem_cons_succ, Act.put, List.setIfInBounds_toArray, List.set_cons_zero, List.set_cons_succ])
              refine wpAnyH_ready (rs := [6]) (by kernel_rfl) (by simp) ?_
              refine AllReadyH.cons rfl (fun K hK => ?_) AllReadyH.nil
              go_simp; go_at_call 9; (with_reducible refine (write_at _ _ (rep cc) _ D2.out PB.out B7.out HPE.out _ HRE.out S' HSE.out).mono ?_); rintro e w3 ⟨rfl, h3, d3, s3, p3⟩; have D3 := hid d3; have K3 := hid (K2.out.after D2.out s3); have PZ := hid p3; have m1 := s3.keeps O2.out n1; have m3 := s3.keeps O2.out n3; clear d3 s3 p3
              refine hK.out _ _ (⟨m1, m3⟩) (fun hHeld => ?_)
              clear hK K
              (try simp only [List.getElem_toArray, List.getElem_cons_zero, List.getElem_cons_succ, Act.put, List.setIfInBounds_toArray, List.set_cons_zero, List.set_cons_succ])
              refine wpAnyH_take (i := 7) (v := ?_) rfl (by kernel_rfl) (by kernel_rfl) (by kernel_rfl) (fun _ _ _ h => h) (Or.inl ⟨by rfl, ?_⟩) (by assumption) ?_
              rotate_left
              focus (intro w hSw; (try dsimp only at hSw); go_simp; first | done | with_reducible rfl)
              (try simp only [List.getElem_toArray, List.getElem_cons_zero, List.getElem_cons_succ, Act.put, List.setIfInBounds_toArray, List.set_cons_zero, List.set_cons_succ])
              refine wpAnyH_take (i := 8) (v := ?_) rfl (by kernel_rfl) (by kernel_rfl) (by kernel_rfl) (fun _ _ _ h => h) (Or.inl ⟨by rfl, ?_⟩) (by assumption) ?_
              rotate_left
              focus (intro w hSw; (try dsimp only at hSw); go_simp; first | done | with_reducible rfl)
              (try simp only [List.getElem_toArray, List.getElem_cons_zero, List.getElem_cons_succ, Act.put, List.setIfInBounds_toArray, List.set_cons_zero, List.set_cons_succ])
              refine wpAnyH_take (i := 9) (v := undef) rfl (by kernel_rfl) (by kernel_rfl) (by kernel_rfl) (fun _ _ _ h => h) (Or.inr ⟨by rfl, rfl⟩) (by assumption) ?_
              (try simp only [List.getElem_toArray, List.getElem_cons_zero, List.getElem_cons_succ, Act.put, List.setIfInBounds_toArray, List.set_cons_zero, List.set_cons_succ])
              refine wpAnyH_take (i := 10) (v := undef) rfl (by kernel_rfl) (by kernel_rfl) (by kernel_rfl) (fun _ _ _ h => h) (Or.inr ⟨by rfl, rfl⟩) (by assumption) ?_
              (try simp only [List.getElem_toArray, List.getElem_cons_zero, List.getElem_cons_succ, Act.put, List.setIfInBounds_toArray, List.set_cons_zero, List.set_cons_succ])
              refine wpAnyH_take (i := 11) (v := undef) rfl (by kernel_rfl) (by kernel_rfl) (by kernel_rfl) (fun _ _ _ h => h) (Or.inr ⟨by rfl, rfl⟩) (by assumption) ?_
              (try simp only [List.getElem_toArray, List.getElem_cons_zero, List.getElem_cons_succ, Act.put, List.setIfInBounds_toArray, List.set_cons_zero, List.set_cons_succ])
              refine wpAnyH_take (i := 12) (v := undef) rfl (by kernel_rfl) (by kernel_rfl) (by kernel_rfl) (fun _ _ _ h => h) (Or.inr ⟨by rfl, rfl⟩) (by assumption) ?_
              (try simp only [List.getElem_toArray, List.getElem_cons_zero, List.getElem_cons_succ, Act.put, List.setIfInBounds_toArray, List.set_cons_zero, List.set_cons_succ])
              refine wpAnyH_take (i := 13) (v := ?_) rfl (by kernel_rfl) (by kernel_rfl) (by kernel_rfl) (fun _ _ _ h => h) (Or.inl ⟨by rfl, ?_⟩) (by assumption) ?_
              rotate_left
              focus (intro w hSw; (try dsimp only at hSw); go_simp; first | done | with_reducible rfl)
              (try simp only [List.getElem_toArray, List.getElem_cons_zero, List.getElem_cons_succ, Act.put, List.setIfInBounds_toArray, List.set_cons_zero, List.set_cons_succ])
              refine wpAnyH_done (by kernel_rfl) ?_ _
              have DZ := D3; have KZ := K3
              clear D3 K3 m1 m3 n1 n3 g1 g3 HRE HSE
              have hf0 := (RZ.out.f0).1
              have HE := hid (RZ.out.rdE HQ4.out); have HLL := hid (RZ.out.rdL HQ4.out)
              by_cases hrd : away = true ∨ fault % 2 = 1
              · have HE2 := hid (HE.out.trans (if_pos hrd)); have HL2 := hid (HLL.out.trans (if_pos hrd))
                clear HE HLL
                rcases Bool.eq_false_or_eq_true away with haw | haw <;> cases haw
                all_goals (
                  (first | (have hff : fault % 2 = 1 := by simpa using hrd) | skip)
                  have HRD := hid hrd
                  clear hrd
                  go_wp2_with (go_at_call 12; refine (read_at (q : Int) _ DZ.out PZ.out [] HL2.out 9 HE2.out).mono ?_; rintro e w8 ⟨vb, rfl, hb, k8⟩; obtain rfl := bout_none hb; have D8 := hid (k8.dev DZ.out); have K8 := hid (KZ.out.trans k8); clear hb k8)
                  go_roundw
                  case rel => exact ⟨k + 1, _, _, _, _, _, rfl, rfl, rfl, by go_num, ⟨by omega, by omega, D8.out, PZ.out, RZ.out, K8.out⟩⟩
                  case measure => simp [intOf]; omega)
              · have HE2 := hid (HE.out.trans (if_neg hrd)); have HL2 := hid (HLL.out.trans (if_neg hrd))
                clear HE HLL
                obtain ⟨haw, hff⟩ : away = false ∧ ¬ fault % 2 = 1 := ⟨by cases h : away with | true => exact absurd (Or.inl h) hrd | false => rfl, fun h => hrd (Or.inr h)⟩
                clear hrd
                cases haw
                go_wp2_with (go_at_call 12; refine (read_at (q : Int) _ DZ.out PZ.out _ HL2.out 0 HE2.out).mono ?_; rintro e w8 ⟨vb, rfl, hb, k8⟩; obtain ⟨gb, rfl, ob, lb⟩ := bout_some hb (rep_ne _); have D8 := hid (k8.dev DZ.out); have K8 := hid (KZ.out.trans k8); have hcv := conv_blk (n := 128) (rep want) (rep_len want) ob.range 128; clear ob lb hb k8)
                go_roundw
                case rel => exact ⟨k + 1, _, _, _, _, _, rfl, rfl, rfl, by go_num, ⟨by omega, by omega, D8.out, PZ.out, RZ.out, K8.out⟩⟩
                case measure => simp [intOf]; omega
    · rcases (by omega : (k < n ∧ k = 40) ∨ ¬ k < n) with ⟨hlt1, hlt2⟩ | hlt1
      · have q1 : (k : Int) < (n : Int) := by omega
        have q2 : ¬ (k : Int) < 40 := by omega
        go_wp2_with (go_at_call 15; refine (AW.out _).mono ?_; rintro e w10 ⟨rfl, kA⟩)
        go_ret
        exact ⟨rfl, HL.out.kept.trans kA⟩
      · have q1 : ¬ (k : Int) < (n : Int) := by omega
        go_wp2_with (go_at_call 15; refine (AW.out _).mono ?_; rintro e w10 ⟨rfl, kA⟩)
        go_ret
        exact ⟨rfl, HL.out.kept.trans kA⟩
theorem reads_at {w : World} (n : Nat) (F : Nat → Ac) (v : Value) (hA : Acts w v n F) (a : Int) (ra : 0 ≤ a ∧ a ≤ 255) (_ : World) :
    Calls Try.prog 4 #[v, .int .u8 a] w fun e w' => e = .returned (.bool true) ∧ Kept w w' := reads_any n F v hA a ra
end Go.Proofs.Ytpbmkokjjcdhfaa
