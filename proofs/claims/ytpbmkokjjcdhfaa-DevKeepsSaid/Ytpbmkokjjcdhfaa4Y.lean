/- DevKeeps: the walk. -/
import Derived.Test.Ytpbmkokjjcdhfaa4X
import Derived.Deep.CutBlock
import Derived.Deep.DeepCutAuto
namespace Go.Proofs.Ytpbmkokjjcdhfaa
set_option linter.unusedSimpArgs false
set_option linter.unusedVariables false
open Go.RowKit

theorem info_string : (Try.prog.info? 9).map (fun i => (i.zero, i.size, i.bytes)) = some (some (.string ByteArray.empty), 1, 16) := by kernel_rfl
def texts (S : DS) (i : Nat) : List Value := (List.range i).map (fun j => .string (bstr (S.blk j)))
theorem texts_succ (S : DS) (i : Nat) : texts S (i + 1) = texts S i ++ [.string (bstr (S.blk i))] := by simp [texts, List.range_succ]
theorem bstr_at (l : List UInt8) (o : Nat) (h : o < (bstr l).size) : (((bstr l)[o]'h).toNat : Int) = ((l.getD o 0).toNat : Int) := by
  rw [bstr_size] at h
  rw [List.getD_eq_getElem?_getD, List.getElem?_eq_getElem h]
  rfl
theorem ne_of_len {l : List UInt8} (h : l.length = 128) : l ≠ [] := by intro e; rw [e] at h; cases h
/-- writes, one after the other -/
structure WLoop (w wS : World) (hS : DH) (P n : Nat) (S0 : DS) (F : Nat → Ac) (k : Nat) (h : DH) (wr : World) : Prop where
  kn : k ≤ n
  k20 : k ≤ 20
  d : DevAt wr w.heap.size h (kst S0 F k)
  p : h.P = P
  st : Step hS h wS wr
set_option maxRecDepth 100000 in
set_option maxHeartbeats 4000000 in
theorem keeps_any {w : World} (n : Nat) (F : Nat → Ac) (v : Value) (hA : Acts w v n F) (n2 : Nat) (F2 : Nat → Ac) (v2 : Value) (hA2 : Acts w v2 n2 F2) (L : List Int) (vf : Value) (hL : Ints w vf L) :
    Calls Try.prog 3 #[v, v2, vf] w fun e w' => e = .returned (.bool true) ∧ Kept w w' := by
  have HN := hid (new_any 4 (by decide) (by decide))
  have AW := hid awake_any
  have HAC := hid (fun (c : UInt8) => all_at c _ rfl)
  have HI := hid (kst_inv (newS 4) F (nice_new 4) rfl)
  obtain ⟨A, c, rfl, hnc, hc63, hcell⟩ := hA
  have HCE := hid hcell
  obtain ⟨A2, c2, rfl, hnc2, hc632, hcell2⟩ := hA2
  have HCE2 := hid hcell2
  obtain ⟨Af, cf, rfl⟩ := hL.shape
  obtain ⟨m, hm⟩ : ∃ m, L.length = m := ⟨_, rfl⟩
  rw [hm] at hL ⊢
  have HM := hid hm
  have HLI := hid hL
  clear hcell hcell2 hL hm
  go_enter Try.func3, Try.ntmps3
  go_upto_block 0 with (go_at_call 8; refine (HN.out _).mono ?_; rintro e w1 ⟨h0, rfl, d0, k0⟩; obtain ⟨P, hP⟩ : ∃ P, P = h0.P := ⟨_, rfl⟩; rw [← hP]; have P0 := hid hP.symm; have D0 := hid d0; have K0 := hid k0; clear hP d0 k0)
  have DB := D0; have KB := K0
  go_cut [9] (fun t wr => ∃ k h, WLoop w w1 h0 P n (newS 4) F k h wr)
  case first =>
    go_wp2_with fail
    go_loopw [9] (fun t wr => ∃ (k : Nat) (h : DH), t = .int .i64 k ∧ WLoop w w1 h0 P n (newS 4) F k h wr) (fun t _ => 20 - (intOf t).toNat)
    case atStart => exact ⟨0, h0, rfl, ⟨by omega, by omega, D0.out, P0.out, Step.refl _ _⟩⟩
    case round =>
      obtain ⟨k, h', rfl, hl⟩ := hrel
      have HL := hid hl
      have hkn := hl.kn; have hk20 := hl.k20
      clear hl
      by_cases hlt : k < n ∧ k < 20
      · obtain ⟨hlt, hlt2⟩ := hlt
        have q0 : (0 : Int) ≤ (k : Int) := by omega
        have q1 : (k : Int) < (n : Int) := by omega
        have q2 : (k : Int) < 20 := by omega
        obtain ⟨b, o, rfl, hat⟩ := HCE.out (by omega)
        have hat := hat k hlt
        have HD := hid HL.out.d; have HP := hid HL.out.p; have HST := hid HL.out.st
        clear HL
        have HPE := hid (show (kst (newS 4) F k).pend.length ≤ 1000 by have := (HI.out k).pl; omega)
        obtain ⟨E1, hE1⟩ : ∃ E1, E1 = kst (newS 4) F (k + 1) := ⟨_, rfl⟩
        have HE1 := hid hE1.symm
        rw [kst] at hE1
        generalize kst (newS 4) F k = S at *
        generalize F k = ac at *
        obtain ⟨dd, ii, kk, cc, sh, fv, far⟩ := ac
        dsimp only at hE1
        have HSE := hid hE1.symm
        have c1 := hat.c1; have c3 := hat.c3
        dsimp only at c1 c3
        clear hat hE1
        have K1 := hid (KB.out.after DB.out HST.out)
        have HS := hid (fun (w' : World) (hk : Kept w w') => (⟨hk, hk.keeps c1, hk.keeps c3⟩ : Kept w w' ∧ w'.cell? ⟨b, o + k * 6 + 1, none⟩ = some (.int .i64 ii) ∧ w'.cell? ⟨b, o + k * 6 + 3, none⟩ = some (.int .u8 (cc.toNat : Int))))
        have k1 := K1.out
        go_wp2
        go_region_held3 (fun w' => Kept w w' ∧ w'.cell? ⟨b, o + k * 6 + 1, none⟩ = some (.int .i64 ii) ∧ w'.cell? ⟨b, o + k * 6 + 3, none⟩ = some (.int .u8 (cc.toNat : Int)))
          (first | exact HS.out _ k1 | exact HS.out _ (by repeat (first | exact Kept.refl _ | assumption | refine Kept.alloc ?_ _ | refine Kept.drew ?_ | refine Kept.drewN ?_ _ | refine Kept.setCell ?_ (by simp; try omega) _ | refine Kept.trans ?_ (by assumption))) | (go_split_ands; exact HS.out _ (by repeat (first | exact Kept.refl _ | assumption | refine Kept.alloc ?_ _ | refine Kept.drew ?_ | refine Kept.drewN ?_ _ | refine Kept.setCell ?_ (by simp; try omega) _ | refine Kept.trans ?_ (by assumption)))))
          (first
          | (go_at_call 9; (with_reducible refine (write_at ii _ (rep cc) _ D2.out HP.out B7.out HPE.out _ rfl E1 HSE.out).mono ?_); rintro e w3 ⟨rfl, h3, d3, s3, p3⟩; have D3 := hid d3; have S3 := hid (S2.out.trans s3); have k73 := k72.after D2.out s3; have P3 := hid p3; clear d3 s3 p3)
          | (go_at_call 10; (with_reducible refine (HAC.out _ _).mono ?_); rintro e w2 ⟨g7, rfl, o7, l7, k7⟩; have D2 := hid (k7.dev HD.out.drew); have B7 := hid (all_bin HD.out.drew k7 o7 l7); have S2 := hid (HST.out.trans (((Kept.refl _).drew.trans k7).step h')); have k72 := k1.drew.trans k7; clear o7 l7 k7))
        all_goals (
          go_wp2_with fail
          go_roundw
          case rel => exact ⟨k + 1, _, by go_num, ⟨by omega, by omega, by rw [HE1.out]; exact D3.out, P3.out, S3.out⟩⟩
          case measure => simp [intOf]; omega)
      · rcases (by omega : (k < n ∧ k = 20) ∨ ¬ k < n) with ⟨hlt1, hlt2⟩ | hlt1
        · subst hlt2
          have q1 : (20 : Int) < (n : Int) := by omega
          go_wp2_with fail
          go_meet
          exact ⟨_, _, HL.out⟩
        · have q1 : ¬ (k : Int) < (n : Int) := by omega
          go_wp2_with fail
          go_meet
          exact ⟨_, _, HL.out⟩
  case rest =>
    obtain ⟨k, h', hl⟩ := hcut
    have IK := hid (HI.out k)
    have HL := hid hl
    clear hl HI
    have N0 := hid IK.out.nice.fl.1
    have Z0 := hid (show (flS (kst (newS 4) F k)).pend = [] by rw [IK.out.nice.fl_eq])
    obtain ⟨S0, hS0⟩ : ∃ S0, flS (kst (newS 4) F k) = S0 := ⟨_, rfl⟩
    rw [hS0] at N0 Z0
    have HS0 := hid hS0
    clear hS0
    go_wp2_with (go_at_call 11; refine (flush_at _ HL.out.d HL.out.p 0 IK.out.nice.spendE S0 HS0.out).mono ?_; rintro e w2 ⟨rfl, h2, d2, s2, p2⟩; have D2 := hid d2; have P2 := hid p2; have K2 := hid (KB.out.after DB.out (HL.out.st.trans s2)); clear d2 s2 p2)
    have LB := hid (fun i (hi : i < 4) => D2.out.ok.blk i (by rw [N0.out.n]; exact hi))
    clear HL IK HS0 DB KB D0 K0 P0
    go_loopw [10, 11] (fun tv t wr => ∃ i : Nat, i ≤ 4 ∧ t = .int .i64 i ∧ wr.ownsRow w2.heap.size 9 1 tv i (texts S0 i) ∧ Kept w2 wr) (fun _ t _ => 4 - (intOf t).toNat)
    case atStart => exact ⟨0, by omega, rfl, ⟨rfl, .inl ⟨rfl, rfl⟩⟩, Kept.refl _⟩
    case round =>
      obtain ⟨i, hi, rfl, hown, hk⟩ := hrel
      have HOW := hid hown; have HK := hid hk
      clear hown hk
      by_cases hlt : i < 4
      · have e0 : (0 : Int) ≤ (i : Int) := by omega
        have e1 : (i : Int) < 4 := by omega
        have HRE := hid (N0.out.rdE i hlt); have HRL := hid (N0.out.rdL Z0.out i hlt)
        have HLB := hid (LB.out i hlt)
        go_wp2_with (first
          | (go_at_call 12; refine (read_at (i : Int) _ (HK.out.dev D2.out) P2.out _ HRL.out 0 HRE.out).mono ?_; rintro e w8 ⟨vb, rfl, hb, k8⟩; obtain ⟨gb, rfl, ob, lb⟩ := bout_some hb (ne_of_len HLB.out); have K8 := hid k8; have hcv := conv_blk (n := 128) (S0.blk i) HLB.out ob.range 128; clear ob lb hb k8)
          | (at_builtin; refine wpList_push (W := w2) (cs := [.string (bstr (S0.blk i))]) rfl (.tmp 74) (.tmp 77) 34 rfl 9 _ 1 16 Try.underlying34 info_string rfl (by decide) (by decide) _ i _ _ rfl (K8.out.row HOW.out) rfl rfl (by simp [Value.oneCell']) (by omega) (HK.out.trans K8.out) ?_; intro v' w' hown' hk'))
        go_roundw
        case rel => exact ⟨i + 1, by omega, by go_num, by rw [texts_succ]; exact hown', hk'⟩
        case measure => simp [intOf]; omega
      · have hi4 : i = 4 := by omega
        have e1 : ¬ (i : Int) < 4 := by omega
        obtain ⟨g, cap, hv, hgb, hglt⟩ := HOW.out.form (by omega)
        obtain ⟨wx, hwx⟩ : ∃ x, x = wr := ⟨_, rfl⟩
        subst hwx
        obtain ⟨i4, hi4'⟩ : ∃ x, x = i := ⟨_, rfl⟩
        subst hi4'
        subst hv
        have HW := hid (fun j (hj : j < 4) => show wx.cell? ⟨g, j, none⟩ = some (.string (bstr (S0.blk j))) from (HOW.out.cellAt (g := g) (cap := cap) j (by omega)).trans (by simp [texts, List.getElem?_range (show j < i4 by omega)]))
        have HI4 := hid hi4
        clear hi4
        have D3 := hid (HK.out.dev D2.out)
        have OG := hid (show Out h2 wx g from ⟨hglt, D2.out.new_out hgb⟩)
        have KB := hid (K2.out.trans HK.out)
        have DB := D3
        have HI := hid (kst_inv S0 F2 N0.out Z0.out)
        clear HOW HK K2 D2 hgb hglt hi hlt
        go_upto_block 4 with fail
        go_cut [14] (fun t w' => ∃ k h, WLoop w wx h2 P n2 S0 F2 k h w')
        case first =>
          go_wp2_with fail
          go_loopw [14] (fun t wr => ∃ (k : Nat) (h : DH), t = .int .i64 k ∧ WLoop w wx h2 P n2 (S0) F2 k h wr) (fun t _ => 20 - (intOf t).toNat)
          case atStart => exact ⟨0, h2, rfl, ⟨by omega, by omega, D3.out, P2.out, Step.refl _ _⟩⟩
          case round =>
            obtain ⟨k, h', rfl, hl⟩ := hrel
            have HL := hid hl
            have hkn := hl.kn; have hk20 := hl.k20
            clear hl
            by_cases hlt : k < n2 ∧ k < 20
            · obtain ⟨hlt, hlt2⟩ := hlt
              have q0 : (0 : Int) ≤ (k : Int) := by omega
              have q1 : (k : Int) < (n2 : Int) := by omega
              have q2 : (k : Int) < 20 := by omega
              obtain ⟨b, o, rfl, hat⟩ := HCE2.out (by omega)
              have hat := hat k hlt
              have HD := hid HL.out.d; have HP := hid HL.out.p; have HST := hid HL.out.st
              clear HL
              have HPE := hid (show (kst (S0) F2 k).pend.length ≤ 1000 by have := (HI.out k).pl; omega)
              obtain ⟨E1, hE1⟩ : ∃ E1, E1 = kst (S0) F2 (k + 1) := ⟨_, rfl⟩
              have HE1 := hid hE1.symm
              rw [kst] at hE1
              generalize kst (S0) F2 k = S at *
              generalize F2 k = ac at *
              obtain ⟨dd, ii, kk, cc, sh, fv, far⟩ := ac
              dsimp only at hE1
              have HSE := hid hE1.symm
              have c1 := hat.c1; have c3 := hat.c3
              dsimp only at c1 c3
              clear hat hE1
              have K1 := hid (KB.out.after DB.out HST.out)
              have HS := hid (fun (w' : World) (hk : Kept w w') => (⟨hk, hk.keeps c1, hk.keeps c3⟩ : Kept w w' ∧ w'.cell? ⟨b, o + k * 6 + 1, none⟩ = some (.int .i64 ii) ∧ w'.cell? ⟨b, o + k * 6 + 3, none⟩ = some (.int .u8 (cc.toNat : Int))))
              have k1 := K1.out
              go_wp2
              go_region_held3 (fun w' => Kept w w' ∧ w'.cell? ⟨b, o + k * 6 + 1, none⟩ = some (.int .i64 ii) ∧ w'.cell? ⟨b, o + k * 6 + 3, none⟩ = some (.int .u8 (cc.toNat : Int)))
                (first | exact HS.out _ k1 | exact HS.out _ (by repeat (first | exact Kept.refl _ | assumption | refine Kept.alloc ?_ _ | refine Kept.drew ?_ | refine Kept.drewN ?_ _ | refine Kept.setCell ?_ (by simp; try omega) _ | refine Kept.trans ?_ (by assumption))) | (go_split_ands; exact HS.out _ (by repeat (first | exact Kept.refl _ | assumption | refine Kept.alloc ?_ _ | refine Kept.drew ?_ | refine Kept.drewN ?_ _ | refine Kept.setCell ?_ (by simp; try omega) _ | refine Kept.trans ?_ (by assumption)))))
                (first
                | (go_at_call 9; (with_reducible refine (write_at ii _ (rep cc) _ D2.out HP.out B7.out HPE.out _ rfl E1 HSE.out).mono ?_); rintro e w3 ⟨rfl, h3, d3, s3, p3⟩; have D3 := hid d3; have S3 := hid (S2.out.trans s3); have k73 := k72.after D2.out s3; have P3 := hid p3; clear d3 s3 p3)
                | (go_at_call 10; (with_reducible refine (HAC.out _ _).mono ?_); rintro e w2 ⟨g7, rfl, o7, l7, k7⟩; have D2 := hid (k7.dev HD.out.drew); have B7 := hid (all_bin HD.out.drew k7 o7 l7); have S2 := hid (HST.out.trans (((Kept.refl _).drew.trans k7).step h')); have k72 := k1.drew.trans k7; clear o7 l7 k7))
              all_goals (
                go_wp2_with fail
                go_roundw
                case rel => exact ⟨k + 1, _, by go_num, ⟨by omega, by omega, by rw [HE1.out]; exact D3.out, P3.out, S3.out⟩⟩
                case measure => simp [intOf]; omega)
            · rcases (by omega : (k < n2 ∧ k = 20) ∨ ¬ k < n2) with ⟨hlt1, hlt2⟩ | hlt1
              · subst hlt2
                have q1 : (20 : Int) < (n2 : Int) := by omega
                go_wp2_with fail
                go_meet
                exact ⟨_, _, HL.out⟩
              · have q1 : ¬ (k : Int) < (n2 : Int) := by omega
                go_wp2_with fail
                go_meet
                exact ⟨_, _, HL.out⟩
        case rest =>
          obtain ⟨k2, h4, hl⟩ := hcut
          have IK := hid (HI.out k2)
          have HL := hid hl
          have HKN := hid hl.kn; have HK2 := hid hl.k20
          obtain ⟨S3, hS3⟩ : ∃ S3, S3 = kst S0 F2 k2 := ⟨_, rfl⟩
          rw [← hS3] at IK
          have DL := hid (show DevAt wc w.heap.size h4 S3 from hS3 ▸ hl.d)
          clear hl HI hS3
          go_wp2_with (first
            | (go_at_call 13; refine (crash_at _ L _ DL.out HL.out.p (ints_nin HLI.out (KB.out.after DB.out HL.out.st) DL.out) (offS S3 L) rfl).mono ?_; rintro e w6 ⟨rfl, h6, d6, s6, p6⟩; have D6 := hid d6; have S6 := hid (HL.out.st.trans s6); have P6 := hid p6; clear d6 s6 p6)
            | (go_at_call 14; refine (on_at _ D6.out P6.out (onS S3 L) rfl).mono ?_; rintro e w7 ⟨rfl, h7, d7, s7, p7⟩; have D7 := hid d7; have S7 := hid (S6.out.trans s7); have P7 := hid p7; clear d7 s7 p7))
          have N7 := hid (onS_nice (L := L) IK.out.nice)
          have LB7 := hid (fun i (hi : i < 4) => D7.out.ok.blk i (by rw [N7.out.n]; exact hi))
          have K7 := hid (KB.out.after DB.out S7.out)
          have HW7 := hid (fun j (hj : j < 4) => S7.out.keeps OG.out (HW.out j hj))
          have OKF := hid (okF_end IK.out L LB.out (fun p hp => by have := DL.out.ok.pend p hp; rw [IK.out.nice.n] at this; exact this))
          have SAME := hid (show L = [] → ∀ i, (onS S3 L).blk i = S0.blk i from fun hL i => by
            subst hL
            rw [← IK.out.blk]
            exact exB_none _ _ _ _)
          have HF := hid HCE2.out
          clear HW OG DB KB HL DL D6 S6 P6 S7 D3 HCE HAC HN IK HCE2
          have Z7 := hid (show (onS S3 L).pend = [] from rfl)
          generalize onS S3 L = S4 at *
          go_loopw [15] (fun t wr => ∃ i : Nat, i ≤ 4 ∧ t = .int .i64 i ∧ Kept w7 wr) (fun t _ => 4 - (intOf t).toNat)
          case atStart => exact ⟨0, by omega, rfl, Kept.refl _⟩
          case round =>
            obtain ⟨i, hi, rfl, hk⟩ := hrel
            have HK := hid hk
            clear hk
            by_cases hlt : i < 4
            · have e0 : (0 : Int) ≤ (i : Int) := by omega
              have e1 : (i : Int) < 4 := by omega
              have HRE := hid (N7.out.rdE i hlt); have HRL := hid (N7.out.rdL Z7.out i hlt)
              have HLB := hid (LB7.out i hlt)
              go_wp2_with (go_at_call 12; refine (read_at (i : Int) _ (HK.out.dev D7.out) P7.out _ HRL.out 0 HRE.out).mono ?_; rintro e w8 ⟨vb, rfl, hb, k8⟩; obtain ⟨gb, rfl, ob, lb⟩ := bout_some hb (ne_of_len HLB.out); have K8 := hid (HK.out.trans k8); have OB := hid ob; clear ob lb hb k8)
              have HCS := hid (fun o (ho : o < 128) => (⟨OB.out.cell o (by rw [HLB.out]; exact ho), OKF.out i hlt o ho⟩ : w8.cell? ⟨gb, o, none⟩ = some (.int .u8 (((S4.blk i).getD o 0).toNat : Int)) ∧ okF (((S4.blk i).getD o 0).toNat : Int) (((S0.blk i).getD o 0).toNat : Int) i F2 k2 = true))
              have HTS := hid (fun o (ho : o < 128) => (⟨by rw [bstr_size, LB.out i hlt]; exact ho, bstr_at (S0.blk i) o⟩ : o < (bstr (S0.blk i)).size ∧ ∀ h, (((bstr (S0.blk i))[o]'h).toNat : Int) = (((S0.blk i).getD o 0).toNat : Int)))
              have HCV := hid (fun (w' : World) (k : Kept w8 w') => (⟨k, k.keeps (K8.out.keeps (HW7.out i hlt)), conv_blk (n := 128) (S4.blk i) HLB.out (OB.out.of_heap (k.block _ OB.out.lt)).range 128⟩ : Kept w8 w' ∧ w'.cell? ⟨g, i, none⟩ = some (.string (bstr (S0.blk i))) ∧ (convert 31 9 (.slice (some ⟨gb, 0, none⟩) 128 128)).run Try.prog w' = .ok (.string (bstr (S4.blk i))) w'))
              have HSM := hid (show L = [] → bstr (S4.blk i) = bstr (S0.blk i) from fun h => by rw [SAME.out h i])
              generalize bstr (S4.blk i) = cs at *
              generalize bstr (S0.blk i) = ts at *
              have hw8 := HCV.out w8 (Kept.refl _)
              have hwts := hid (HCV.out w8 (Kept.refl _)).2.1
              refine wp_region_held_drew (S := fun w' => Kept w8 w' ∧ w'.cell? ⟨g, i, none⟩ = some (.string ts) ∧ (convert 31 9 (.slice (some ⟨gb, 0, none⟩) 128 128)).run Try.prog w' = .ok (.string cs) w') (by kernel_rfl) (HCV.out _ (by repeat (first | exact Kept.refl _ | assumption | refine Kept.alloc ?_ _ | refine Kept.drew ?_ | refine Kept.drewN ?_ _ | refine Kept.setCell ?_ (by simp; try omega) _ | refine Kept.trans ?_ (by assumption)))) (fun hHeld => ?_)
              refine wpAnyH_take (i := 0) (v := ?_) rfl (by kernel_rfl) (by kernel_rfl) (by kernel_rfl) (fun _ _ _ h => h) (Or.inl ⟨by rfl, ?_⟩) (by assumption) ?_
              rotate_left
              focus (intro w hSw; (try dsimp only at hSw); go_simp; first | done | with_reducible rfl)
              (try simp only [List.getElem_toArray, List.getElem_cons_zero, List.getElem_cons_succ, Act.put, List.setIfInBounds_toArray, List.set_cons_zero, List.set_cons_succ])
              refine wpAnyH_take (i := 1) (v := ?_) rfl (by kernel_rfl) (by kernel_rfl) (by kernel_rfl) (fun _ _ _ h => h) (Or.inl ⟨by rfl, ?_⟩) (by assumption) ?_
              rotate_left
              focus (intro w hSw; (try dsimp only at hSw); go_simp; first | done | with_reducible rfl)
              (try simp only [List.getElem_toArray, List.getElem_cons_zero, List.getElem_cons_succ, Act.put, List.setIfInBounds_toArray, List.set_cons_zero, List.set_cons_succ])
              refine wpAnyH_take (i := 2) (v := ?_) rfl (by kernel_rfl) (by kernel_rfl) (by kernel_rfl) (fun _ _ _ h => h) (Or.inl ⟨by rfl, ?_⟩) (by assumption) ?_
              rotate_left
              focus (intro w hSw; (try dsimp only at hSw); go_simp; first | done | with_reducible rfl)
              (try simp only [List.getElem_toArray, List.getElem_cons_zero, List.getElem_cons_succ, Act.put, List.setIfInBounds_toArray, List.set_cons_zero, List.set_cons_succ])
              refine wpAnyH_take (i := 3) (v := ?_) rfl (by kernel_rfl) (by kernel_rfl) (by kernel_rfl) (fun _ _ _ h => h) (Or.inl ⟨by rfl, ?_⟩) (by assumption) ?_
              rotate_left
              focus (intro w hSw; (try dsimp only at hSw); go_simp; first | done | with_reducible rfl)
              (try simp only [List.getElem_toArray, List.getElem_cons_zero, List.getElem_cons_succ, Act.put, List.setIfInBounds_toArray, List.set_cons_zero, List.set_cons_succ])
              refine wpAnyH_take (i := 4) (v := ?_) rfl (by kernel_rfl) (by kernel_rfl) (by kernel_rfl) (fun _ _ _ h => h) (Or.inl ⟨by rfl, ?_⟩) (by assumption) ?_
              rotate_left
              focus (intro w hSw; (try dsimp only at hSw); go_simp; first | done | with_reducible rfl)
              (try simp only [List.getElem_toArray, List.getElem_cons_zero, List.getElem_cons_succ, Act.put, List.setIfInBounds_toArray, List.set_cons_zero, List.set_cons_succ])
              refine wpAnyH_take (i := 5) (v := ?_) rfl (by kernel_rfl) (by kernel_rfl) (by kernel_rfl) (fun _ _ _ h => h) (Or.inl ⟨by rfl, ?_⟩) (by assumption) ?_
              rotate_left
              focus (intro w hSw; (try dsimp only at hSw); go_simp; first | done | with_reducible rfl)
              (try simp only [List.getElem_toArray, List.getElem_cons_zero, List.getElem_cons_succ, Act.put, List.setIfInBounds_toArray, List.set_cons_zero, List.set_cons_succ])
              refine wpAnyH_take (i := 6) (v := ?_) rfl (by kernel_rfl) (by kernel_rfl) (by kernel_rfl) (fun _ _ _ h => h) (Or.inl ⟨by rfl, ?_⟩) (by assumption) ?_
              rotate_left
              focus (intro w hSw; (try dsimp only at hSw); go_simp; first | done | with_reducible rfl)
              (try simp only [List.getElem_toArray, List.getElem_cons_zero, List.getElem_cons_succ, Act.put, List.setIfInBounds_toArray, List.set_cons_zero, List.set_cons_succ])
              refine wpAnyH_take (i := 7) (v := ?_) rfl (by kernel_rfl) (by kernel_rfl) (by kernel_rfl) (fun _ _ _ h => h) (Or.inl ⟨by rfl, ?_⟩) (by assumption) ?_
              rotate_left
              focus (intro w hSw; (try dsimp only at hSw); go_simp; first | done | with_reducible rfl)
              (try simp only [List.getElem_toArray, List.getElem_cons_zero, List.getElem_cons_succ, Act.put, List.setIfInBounds_toArray, List.set_cons_zero, List.set_cons_succ])
              refine wpAnyH_take (i := 8) (v := ?_) rfl (by kernel_rfl) (by kernel_rfl) (by kernel_rfl) (fun _ _ _ h => h) (Or.inl ⟨by rfl, ?_⟩) (by assumption) ?_
              rotate_left
              focus (intro w hSw; (try dsimp only at hSw); go_simp; first | done | with_reducible rfl)
              (try simp only [List.getElem_toArray, List.getElem_cons_zero, List.getElem_cons_succ, Act.put, List.setIfInBounds_toArray, List.set_cons_zero, List.set_cons_succ])
              refine wpAnyH_take (i := 9) (v := ?_) rfl (by kernel_rfl) (by kernel_rfl) (by kernel_rfl) (fun _ _ _ h => h) (Or.inl ⟨by rfl, ?_⟩) (by assumption) ?_
              rotate_left
              focus (intro w hSw; (try dsimp only at hSw); go_simp; first | done | with_reducible rfl)
              (try simp only [List.getElem_toArray, List.getElem_cons_zero, List.getElem_cons_succ, Act.put, List.setIfInBounds_toArray, List.set_cons_zero, List.set_cons_succ])
              have e4 : (i : Int) < (i4 : Int) := by have := HI4.out; omega
              have e5 : i < i4 := by omega
              by_cases hm0 : m = 0
              · subst hm0
                obtain rfl := (HSM.out (List.eq_nil_of_length_eq_zero HM.out)).symm
                refine wpAnyH_take (i := 10) (v := ?_) rfl (by kernel_rfl) (by kernel_rfl) (by kernel_rfl) (fun _ _ _ h => h) (Or.inl ⟨by rfl, ?_⟩) (by assumption) ?_
                rotate_left
                focus (intro w hSw; (try dsimp only at hSw); go_simp; first | done | with_reducible rfl)
                (try simp only [List.getElem_toArray, List.getElem_cons_zero, List.getElem_cons_succ, Act.put, List.setIfInBounds_toArray, List.set_cons_zero, List.set_cons_succ])
                refine wpAnyH_take (i := 11) (v := ?_) rfl (by kernel_rfl) (by kernel_rfl) (by kernel_rfl) (fun _ _ _ h => h) (Or.inl ⟨by rfl, ?_⟩) (by assumption) ?_
                rotate_left
                focus (intro w hSw; (try dsimp only at hSw); go_simp; first | done | with_reducible rfl)
                (try simp only [List.getElem_toArray, List.getElem_cons_zero, List.getElem_cons_succ, Act.put, List.setIfInBounds_toArray, List.set_cons_zero, List.set_cons_succ])
                refine wpAnyH_take (i := 12) (v := ?_) rfl (by kernel_rfl) (by kernel_rfl) (by kernel_rfl) (fun _ _ _ h => h) (Or.inl ⟨by rfl, ?_⟩) (by assumption) ?_
                rotate_left
                focus (intro w hSw; (try dsimp only at hSw); go_simp; first | done | with_reducible rfl)
                (try simp only [List.getElem_toArray, List.getElem_cons_zero, List.getElem_cons_succ, Act.put, List.setIfInBounds_toArray, List.set_cons_zero, List.set_cons_succ])
                refine wpAnyH_take (i := 14) (v := ?_) rfl (by kernel_rfl) (by kernel_rfl) (by kernel_rfl) (fun _ _ _ h => h) (Or.inl ⟨by rfl, ?_⟩) (by assumption) ?_
                rotate_left
                focus (intro w hSw; (try dsimp only at hSw); go_simp; first | done | with_reducible rfl)
                (try simp only [List.getElem_toArray, List.getElem_cons_zero, List.getElem_cons_succ, Act.put, List.setIfInBounds_toArray, List.set_cons_zero, List.set_cons_succ])
                refine wpAnyH_take (i := 15) (v := ?_) rfl (by kernel_rfl) (by kernel_rfl) (by kernel_rfl) (fun _ _ _ h => h) (Or.inl ⟨by rfl, ?_⟩) (by assumption) ?_
                rotate_left
                focus (intro w hSw; (try dsimp only at hSw); go_simp; first | done | with_reducible rfl)
                (try simp only [List.getElem_toArray, List.getElem_cons_zero, List.getElem_cons_succ, Act.put, List.setIfInBounds_toArray, List.set_cons_zero, List.set_cons_succ])
                refine wpAnyH_take (i := 16) (v := ?_) rfl (by kernel_rfl) (by kernel_rfl) (by kernel_rfl) (fun _ _ _ h => h) (Or.inl ⟨by rfl, ?_⟩) (by assumption) ?_
                rotate_left
                focus (intro w hSw; (try dsimp only at hSw); go_simp; first | done | with_reducible rfl)
                (try simp only [List.getElem_toArray, List.getElem_cons_zero, List.getElem_cons_succ, Act.put, List.setIfInBounds_toArray, List.set_cons_zero, List.set_cons_succ])
                refine wpAnyH_take (i := 17) (v := ?_) rfl (by kernel_rfl) (by kernel_rfl) (by kernel_rfl) (fun _ _ _ h => h) (Or.inl ⟨by rfl, ?_⟩) (by assumption) ?_
                rotate_left
                focus (intro w hSw; (try dsimp only at hSw); go_simp; first | done | with_reducible rfl)
                (try simp only [List.getElem_toArray, List.getElem_cons_zero, List.getElem_cons_succ, Act.put, List.setIfInBounds_toArray, List.set_cons_zero, List.set_cons_succ])
                refine wpAnyH_ready (rs := [13]) (by kernel_rfl) (by simp) ?_
                refine AllReadyH.cons rfl (fun K hK => ?_) AllReadyH.nil
                go_simp
                refine hK.out _ _ (HCV.out _ (by repeat (first | exact Kept.refl _ | assumption | refine Kept.alloc ?_ _ | refine Kept.drew ?_ | refine Kept.drewN ?_ _ | refine Kept.setCell ?_ (by simp; try omega) _ | refine Kept.trans ?_ (by assumption)))) (fun hHeld => ?_)
                clear hK K
                (try simp only [List.getElem_toArray, List.getElem_cons_zero, List.getElem_cons_succ, Act.put, List.setIfInBounds_toArray, List.set_cons_zero, List.set_cons_succ])
                refine wpAnyH_take (i := 18) (v := ?_) rfl (by kernel_rfl) (by kernel_rfl) (by kernel_rfl) (fun _ _ _ h => h) (Or.inl ⟨by rfl, ?_⟩) (by assumption) ?_
                rotate_left
                focus (intro w hSw; (try dsimp only at hSw); go_simp; first | done | with_reducible rfl)
                (try simp only [List.getElem_toArray, List.getElem_cons_zero, List.getElem_cons_succ, Act.put, List.setIfInBounds_toArray, List.set_cons_zero, List.set_cons_succ])
                refine wpAnyH_take (i := 19) (v := ?_) rfl (by kernel_rfl) (by kernel_rfl) (by kernel_rfl) (fun _ _ _ h => h) (Or.inl ⟨by rfl, ?_⟩) (by assumption) ?_
                rotate_left
                focus (intro w hSw; (try dsimp only at hSw); go_simp; first | done | with_reducible rfl)
                (try simp only [List.getElem_toArray, List.getElem_cons_zero, List.getElem_cons_succ, Act.put, List.setIfInBounds_toArray, List.set_cons_zero, List.set_cons_succ])
                refine wpAnyH_take (i := 20) (v := ?_) rfl (by kernel_rfl) (by kernel_rfl) (by kernel_rfl) (fun _ _ _ h => h) (Or.inl ⟨by rfl, ?_⟩) (by assumption) ?_
                rotate_left
                focus (intro w hSw; (try dsimp only at hSw); go_simp; first | done | with_reducible rfl)
                (try simp only [List.getElem_toArray, List.getElem_cons_zero, List.getElem_cons_succ, Act.put, List.setIfInBounds_toArray, List.set_cons_zero, List.set_cons_succ])
                refine wpAnyH_done (by kernel_rfl) ?_ _
                clear hw8
                go_wp2_with fail
                go_loopw [18] (fun t wr => ∃ o : Nat, o ≤ 128 ∧ t = .int .i64 o ∧ Kept w8 wr) (fun t _ => 128 - (intOf t).toNat)
                case atStart => exact ⟨0, by omega, rfl, (by repeat (first | exact Kept.refl _ | assumption | refine Kept.alloc ?_ _ | refine Kept.drew ?_ | refine Kept.drewN ?_ _ | refine Kept.setCell ?_ (by simp; try omega) _ | refine Kept.trans ?_ (by assumption)))⟩
                case round =>
                  obtain ⟨o, ho, rfl, hk⟩ := hrel
                  have HKO := hid hk
                  clear hk
                  by_cases hlo : o < 128
                  · have f0 : (0 : Int) ≤ (o : Int) := by omega
                    have f1 : (o : Int) < 128 := by omega
                    obtain ⟨hcell, hok⟩ := HCS.out o hlo
                    obtain ⟨hsz, hts⟩ := HTS.out o hlo
                    have hts := hts hsz
                    have m1 := HKO.out.keeps hcell
                    have m2 := HKO.out.keeps hwts.out
                    have hszI : (o : Int) < (ts.size : Int) := by omega
                    have HCX := hid hcell
                    clear hcell
                    generalize (((S4.blk i).getD o 0).toNat : Int) = x at *
                    generalize (((S0.blk i).getD o 0).toNat : Int) = y at *
                    have HOK := hid hok
                    clear hok
                    go_wp2_with fail
                    go_region_held3 (fun w' => w'.cell? ⟨gb, o, none⟩ = some (.int .u8 x) ∧ w'.cell? ⟨g, i, none⟩ = some (.string ts)) (first | exact ⟨m1, m2⟩) (fail)
                    go_wp2_with fail
                    clear hts hszI hsz
                    go_loopw [19, 20] (fun tok tj wr => ∃ j : Nat, j ≤ n2 ∧ j ≤ 20 ∧ tok = .bool (okF x y i F2 j) ∧ tj = .int .i64 j ∧ Kept w8 wr) (fun _ t _ => 20 - (intOf t).toNat)
                    case atStart => exact ⟨0, by omega, by omega, by first | rfl | simp [okF], rfl, HKO.out.drew⟩
                    case round =>
                      obtain ⟨j, hj, hj20, rfl, rfl, hk⟩ := hrel
                      have HKJ := hid hk
                      clear hk m1 m2
                      by_cases hlj : j < n2 ∧ j < 20
                      · obtain ⟨hj1, hj2⟩ := hlj
                        have g0 : (0 : Int) ≤ (j : Int) := by omega
                        have g1 : (j : Int) < (n2 : Int) := by omega
                        have g2 : (j : Int) < 20 := by omega
                        obtain ⟨ba, oa, rfl, hat⟩ := HF.out (by omega)
                        have hat := hat j hj1
                        have HOS := hid (show okF x y i F2 (j + 1) = (okF x y i F2 j || (decide ((F2 j).ii = (i : Int)) && (x == ((F2 j).cc.toNat : Int)))) from rfl)
                        generalize F2 j = ac at *
                        obtain ⟨dd, ii, kk, cc, sh, fv, far⟩ := ac
                        have a1 := (K7.out.trans (K8.out.trans HKJ.out)).keeps hat.c1
                        have a3 := (K7.out.trans (K8.out.trans HKJ.out)).keeps hat.c3
                        dsimp only at a1 a3
                        have HOS := hid (show okF x y i F2 (j + 1) = (okF x y i F2 j || (decide (ii = (i : Int)) && (x == (cc.toNat : Int)))) from HOS.out)
                        have m1 := HKJ.out.keeps HCX.out
                        clear hat
                        generalize (cc.toNat : Int) = ci at *
                        generalize okF x y i F2 j = oj at *
                        go_wp2_with fail
                        cases oj
                        · by_cases hii : ii = (i : Int)
                          · have hd : (ii == (i : Int)) = true := by simpa using hii
                            subst hii
                            refine wp_region_held_drew (S := fun w' => w'.cell? ⟨gb, o, none⟩ = some (.int .u8 x) ∧ w'.cell? ⟨ba, oa + j * 6 + 1, none⟩ = some (.int .i64 (i : Int)) ∧ w'.cell? ⟨ba, oa + j * 6 + 3, none⟩ = some (.int .u8 ci)) (by kernel_rfl) ⟨m1, a1, a3⟩ (fun hHeld => ?_)
                            refine wpAnyH_take (i := 0) (v := ?_) rfl (by kernel_rfl) (by kernel_rfl) (by kernel_rfl) (fun _ _ _ h => h) (Or.inl ⟨by rfl, ?_⟩) (by assumption) ?_
                            rotate_left
                            focus (intro w hSw; (try dsimp only at hSw); go_simp; first | done | with_reducible rfl)
                            (try simp only [List.getElem_toArray, List.getElem_cons_zero, List.getElem_cons_succ, Act.put, List.setIfInBounds_toArray, List.set_cons_zero, List.set_cons_succ])
                            refine wpAnyH_take (i := 1) (v := ?_) rfl (by kernel_rfl) (by kernel_rfl) (by kernel_rfl) (fun _ _ _ h => h) (Or.inl ⟨by rfl, ?_⟩) (by assumption) ?_
                            rotate_left
                            focus (intro w hSw; (try dsimp only at hSw); go_simp; first | done | with_reducible rfl)
                            (try simp only [List.getElem_toArray, List.getElem_cons_zero, List.getElem_cons_succ, Act.put, List.setIfInBounds_toArray, List.set_cons_zero, List.set_cons_succ])
                            refine wpAnyH_take (i := 2) (v := ?_) rfl (by kernel_rfl) (by kernel_rfl) (by kernel_rfl) (fun _ _ _ h => h) (Or.inl ⟨by rfl, ?_⟩) (by assumption) ?_
                            rotate_left
                            focus (intro w hSw; (try dsimp only at hSw); go_simp; first | done | with_reducible rfl)
                            (try simp only [List.getElem_toArray, List.getElem_cons_zero, List.getElem_cons_succ, Act.put, List.setIfInBounds_toArray, List.set_cons_zero, List.set_cons_succ])
                            refine wpAnyH_take (i := 3) (v := ?_) rfl (by kernel_rfl) (by kernel_rfl) (by kernel_rfl) (fun _ _ _ h => h) (Or.inl ⟨by rfl, ?_⟩) (by assumption) ?_
                            rotate_left
                            focus (intro w hSw; (try dsimp only at hSw); go_simp; first | done | with_reducible rfl)
                            (try simp only [List.getElem_toArray, List.getElem_cons_zero, List.getElem_cons_succ, Act.put, List.setIfInBounds_toArray, List.set_cons_zero, List.set_cons_succ])
                            refine wpAnyH_take (i := 4) (v := ?_) rfl (by kernel_rfl) (by kernel_rfl) (by kernel_rfl) (fun _ _ _ h => h) (Or.inl ⟨by rfl, ?_⟩) (by assumption) ?_
                            rotate_left
                            focus (intro w hSw; (try dsimp only at hSw); go_simp; first | done | with_reducible rfl)
                            (try simp only [List.getElem_toArray, List.getElem_cons_zero, List.getElem_cons_succ, Act.put, List.setIfInBounds_toArray, List.set_cons_zero, List.set_cons_succ])
                            refine wpAnyH_take (i := 5) (v := ?_) rfl (by kernel_rfl) (by kernel_rfl) (by kernel_rfl) (fun _ _ _ h => h) (Or.inl ⟨by rfl, ?_⟩) (by assumption) ?_
                            rotate_left
                            focus (intro w hSw; (try dsimp only at hSw); go_simp; first | done | with_reducible rfl)
                            (try simp only [List.getElem_toArray, List.getElem_cons_zero, List.getElem_cons_succ, Act.put, List.setIfInBounds_toArray, List.set_cons_zero, List.set_cons_succ])
                            refine wpAnyH_take (i := 6) (v := ?_) rfl (by kernel_rfl) (by kernel_rfl) (by kernel_rfl) (fun _ _ _ h => h) (Or.inl ⟨by rfl, ?_⟩) (by assumption) ?_
                            rotate_left
                            focus (intro w hSw; (try dsimp only at hSw); go_simp; first | done | with_reducible rfl)
                            (try simp only [List.getElem_toArray, List.getElem_cons_zero, List.getElem_cons_succ, Act.put, List.setIfInBounds_toArray, List.set_cons_zero, List.set_cons_succ])
                            refine wpAnyH_take (i := 7) (v := ?_) rfl (by kernel_rfl) (by kernel_rfl) (by kernel_rfl) (fun _ _ _ h => h) (Or.inl ⟨by rfl, ?_⟩) (by assumption) ?_
                            rotate_left
                            focus (intro w hSw; (try dsimp only at hSw); go_simp; first | done | with_reducible rfl)
                            (try simp only [List.getElem_toArray, List.getElem_cons_zero, List.getElem_cons_succ, Act.put, List.setIfInBounds_toArray, List.set_cons_zero, List.set_cons_succ])
                            refine wpAnyH_take (i := 8) (v := ?_) rfl (by kernel_rfl) (by kernel_rfl) (by kernel_rfl) (fun _ _ _ h => h) (Or.inl ⟨by rfl, ?_⟩) (by assumption) ?_
                            rotate_left
                            focus (intro w hSw; (try dsimp only at hSw); go_simp; first | done | with_reducible rfl)
                            (try simp only [List.getElem_toArray, List.getElem_cons_zero, List.getElem_cons_succ, Act.put, List.setIfInBounds_toArray, List.set_cons_zero, List.set_cons_succ])
                            refine wpAnyH_take (i := 9) (v := ?_) rfl (by kernel_rfl) (by kernel_rfl) (by kernel_rfl) (fun _ _ _ h => h) (Or.inl ⟨by rfl, ?_⟩) (by assumption) ?_
                            rotate_left
                            focus (intro w hSw; (try dsimp only at hSw); go_simp; first | done | with_reducible rfl)
                            (try simp only [List.getElem_toArray, List.getElem_cons_zero, List.getElem_cons_succ, Act.put, List.setIfInBounds_toArray, List.set_cons_zero, List.set_cons_succ])
                            refine wpAnyH_take (i := 10) (v := ?_) rfl (by kernel_rfl) (by kernel_rfl) (by kernel_rfl) (fun _ _ _ h => h) (Or.inl ⟨by rfl, ?_⟩) (by assumption) ?_
                            rotate_left
                            focus (intro w hSw; (try dsimp only at hSw); go_simp; first | done | with_reducible rfl)
                            (try simp only [List.getElem_toArray, List.getElem_cons_zero, List.getElem_cons_succ, Act.put, List.setIfInBounds_toArray, List.set_cons_zero, List.set_cons_succ])
                            refine wpAnyH_take (i := 11) (v := ?_) rfl (by kernel_rfl) (by kernel_rfl) (by kernel_rfl) (fun _ _ _ h => h) (Or.inl ⟨by rfl, ?_⟩) (by assumption) ?_
                            rotate_left
                            focus (intro w hSw; (try dsimp only at hSw); go_simp; first | done | with_reducible rfl)
                            (try simp only [List.getElem_toArray, List.getElem_cons_zero, List.getElem_cons_succ, Act.put, List.setIfInBounds_toArray, List.set_cons_zero, List.set_cons_succ])
                            refine wpAnyH_take (i := 12) (v := ?_) rfl (by kernel_rfl) (by kernel_rfl) (by kernel_rfl) (fun _ _ _ h => h) (Or.inl ⟨by rfl, ?_⟩) (by assumption) ?_
                            rotate_left
                            focus (intro w hSw; (try dsimp only at hSw); go_simp; first | done | with_reducible rfl)
                            (try simp only [List.getElem_toArray, List.getElem_cons_zero, List.getElem_cons_succ, Act.put, List.setIfInBounds_toArray, List.set_cons_zero, List.set_cons_succ])
                            refine wpAnyH_take (i := 13) (v := ?_) rfl (by kernel_rfl) (by kernel_rfl) (by kernel_rfl) (fun _ _ _ h => h) (Or.inl ⟨by rfl, ?_⟩) (by assumption) ?_
                            rotate_left
                            focus (intro w hSw; (try dsimp only at hSw); go_simp; first | done | with_reducible rfl)
                            (try simp only [List.getElem_toArray, List.getElem_cons_zero, List.getElem_cons_succ, Act.put, List.setIfInBounds_toArray, List.set_cons_zero, List.set_cons_succ])
                            refine wpAnyH_take (i := 14) (v := ?_) rfl (by kernel_rfl) (by kernel_rfl) (by kernel_rfl) (fun _ _ _ h => h) (Or.inl ⟨by rfl, ?_⟩) (by assumption) ?_
                            rotate_left
                            focus (intro w hSw; (try dsimp only at hSw); go_simp; first | done | with_reducible rfl)
                            (try simp only [List.getElem_toArray, List.getElem_cons_zero, List.getElem_cons_succ, Act.put, List.setIfInBounds_toArray, List.set_cons_zero, List.set_cons_succ])
                            refine wpAnyH_take (i := 15) (v := ?_) rfl (by kernel_rfl) (by kernel_rfl) (by kernel_rfl) (fun _ _ _ h => h) (Or.inl ⟨by rfl, ?_⟩) (by assumption) ?_
                            rotate_left
                            focus (intro w hSw; (try dsimp only at hSw); go_simp; first | done | with_reducible rfl)
                            (try simp only [List.getElem_toArray, List.getElem_cons_zero, List.getElem_cons_succ, Act.put, List.setIfInBounds_toArray, List.set_cons_zero, List.set_cons_succ])
                            refine wpAnyH_take (i := 16) (v := ?_) rfl (by kernel_rfl) (by kernel_rfl) (by kernel_rfl) (fun _ _ _ h => h) (Or.inl ⟨by rfl, ?_⟩) (by assumption) ?_
                            rotate_left
                            focus (intro w hSw; (try dsimp only at hSw); go_simp; first | done | with_reducible rfl)
                            (try simp only [List.getElem_toArray, List.getElem_cons_zero, List.getElem_cons_succ, Act.put, List.setIfInBounds_toArray, List.set_cons_zero, List.set_cons_succ])
                            refine wpAnyH_take (i := 17) (v := ?_) rfl (by kernel_rfl) (by kernel_rfl) (by kernel_rfl) (fun _ _ _ h => h) (Or.inl ⟨by rfl, ?_⟩) (by assumption) ?_
                            rotate_left
                            focus (intro w hSw; (try dsimp only at hSw); go_simp; first | done | with_reducible rfl)
                            (try simp only [List.getElem_toArray, List.getElem_cons_zero, List.getElem_cons_succ, Act.put, List.setIfInBounds_toArray, List.set_cons_zero, List.set_cons_succ])
                            refine wpAnyH_take (i := 18) (v := ?_) rfl (by kernel_rfl) (by kernel_rfl) (by kernel_rfl) (fun _ _ _ h => h) (Or.inl ⟨by rfl, ?_⟩) (by assumption) ?_
                            rotate_left
                            focus (intro w hSw; (try dsimp only at hSw); go_simp; first | done | with_reducible rfl)
                            (try simp only [List.getElem_toArray, List.getElem_cons_zero, List.getElem_cons_succ, Act.put, List.setIfInBounds_toArray, List.set_cons_zero, List.set_cons_succ])
                            refine wpAnyH_take (i := 19) (v := ?_) rfl (by kernel_rfl) (by kernel_rfl) (by kernel_rfl) (fun _ _ _ h => h) (Or.inl ⟨by rfl, ?_⟩) (by assumption) ?_
                            rotate_left
                            focus (intro w hSw; (try dsimp only at hSw); go_simp; first | done | with_reducible rfl)
                            (try simp only [List.getElem_toArray, List.getElem_cons_zero, List.getElem_cons_succ, Act.put, List.setIfInBounds_toArray, List.set_cons_zero, List.set_cons_succ])
                            refine wpAnyH_take (i := 20) (v := ?_) rfl (by kernel_rfl) (by kernel_rfl) (by kernel_rfl) (fun _ _ _ h => h) (Or.inl ⟨by rfl, ?_⟩) (by assumption) ?_
                            rotate_left
                            focus (intro w hSw; (try dsimp only at hSw); go_simp; first | done | with_reducible rfl)
                            (try simp only [List.getElem_toArray, List.getElem_cons_zero, List.getElem_cons_succ, Act.put, List.setIfInBounds_toArray, List.set_cons_zero, List.set_cons_succ])
                            refine wpAnyH_take (i := 21) (v := ?_) rfl (by kernel_rfl) (by kernel_rfl) (by kernel_rfl) (fun _ _ _ h => h) (Or.inl ⟨by rfl, ?_⟩) (by assumption) ?_
                            rotate_left
                            focus (intro w hSw; (try dsimp only at hSw); go_simp; first | done | with_reducible rfl)
                            (try simp only [List.getElem_toArray, List.getElem_cons_zero, List.getElem_cons_succ, Act.put, List.setIfInBounds_toArray, List.set_cons_zero, List.set_cons_succ])
                            refine wpAnyH_take (i := 22) (v := ?_) rfl (by kernel_rfl) (by kernel_rfl) (by kernel_rfl) (fun _ _ _ h => h) (Or.inl ⟨by rfl, ?_⟩) (by assumption) ?_
                            rotate_left
                            focus (intro w hSw; (try dsimp only at hSw); go_simp; first | done | with_reducible rfl)
                            (try simp only [List.getElem_toArray, List.getElem_cons_zero, List.getElem_cons_succ, Act.put, List.setIfInBounds_toArray, List.set_cons_zero, List.set_cons_succ])
                            refine wpAnyH_done (by kernel_rfl) ?_ _
                            go_wp2_with fail
                            go_roundw
                            case rel => exact ⟨j + 1, by omega, by omega, congrArg Value.bool (by rw [HOS.out]; simp), by go_num, HKJ.out.drew⟩
                            case measure => simp [intOf]; omega
                          · have hd : (ii == (i : Int)) = false := by simpa using hii
                            refine wp_region_held_drew (S := fun w' => w'.cell? ⟨gb, o, none⟩ = some (.int .u8 x) ∧ w'.cell? ⟨ba, oa + j * 6 + 1, none⟩ = some (.int .i64 ii) ∧ w'.cell? ⟨ba, oa + j * 6 + 3, none⟩ = some (.int .u8 ci)) (by kernel_rfl) ⟨m1, a1, a3⟩ (fun hHeld => ?_)
                            refine wpAnyH_take (i := 0) (v := ?_) rfl (by kernel_rfl) (by kernel_rfl) (by kernel_rfl) (fun _ _ _ h => h) (Or.inl ⟨by rfl, ?_⟩) (by assumption) ?_
                            rotate_left
                            focus (intro w hSw; (try dsimp only at hSw); go_simp; first | done | with_reducible rfl)
                            (try simp only [List.getElem_toArray, List.getElem_cons_zero, List.getElem_cons_succ, Act.put, List.setIfInBounds_toArray, List.set_cons_zero, List.set_cons_succ])
                            refine wpAnyH_take (i := 1) (v := ?_) rfl (by kernel_rfl) (by kernel_rfl) (by kernel_rfl) (fun _ _ _ h => h) (Or.inl ⟨by rfl, ?_⟩) (by assumption) ?_
                            rotate_left
                            focus (intro w hSw; (try dsimp only at hSw); go_simp; first | done | with_reducible rfl)
                            (try simp only [List.getElem_toArray, List.getElem_cons_zero, List.getElem_cons_succ, Act.put, List.setIfInBounds_toArray, List.set_cons_zero, List.set_cons_succ])
                            refine wpAnyH_take (i := 2) (v := ?_) rfl (by kernel_rfl) (by kernel_rfl) (by kernel_rfl) (fun _ _ _ h => h) (Or.inl ⟨by rfl, ?_⟩) (by assumption) ?_
                            rotate_left
                            focus (intro w hSw; (try dsimp only at hSw); go_simp; first | done | with_reducible rfl)
                            (try simp only [List.getElem_toArray, List.getElem_cons_zero, List.getElem_cons_succ, Act.put, List.setIfInBounds_toArray, List.set_cons_zero, List.set_cons_succ])
                            refine wpAnyH_take (i := 3) (v := ?_) rfl (by kernel_rfl) (by kernel_rfl) (by kernel_rfl) (fun _ _ _ h => h) (Or.inl ⟨by rfl, ?_⟩) (by assumption) ?_
                            rotate_left
                            focus (intro w hSw; (try dsimp only at hSw); go_simp; first | done | with_reducible rfl)
                            (try simp only [List.getElem_toArray, List.getElem_cons_zero, List.getElem_cons_succ, Act.put, List.setIfInBounds_toArray, List.set_cons_zero, List.set_cons_succ])
                            refine wpAnyH_take (i := 4) (v := ?_) rfl (by kernel_rfl) (by kernel_rfl) (by kernel_rfl) (fun _ _ _ h => h) (Or.inl ⟨by rfl, ?_⟩) (by assumption) ?_
                            rotate_left
                            focus (intro w hSw; (try dsimp only at hSw); go_simp; first | done | with_reducible rfl)
                            (try simp only [List.getElem_toArray, List.getElem_cons_zero, List.getElem_cons_succ, Act.put, List.setIfInBounds_toArray, List.set_cons_zero, List.set_cons_succ])
                            refine wpAnyH_take (i := 5) (v := ?_) rfl (by kernel_rfl) (by kernel_rfl) (by kernel_rfl) (fun _ _ _ h => h) (Or.inl ⟨by rfl, ?_⟩) (by assumption) ?_
                            rotate_left
                            focus (intro w hSw; (try dsimp only at hSw); go_simp; first | done | with_reducible rfl)
                            (try simp only [List.getElem_toArray, List.getElem_cons_zero, List.getElem_cons_succ, Act.put, List.setIfInBounds_toArray, List.set_cons_zero, List.set_cons_succ])
                            refine wpAnyH_take (i := 6) (v := ?_) rfl (by kernel_rfl) (by kernel_rfl) (by kernel_rfl) (fun _ _ _ h => h) (Or.inl ⟨by rfl, ?_⟩) (by assumption) ?_
                            rotate_left
                            focus (intro w hSw; (try dsimp only at hSw); go_simp; first | done | with_reducible rfl)
                            (try simp only [List.getElem_toArray, List.getElem_cons_zero, List.getElem_cons_succ, Act.put, List.setIfInBounds_toArray, List.set_cons_zero, List.set_cons_succ])
                            refine wpAnyH_take (i := 7) (v := ?_) rfl (by kernel_rfl) (by kernel_rfl) (by kernel_rfl) (fun _ _ _ h => h) (Or.inl ⟨by rfl, ?_⟩) (by assumption) ?_
                            rotate_left
                            focus (intro w hSw; (try dsimp only at hSw); go_simp; first | done | with_reducible rfl)
                            (try simp only [List.getElem_toArray, List.getElem_cons_zero, List.getElem_cons_succ, Act.put, List.setIfInBounds_toArray, List.set_cons_zero, List.set_cons_succ])
                            refine wpAnyH_take (i := 8) (v := ?_) rfl (by kernel_rfl) (by kernel_rfl) (by kernel_rfl) (fun _ _ _ h => h) (Or.inl ⟨by rfl, ?_⟩) (by assumption) ?_
                            rotate_left
                            focus (intro w hSw; (try dsimp only at hSw); go_simp; first | done | with_reducible rfl)
                            (try simp only [List.getElem_toArray, List.getElem_cons_zero, List.getElem_cons_succ, Act.put, List.setIfInBounds_toArray, List.set_cons_zero, List.set_cons_succ])
                            refine wpAnyH_take (i := 9) (v := ?_) rfl (by kernel_rfl) (by kernel_rfl) (by kernel_rfl) (fun _ _ _ h => h) (Or.inl ⟨by rfl, ?_⟩) (by assumption) ?_
                            rotate_left
                            focus (intro w hSw; (try dsimp only at hSw); go_simp; first | done | with_reducible rfl)
                            (try simp only [List.getElem_toArray, List.getElem_cons_zero, List.getElem_cons_succ, Act.put, List.setIfInBounds_toArray, List.set_cons_zero, List.set_cons_succ])
                            refine wpAnyH_take (i := 10) (v := undef) rfl (by kernel_rfl) (by kernel_rfl) (by kernel_rfl) (fun _ _ _ h => h) (Or.inr ⟨by rfl, rfl⟩) (by assumption) ?_
                            (try simp only [List.getElem_toArray, List.getElem_cons_zero, List.getElem_cons_succ, Act.put, List.setIfInBounds_toArray, List.set_cons_zero, List.set_cons_succ])
                            refine wpAnyH_take (i := 11) (v := undef) rfl (by kernel_rfl) (by kernel_rfl) (by kernel_rfl) (fun _ _ _ h => h) (Or.inr ⟨by rfl, rfl⟩) (by assumption) ?_
                            (try simp only [List.getElem_toArray, List.getElem_cons_zero, List.getElem_cons_succ, Act.put, List.setIfInBounds_toArray, List.set_cons_zero, List.set_cons_succ])
                            refine wpAnyH_take (i := 12) (v := undef) rfl (by kernel_rfl) (by kernel_rfl) (by kernel_rfl) (fun _ _ _ h => h) (Or.inr ⟨by rfl, rfl⟩) (by assumption) ?_
                            (try simp only [List.getElem_toArray, List.getElem_cons_zero, List.getElem_cons_succ, Act.put, List.setIfInBounds_toArray, List.set_cons_zero, List.set_cons_succ])
                            refine wpAnyH_take (i := 13) (v := undef) rfl (by kernel_rfl) (by kernel_rfl) (by kernel_rfl) (fun _ _ _ h => h) (Or.inr ⟨by rfl, rfl⟩) (by assumption) ?_
                            (try simp only [List.getElem_toArray, List.getElem_cons_zero, List.getElem_cons_succ, Act.put, List.setIfInBounds_toArray, List.set_cons_zero, List.set_cons_succ])
                            refine wpAnyH_take (i := 14) (v := undef) rfl (by kernel_rfl) (by kernel_rfl) (by kernel_rfl) (fun _ _ _ h => h) (Or.inr ⟨by rfl, rfl⟩) (by assumption) ?_
                            (try simp only [List.getElem_toArray, List.getElem_cons_zero, List.getElem_cons_succ, Act.put, List.setIfInBounds_toArray, List.set_cons_zero, List.set_cons_succ])
                            refine wpAnyH_take (i := 15) (v := undef) rfl (by kernel_rfl) (by kernel_rfl) (by kernel_rfl) (fun _ _ _ h => h) (Or.inr ⟨by rfl, rfl⟩) (by assumption) ?_
                            (try simp only [List.getElem_toArray, List.getElem_cons_zero, List.getElem_cons_succ, Act.put, List.setIfInBounds_toArray, List.set_cons_zero, List.set_cons_succ])
                            refine wpAnyH_take (i := 16) (v := undef) rfl (by kernel_rfl) (by kernel_rfl) (by kernel_rfl) (fun _ _ _ h => h) (Or.inr ⟨by rfl, rfl⟩) (by assumption) ?_
                            (try simp only [List.getElem_toArray, List.getElem_cons_zero, List.getElem_cons_succ, Act.put, List.setIfInBounds_toArray, List.set_cons_zero, List.set_cons_succ])
                            refine wpAnyH_take (i := 17) (v := undef) rfl (by kernel_rfl) (by kernel_rfl) (by kernel_rfl) (fun _ _ _ h => h) (Or.inr ⟨by rfl, rfl⟩) (by assumption) ?_
                            (try simp only [List.getElem_toArray, List.getElem_cons_zero, List.getElem_cons_succ, Act.put, List.setIfInBounds_toArray, List.set_cons_zero, List.set_cons_succ])
                            refine wpAnyH_take (i := 18) (v := undef) rfl (by kernel_rfl) (by kernel_rfl) (by kernel_rfl) (fun _ _ _ h => h) (Or.inr ⟨by rfl, rfl⟩) (by assumption) ?_
                            (try simp only [List.getElem_toArray, List.getElem_cons_zero, List.getElem_cons_succ, Act.put, List.setIfInBounds_toArray, List.set_cons_zero, List.set_cons_succ])
                            refine wpAnyH_take (i := 19) (v := undef) rfl (by kernel_rfl) (by kernel_rfl) (by kernel_rfl) (fun _ _ _ h => h) (Or.inr ⟨by rfl, rfl⟩) (by assumption) ?_
                            (try simp only [List.getElem_toArray, List.getElem_cons_zero, List.getElem_cons_succ, Act.put, List.setIfInBounds_toArray, List.set_cons_zero, List.set_cons_succ])
                            refine wpAnyH_take (i := 20) (v := ?_) rfl (by kernel_rfl) (by kernel_rfl) (by kernel_rfl) (fun _ _ _ h => h) (Or.inl ⟨by rfl, ?_⟩) (by assumption) ?_
                            rotate_left
                            focus (intro w hSw; (try dsimp only at hSw); go_simp; first | done | with_reducible rfl)
                            (try simp only [List.getElem_toArray, List.getElem_cons_zero, List.getElem_cons_succ, Act.put, List.setIfInBounds_toArray, List.set_cons_zero, List.set_cons_succ])
                            refine wpAnyH_take (i := 21) (v := ?_) rfl (by kernel_rfl) (by kernel_rfl) (by kernel_rfl) (fun _ _ _ h => h) (Or.inl ⟨by rfl, ?_⟩) (by assumption) ?_
                            rotate_left
                            focus (intro w hSw; (try dsimp only at hSw); go_simp; first | done | with_reducible rfl)
                            (try simp only [List.getElem_toArray, List.getElem_cons_zero, List.getElem_cons_succ, Act.put, List.setIfInBounds_toArray, List.set_cons_zero, List.set_cons_succ])
                            refine wpAnyH_take (i := 22) (v := ?_) rfl (by kernel_rfl) (by kernel_rfl) (by kernel_rfl) (fun _ _ _ h => h) (Or.inl ⟨by rfl, ?_⟩) (by assumption) ?_
                            rotate_left
                            focus (intro w hSw; (try dsimp only at hSw); go_simp; first | done | with_reducible rfl)
                            (try simp only [List.getElem_toArray, List.getElem_cons_zero, List.getElem_cons_succ, Act.put, List.setIfInBounds_toArray, List.set_cons_zero, List.set_cons_succ])
                            refine wpAnyH_done (by kernel_rfl) ?_ _
                            go_wp2_with fail
                            go_roundw
                            case rel => exact ⟨j + 1, by omega, by omega, congrArg Value.bool (by rw [HOS.out]; simp [hii]), by go_num, HKJ.out.drew⟩
                            case measure => simp [intOf]; omega
                        · refine wp_region_held_drew (S := fun w' => w'.cell? ⟨gb, o, none⟩ = some (.int .u8 x) ∧ w'.cell? ⟨ba, oa + j * 6 + 1, none⟩ = some (.int .i64 ii) ∧ w'.cell? ⟨ba, oa + j * 6 + 3, none⟩ = some (.int .u8 ci)) (by kernel_rfl) ⟨m1, a1, a3⟩ (fun hHeld => ?_)
                          refine wpAnyH_take (i := 0) (v := ?_) rfl (by kernel_rfl) (by kernel_rfl) (by kernel_rfl) (fun _ _ _ h => h) (Or.inl ⟨by rfl, ?_⟩) (by assumption) ?_
                          rotate_left
                          focus (intro w hSw; (try dsimp only at hSw); go_simp; first | done | with_reducible rfl)
                          (try simp only [List.getElem_toArray, List.getElem_cons_zero, List.getElem_cons_succ, Act.put, List.setIfInBounds_toArray, List.set_cons_zero, List.set_cons_succ])
                          refine wpAnyH_take (i := 1) (v := ?_) rfl (by kernel_rfl) (by kernel_rfl) (by kernel_rfl) (fun _ _ _ h => h) (Or.inl ⟨by rfl, ?_⟩) (by assumption) ?_
                          rotate_left
                          focus (intro w hSw; (try dsimp only at hSw); go_simp; first | done | with_reducible rfl)
                          (try simp only [List.getElem_toArray, List.getElem_cons_zero, List.getElem_cons_succ, Act.put, List.setIfInBounds_toArray, List.set_cons_zero, List.set_cons_succ])
                          refine wpAnyH_take (i := 2) (v := undef) rfl (by kernel_rfl) (by kernel_rfl) (by kernel_rfl) (fun _ _ _ h => h) (Or.inr ⟨by rfl, rfl⟩) (by assumption) ?_
                          (try simp only [List.getElem_toArray, List.getElem_cons_zero, List.getElem_cons_succ, Act.put, List.setIfInBounds_toArray, List.set_cons_zero, List.set_cons_succ])
                          refine wpAnyH_take (i := 3) (v := undef) rfl (by kernel_rfl) (by kernel_rfl) (by kernel_rfl) (fun _ _ _ h => h) (Or.inr ⟨by rfl, rfl⟩) (by assumption) ?_
                          (try simp only [List.getElem_toArray, List.getElem_cons_zero, List.getElem_cons_succ, Act.put, List.setIfInBounds_toArray, List.set_cons_zero, List.set_cons_succ])
                          refine wpAnyH_take (i := 4) (v := undef) rfl (by kernel_rfl) (by kernel_rfl) (by kernel_rfl) (fun _ _ _ h => h) (Or.inr ⟨by rfl, rfl⟩) (by assumption) ?_
                          (try simp only [List.getElem_toArray, List.getElem_cons_zero, List.getElem_cons_succ, Act.put, List.setIfInBounds_toArray, List.set_cons_zero, List.set_cons_succ])
                          refine wpAnyH_take (i := 5) (v := undef) rfl (by kernel_rfl) (by kernel_rfl) (by kernel_rfl) (fun _ _ _ h => h) (Or.inr ⟨by rfl, rfl⟩) (by assumption) ?_
                          (try simp only [List.getElem_toArray, List.getElem_cons_zero, List.getElem_cons_succ, Act.put, List.setIfInBounds_toArray, List.set_cons_zero, List.set_cons_succ])
                          refine wpAnyH_take (i := 6) (v := undef) rfl (by kernel_rfl) (by kernel_rfl) (by kernel_rfl) (fun _ _ _ h => h) (Or.inr ⟨by rfl, rfl⟩) (by assumption) ?_
                          (try simp only [List.getElem_toArray, List.getElem_cons_zero, List.getElem_cons_succ, Act.put, List.setIfInBounds_toArray, List.set_cons_zero, List.set_cons_succ])
                          refine wpAnyH_take (i := 7) (v := undef) rfl (by kernel_rfl) (by kernel_rfl) (by kernel_rfl) (fun _ _ _ h => h) (Or.inr ⟨by rfl, rfl⟩) (by assumption) ?_
                          (try simp only [List.getElem_toArray, List.getElem_cons_zero, List.getElem_cons_succ, Act.put, List.setIfInBounds_toArray, List.set_cons_zero, List.set_cons_succ])
                          refine wpAnyH_take (i := 8) (v := undef) rfl (by kernel_rfl) (by kernel_rfl) (by kernel_rfl) (fun _ _ _ h => h) (Or.inr ⟨by rfl, rfl⟩) (by assumption) ?_
                          (try simp only [List.getElem_toArray, List.getElem_cons_zero, List.getElem_cons_succ, Act.put, List.setIfInBounds_toArray, List.set_cons_zero, List.set_cons_succ])
                          refine wpAnyH_take (i := 9) (v := undef) rfl (by kernel_rfl) (by kernel_rfl) (by kernel_rfl) (fun _ _ _ h => h) (Or.inr ⟨by rfl, rfl⟩) (by assumption) ?_
                          (try simp only [List.getElem_toArray, List.getElem_cons_zero, List.getElem_cons_succ, Act.put, List.setIfInBounds_toArray, List.set_cons_zero, List.set_cons_succ])
                          refine wpAnyH_take (i := 10) (v := undef) rfl (by kernel_rfl) (by kernel_rfl) (by kernel_rfl) (fun _ _ _ h => h) (Or.inr ⟨by rfl, rfl⟩) (by assumption) ?_
                          (try simp only [List.getElem_toArray, List.getElem_cons_zero, List.getElem_cons_succ, Act.put, List.setIfInBounds_toArray, List.set_cons_zero, List.set_cons_succ])
                          refine wpAnyH_take (i := 11) (v := undef) rfl (by kernel_rfl) (by kernel_rfl) (by kernel_rfl) (fun _ _ _ h => h) (Or.inr ⟨by rfl, rfl⟩) (by assumption) ?_
                          (try simp only [List.getElem_toArray, List.getElem_cons_zero, List.getElem_cons_succ, Act.put, List.setIfInBounds_toArray, List.set_cons_zero, List.set_cons_succ])
                          refine wpAnyH_take (i := 12) (v := undef) rfl (by kernel_rfl) (by kernel_rfl) (by kernel_rfl) (fun _ _ _ h => h) (Or.inr ⟨by rfl, rfl⟩) (by assumption) ?_
                          (try simp only [List.getElem_toArray, List.getElem_cons_zero, List.getElem_cons_succ, Act.put, List.setIfInBounds_toArray, List.set_cons_zero, List.set_cons_succ])
                          refine wpAnyH_take (i := 13) (v := undef) rfl (by kernel_rfl) (by kernel_rfl) (by kernel_rfl) (fun _ _ _ h => h) (Or.inr ⟨by rfl, rfl⟩) (by assumption) ?_
                          (try simp only [List.getElem_toArray, List.getElem_cons_zero, List.getElem_cons_succ, Act.put, List.setIfInBounds_toArray, List.set_cons_zero, List.set_cons_succ])
                          refine wpAnyH_take (i := 14) (v := undef) rfl (by kernel_rfl) (by kernel_rfl) (by kernel_rfl) (fun _ _ _ h => h) (Or.inr ⟨by rfl, rfl⟩) (by assumption) ?_
                          (try simp only [List.getElem_toArray, List.getElem_cons_zero, List.getElem_cons_succ, Act.put, List.setIfInBounds_toArray, List.set_cons_zero, List.set_cons_succ])
                          refine wpAnyH_take (i := 15) (v := undef) rfl (by kernel_rfl) (by kernel_rfl) (by kernel_rfl) (fun _ _ _ h => h) (Or.inr ⟨by rfl, rfl⟩) (by assumption) ?_
                          (try simp only [List.getElem_toArray, List.getElem_cons_zero, List.getElem_cons_succ, Act.put, List.setIfInBounds_toArray, List.set_cons_zero, List.set_cons_succ])
                          refine wpAnyH_take (i := 16) (v := undef) rfl (by kernel_rfl) (by kernel_rfl) (by kernel_rfl) (fun _ _ _ h => h) (Or.inr ⟨by rfl, rfl⟩) (by assumption) ?_
                          (try simp only [List.getElem_toArray, List.getElem_cons_zero, List.getElem_cons_succ, Act.put, List.setIfInBounds_toArray, List.set_cons_zero, List.set_cons_succ])
                          refine wpAnyH_take (i := 17) (v := undef) rfl (by kernel_rfl) (by kernel_rfl) (by kernel_rfl) (fun _ _ _ h => h) (Or.inr ⟨by rfl, rfl⟩) (by assumption) ?_
                          (try simp only [List.getElem_toArray, List.getElem_cons_zero, List.getElem_cons_succ, Act.put, List.setIfInBounds_toArray, List.set_cons_zero, List.set_cons_succ])
                          refine wpAnyH_take (i := 18) (v := undef) rfl (by kernel_rfl) (by kernel_rfl) (by kernel_rfl) (fun _ _ _ h => h) (Or.inr ⟨by rfl, rfl⟩) (by assumption) ?_
                          (try simp only [List.getElem_toArray, List.getElem_cons_zero, List.getElem_cons_succ, Act.put, List.setIfInBounds_toArray, List.set_cons_zero, List.set_cons_succ])
                          refine wpAnyH_take (i := 19) (v := undef) rfl (by kernel_rfl) (by kernel_rfl) (by kernel_rfl) (fun _ _ _ h => h) (Or.inr ⟨by rfl, rfl⟩) (by assumption) ?_
                          (try simp only [List.getElem_toArray, List.getElem_cons_zero, List.getElem_cons_succ, Act.put, List.setIfInBounds_toArray, List.set_cons_zero, List.set_cons_succ])
                          refine wpAnyH_take (i := 20) (v := undef) rfl (by kernel_rfl) (by kernel_rfl) (by kernel_rfl) (fun _ _ _ h => h) (Or.inr ⟨by rfl, rfl⟩) (by assumption) ?_
                          (try simp only [List.getElem_toArray, List.getElem_cons_zero, List.getElem_cons_succ, Act.put, List.setIfInBounds_toArray, List.set_cons_zero, List.set_cons_succ])
                          refine wpAnyH_take (i := 21) (v := ?_) rfl (by kernel_rfl) (by kernel_rfl) (by kernel_rfl) (fun _ _ _ h => h) (Or.inl ⟨by rfl, ?_⟩) (by assumption) ?_
                          rotate_left
                          focus (intro w hSw; (try dsimp only at hSw); go_simp; first | done | with_reducible rfl)
                          (try simp only [List.getElem_toArray, List.getElem_cons_zero, List.getElem_cons_succ, Act.put, List.setIfInBounds_toArray, List.set_cons_zero, List.set_cons_succ])
                          refine wpAnyH_take (i := 22) (v := ?_) rfl (by kernel_rfl) (by kernel_rfl) (by kernel_rfl) (fun _ _ _ h => h) (Or.inl ⟨by rfl, ?_⟩) (by assumption) ?_
                          rotate_left
                          focus (intro w hSw; (try dsimp only at hSw); go_simp; first | done | with_reducible rfl)
                          (try simp only [List.getElem_toArray, List.getElem_cons_zero, List.getElem_cons_succ, Act.put, List.setIfInBounds_toArray, List.set_cons_zero, List.set_cons_succ])
                          refine wpAnyH_done (by kernel_rfl) ?_ _
                          go_wp2_with fail
                          go_roundw
                          case rel => exact ⟨j + 1, by omega, by omega, congrArg Value.bool (by rw [HOS.out]; simp), by go_num, HKJ.out.drew⟩
                          case measure => simp [intOf]; omega
                      · have hbt : okF x y i F2 j = true := okF_mono j (by have := HKN.out; have := HK2.out; omega) HOK.out
                        rw [hbt]
                        clear hbt
                        rcases (by omega : (j < n2 ∧ j = 20) ∨ ¬ j < n2) with ⟨hlt1, hlt2⟩ | hlt1
                        · subst hlt2
                          have g1 : (20 : Int) < (n2 : Int) := by omega
                          go_wp2_with fail
                          go_roundw
                          case rel => exact ⟨o + 1, by omega, by go_num, HKJ.out⟩
                          case measure => simp [intOf]; omega
                        · have g1 : ¬ (j : Int) < (n2 : Int) := by omega
                          go_wp2_with fail
                          go_roundw
                          case rel => exact ⟨o + 1, by omega, by go_num, HKJ.out⟩
                          case measure => simp [intOf]; omega
                  · obtain rfl : o = 128 := by omega
                    go_wp2_with fail
                    go_roundw
                    case rel => exact ⟨i + 1, by omega, by go_num, K8.out.trans HKO.out⟩
                    case measure => simp [intOf]; omega
              · have hm1 : ((m : Int) == 0) = false := by simpa using hm0
                refine wpAnyH_take (i := 10) (v := ?_) rfl (by kernel_rfl) (by kernel_rfl) (by kernel_rfl) (fun _ _ _ h => h) (Or.inl ⟨by rfl, ?_⟩) (by assumption) ?_
                rotate_left
                focus (intro w hSw; (try dsimp only at hSw); go_simp; first | done | with_reducible rfl)
                (try simp only [List.getElem_toArray, List.getElem_cons_zero, List.getElem_cons_succ, Act.put, List.setIfInBounds_toArray, List.set_cons_zero, List.set_cons_succ])
                refine wpAnyH_take (i := 11) (v := ?_) rfl (by kernel_rfl) (by kernel_rfl) (by kernel_rfl) (fun _ _ _ h => h) (Or.inl ⟨by rfl, ?_⟩) (by assumption) ?_
                rotate_left
                focus (intro w hSw; (try dsimp only at hSw); go_simp; first | done | with_reducible rfl)
                (try simp only [List.getElem_toArray, List.getElem_cons_zero, List.getElem_cons_succ, Act.put, List.setIfInBounds_toArray, List.set_cons_zero, List.set_cons_succ])
                refine wpAnyH_take (i := 12) (v := undef) rfl (by kernel_rfl) (by kernel_rfl) (by kernel_rfl) (fun _ _ _ h => h) (Or.inr ⟨by rfl, rfl⟩) (by assumption) ?_
                (try simp only [List.getElem_toArray, List.getElem_cons_zero, List.getElem_cons_succ, Act.put, List.setIfInBounds_toArray, List.set_cons_zero, List.set_cons_succ])
                refine wpAnyH_take (i := 13) (v := undef) rfl (by kernel_rfl) (by kernel_rfl) (by kernel_rfl) (fun _ _ _ h => h) (Or.inr ⟨by rfl, rfl⟩) (by assumption) ?_
                (try simp only [List.getElem_toArray, List.getElem_cons_zero, List.getElem_cons_succ, Act.put, List.setIfInBounds_toArray, List.set_cons_zero, List.set_cons_succ])
                refine wpAnyH_take (i := 14) (v := undef) rfl (by kernel_rfl) (by kernel_rfl) (by kernel_rfl) (fun _ _ _ h => h) (Or.inr ⟨by rfl, rfl⟩) (by assumption) ?_
                (try simp only [List.getElem_toArray, List.getElem_cons_zero, List.getElem_cons_succ, Act.put, List.setIfInBounds_toArray, List.set_cons_zero, List.set_cons_succ])
                refine wpAnyH_take (i := 15) (v := undef) rfl (by kernel_rfl) (by kernel_rfl) (by kernel_rfl) (fun _ _ _ h => h) (Or.inr ⟨by rfl, rfl⟩) (by assumption) ?_
                (try simp only [List.getElem_toArray, List.getElem_cons_zero, List.getElem_cons_succ, Act.put, List.setIfInBounds_toArray, List.set_cons_zero, List.set_cons_succ])
                refine wpAnyH_take (i := 16) (v := undef) rfl (by kernel_rfl) (by kernel_rfl) (by kernel_rfl) (fun _ _ _ h => h) (Or.inr ⟨by rfl, rfl⟩) (by assumption) ?_
                (try simp only [List.getElem_toArray, List.getElem_cons_zero, List.getElem_cons_succ, Act.put, List.setIfInBounds_toArray, List.set_cons_zero, List.set_cons_succ])
                refine wpAnyH_take (i := 17) (v := undef) rfl (by kernel_rfl) (by kernel_rfl) (by kernel_rfl) (fun _ _ _ h => h) (Or.inr ⟨by rfl, rfl⟩) (by assumption) ?_
                (try simp only [List.getElem_toArray, List.getElem_cons_zero, List.getElem_cons_succ, Act.put, List.setIfInBounds_toArray, List.set_cons_zero, List.set_cons_succ])
                refine wpAnyH_take (i := 18) (v := undef) rfl (by kernel_rfl) (by kernel_rfl) (by kernel_rfl) (fun _ _ _ h => h) (Or.inr ⟨by rfl, rfl⟩) (by assumption) ?_
                (try simp only [List.getElem_toArray, List.getElem_cons_zero, List.getElem_cons_succ, Act.put, List.setIfInBounds_toArray, List.set_cons_zero, List.set_cons_succ])
                refine wpAnyH_take (i := 19) (v := ?_) rfl (by kernel_rfl) (by kernel_rfl) (by kernel_rfl) (fun _ _ _ h => h) (Or.inl ⟨by rfl, ?_⟩) (by assumption) ?_
                rotate_left
                focus (intro w hSw; (try dsimp only at hSw); go_simp; first | done | with_reducible rfl)
                (try simp only [List.getElem_toArray, List.getElem_cons_zero, List.getElem_cons_succ, Act.put, List.setIfInBounds_toArray, List.set_cons_zero, List.set_cons_succ])
                refine wpAnyH_take (i := 20) (v := ?_) rfl (by kernel_rfl) (by kernel_rfl) (by kernel_rfl) (fun _ _ _ h => h) (Or.inl ⟨by rfl, ?_⟩) (by assumption) ?_
                rotate_left
                focus (intro w hSw; (try dsimp only at hSw); go_simp; first | done | with_reducible rfl)
                (try simp only [List.getElem_toArray, List.getElem_cons_zero, List.getElem_cons_succ, Act.put, List.setIfInBounds_toArray, List.set_cons_zero, List.set_cons_succ])
                refine wpAnyH_done (by kernel_rfl) ?_ _
                clear hw8
                go_wp2_with fail
                go_loopw [18] (fun t wr => ∃ o : Nat, o ≤ 128 ∧ t = .int .i64 o ∧ Kept w8 wr) (fun t _ => 128 - (intOf t).toNat)
                case atStart => exact ⟨0, by omega, rfl, (by repeat (first | exact Kept.refl _ | assumption | refine Kept.alloc ?_ _ | refine Kept.drew ?_ | refine Kept.drewN ?_ _ | refine Kept.setCell ?_ (by simp; try omega) _ | refine Kept.trans ?_ (by assumption)))⟩
                case round =>
                  obtain ⟨o, ho, rfl, hk⟩ := hrel
                  have HKO := hid hk
                  clear hk
                  by_cases hlo : o < 128
                  · have f0 : (0 : Int) ≤ (o : Int) := by omega
                    have f1 : (o : Int) < 128 := by omega
                    obtain ⟨hcell, hok⟩ := HCS.out o hlo
                    obtain ⟨hsz, hts⟩ := HTS.out o hlo
                    have hts := hts hsz
                    have m1 := HKO.out.keeps hcell
                    have m2 := HKO.out.keeps hwts.out
                    have hszI : (o : Int) < (ts.size : Int) := by omega
                    have HCX := hid hcell
                    clear hcell
                    generalize (((S4.blk i).getD o 0).toNat : Int) = x at *
                    generalize (((S0.blk i).getD o 0).toNat : Int) = y at *
                    have HOK := hid hok
                    clear hok
                    go_wp2_with fail
                    go_region_held3 (fun w' => w'.cell? ⟨gb, o, none⟩ = some (.int .u8 x) ∧ w'.cell? ⟨g, i, none⟩ = some (.string ts)) (first | exact ⟨m1, m2⟩) (fail)
                    go_wp2_with fail
                    clear hts hszI hsz
                    go_loopw [19, 20] (fun tok tj wr => ∃ j : Nat, j ≤ n2 ∧ j ≤ 20 ∧ tok = .bool (okF x y i F2 j) ∧ tj = .int .i64 j ∧ Kept w8 wr) (fun _ t _ => 20 - (intOf t).toNat)
                    case atStart => exact ⟨0, by omega, by omega, by first | rfl | simp [okF], rfl, HKO.out.drew⟩
                    case round =>
                      obtain ⟨j, hj, hj20, rfl, rfl, hk⟩ := hrel
                      have HKJ := hid hk
                      clear hk m1 m2
                      by_cases hlj : j < n2 ∧ j < 20
                      · obtain ⟨hj1, hj2⟩ := hlj
                        have g0 : (0 : Int) ≤ (j : Int) := by omega
                        have g1 : (j : Int) < (n2 : Int) := by omega
                        have g2 : (j : Int) < 20 := by omega
                        obtain ⟨ba, oa, rfl, hat⟩ := HF.out (by omega)
                        have hat := hat j hj1
                        have HOS := hid (show okF x y i F2 (j + 1) = (okF x y i F2 j || (decide ((F2 j).ii = (i : Int)) && (x == ((F2 j).cc.toNat : Int)))) from rfl)
                        generalize F2 j = ac at *
                        obtain ⟨dd, ii, kk, cc, sh, fv, far⟩ := ac
                        have a1 := (K7.out.trans (K8.out.trans HKJ.out)).keeps hat.c1
                        have a3 := (K7.out.trans (K8.out.trans HKJ.out)).keeps hat.c3
                        dsimp only at a1 a3
                        have HOS := hid (show okF x y i F2 (j + 1) = (okF x y i F2 j || (decide (ii = (i : Int)) && (x == (cc.toNat : Int)))) from HOS.out)
                        have m1 := HKJ.out.keeps HCX.out
                        clear hat
                        generalize (cc.toNat : Int) = ci at *
                        generalize okF x y i F2 j = oj at *
                        go_wp2_with fail
                        cases oj
                        · by_cases hii : ii = (i : Int)
                          · have hd : (ii == (i : Int)) = true := by simpa using hii
                            subst hii
                            refine wp_region_held_drew (S := fun w' => w'.cell? ⟨gb, o, none⟩ = some (.int .u8 x) ∧ w'.cell? ⟨ba, oa + j * 6 + 1, none⟩ = some (.int .i64 (i : Int)) ∧ w'.cell? ⟨ba, oa + j * 6 + 3, none⟩ = some (.int .u8 ci)) (by kernel_rfl) ⟨m1, a1, a3⟩ (fun hHeld => ?_)
                            refine wpAnyH_take (i := 0) (v := ?_) rfl (by kernel_rfl) (by kernel_rfl) (by kernel_rfl) (fun _ _ _ h => h) (Or.inl ⟨by rfl, ?_⟩) (by assumption) ?_
                            rotate_left
                            focus (intro w hSw; (try dsimp only at hSw); go_simp; first | done | with_reducible rfl)
                            (try simp only [List.getElem_toArray, List.getElem_cons_zero, List.getElem_cons_succ, Act.put, List.setIfInBounds_toArray, List.set_cons_zero, List.set_cons_succ])
                            refine wpAnyH_take (i := 1) (v := ?_) rfl (by kernel_rfl) (by kernel_rfl) (by kernel_rfl) (fun _ _ _ h => h) (Or.inl ⟨by rfl, ?_⟩) (by assumption) ?_
                            rotate_left
                            focus (intro w hSw; (try dsimp only at hSw); go_simp; first | done | with_reducible rfl)
                            (try simp only [List.getElem_toArray, List.getElem_cons_zero, List.getElem_cons_succ, Act.put, List.setIfInBounds_toArray, List.set_cons_zero, List.set_cons_succ])
                            refine wpAnyH_take (i := 2) (v := ?_) rfl (by kernel_rfl) (by kernel_rfl) (by kernel_rfl) (fun _ _ _ h => h) (Or.inl ⟨by rfl, ?_⟩) (by assumption) ?_
                            rotate_left
                            focus (intro w hSw; (try dsimp only at hSw); go_simp; first | done | with_reducible rfl)
                            (try simp only [List.getElem_toArray, List.getElem_cons_zero, List.getElem_cons_succ, Act.put, List.setIfInBounds_toArray, List.set_cons_zero, List.set_cons_succ])
                            refine wpAnyH_take (i := 3) (v := ?_) rfl (by kernel_rfl) (by kernel_rfl) (by kernel_rfl) (fun _ _ _ h => h) (Or.inl ⟨by rfl, ?_⟩) (by assumption) ?_
                            rotate_left
                            focus (intro w hSw; (try dsimp only at hSw); go_simp; first | done | with_reducible rfl)
                            (try simp only [List.getElem_toArray, List.getElem_cons_zero, List.getElem_cons_succ, Act.put, List.setIfInBounds_toArray, List.set_cons_zero, List.set_cons_succ])
                            refine wpAnyH_take (i := 4) (v := ?_) rfl (by kernel_rfl) (by kernel_rfl) (by kernel_rfl) (fun _ _ _ h => h) (Or.inl ⟨by rfl, ?_⟩) (by assumption) ?_
                            rotate_left
                            focus (intro w hSw; (try dsimp only at hSw); go_simp; first | done | with_reducible rfl)
                            (try simp only [List.getElem_toArray, List.getElem_cons_zero, List.getElem_cons_succ, Act.put, List.setIfInBounds_toArray, List.set_cons_zero, List.set_cons_succ])
                            refine wpAnyH_take (i := 5) (v := ?_) rfl (by kernel_rfl) (by kernel_rfl) (by kernel_rfl) (fun _ _ _ h => h) (Or.inl ⟨by rfl, ?_⟩) (by assumption) ?_
                            rotate_left
                            focus (intro w hSw; (try dsimp only at hSw); go_simp; first | done | with_reducible rfl)
                            (try simp only [List.getElem_toArray, List.getElem_cons_zero, List.getElem_cons_succ, Act.put, List.setIfInBounds_toArray, List.set_cons_zero, List.set_cons_succ])
                            refine wpAnyH_take (i := 6) (v := ?_) rfl (by kernel_rfl) (by kernel_rfl) (by kernel_rfl) (fun _ _ _ h => h) (Or.inl ⟨by rfl, ?_⟩) (by assumption) ?_
                            rotate_left
                            focus (intro w hSw; (try dsimp only at hSw); go_simp; first | done | with_reducible rfl)
                            (try simp only [List.getElem_toArray, List.getElem_cons_zero, List.getElem_cons_succ, Act.put, List.setIfInBounds_toArray, List.set_cons_zero, List.set_cons_succ])
                            refine wpAnyH_take (i := 7) (v := ?_) rfl (by kernel_rfl) (by kernel_rfl) (by kernel_rfl) (fun _ _ _ h => h) (Or.inl ⟨by rfl, ?_⟩) (by assumption) ?_
                            rotate_left
                            focus (intro w hSw; (try dsimp only at hSw); go_simp; first | done | with_reducible rfl)
                            (try simp only [List.getElem_toArray, List.getElem_cons_zero, List.getElem_cons_succ, Act.put, List.setIfInBounds_toArray, List.set_cons_zero, List.set_cons_succ])
                            refine wpAnyH_take (i := 8) (v := ?_) rfl (by kernel_rfl) (by kernel_rfl) (by kernel_rfl) (fun _ _ _ h => h) (Or.inl ⟨by rfl, ?_⟩) (by assumption) ?_
                            rotate_left
                            focus (intro w hSw; (try dsimp only at hSw); go_simp; first | done | with_reducible rfl)
                            (try simp only [List.getElem_toArray, List.getElem_cons_zero, List.getElem_cons_succ, Act.put, List.setIfInBounds_toArray, List.set_cons_zero, List.set_cons_succ])
                            refine wpAnyH_take (i := 9) (v := ?_) rfl (by kernel_rfl) (by kernel_rfl) (by kernel_rfl) (fun _ _ _ h => h) (Or.inl ⟨by rfl, ?_⟩) (by assumption) ?_
                            rotate_left
                            focus (intro w hSw; (try dsimp only at hSw); go_simp; first | done | with_reducible rfl)
                            (try simp only [List.getElem_toArray, List.getElem_cons_zero, List.getElem_cons_succ, Act.put, List.setIfInBounds_toArray, List.set_cons_zero, List.set_cons_succ])
                            refine wpAnyH_take (i := 10) (v := ?_) rfl (by kernel_rfl) (by kernel_rfl) (by kernel_rfl) (fun _ _ _ h => h) (Or.inl ⟨by rfl, ?_⟩) (by assumption) ?_
                            rotate_left
                            focus (intro w hSw; (try dsimp only at hSw); go_simp; first | done | with_reducible rfl)
                            (try simp only [List.getElem_toArray, List.getElem_cons_zero, List.getElem_cons_succ, Act.put, List.setIfInBounds_toArray, List.set_cons_zero, List.set_cons_succ])
                            refine wpAnyH_take (i := 11) (v := ?_) rfl (by kernel_rfl) (by kernel_rfl) (by kernel_rfl) (fun _ _ _ h => h) (Or.inl ⟨by rfl, ?_⟩) (by assumption) ?_
                            rotate_left
                            focus (intro w hSw; (try dsimp only at hSw); go_simp; first | done | with_reducible rfl)
                            (try simp only [List.getElem_toArray, List.getElem_cons_zero, List.getElem_cons_succ, Act.put, List.setIfInBounds_toArray, List.set_cons_zero, List.set_cons_succ])
                            refine wpAnyH_take (i := 12) (v := ?_) rfl (by kernel_rfl) (by kernel_rfl) (by kernel_rfl) (fun _ _ _ h => h) (Or.inl ⟨by rfl, ?_⟩) (by assumption) ?_
                            rotate_left
                            focus (intro w hSw; (try dsimp only at hSw); go_simp; first | done | with_reducible rfl)
                            (try simp only [List.getElem_toArray, List.getElem_cons_zero, List.getElem_cons_succ, Act.put, List.setIfInBounds_toArray, List.set_cons_zero, List.set_cons_succ])
                            refine wpAnyH_take (i := 13) (v := ?_) rfl (by kernel_rfl) (by kernel_rfl) (by kernel_rfl) (fun _ _ _ h => h) (Or.inl ⟨by rfl, ?_⟩) (by assumption) ?_
                            rotate_left
                            focus (intro w hSw; (try dsimp only at hSw); go_simp; first | done | with_reducible rfl)
                            (try simp only [List.getElem_toArray, List.getElem_cons_zero, List.getElem_cons_succ, Act.put, List.setIfInBounds_toArray, List.set_cons_zero, List.set_cons_succ])
                            refine wpAnyH_take (i := 14) (v := ?_) rfl (by kernel_rfl) (by kernel_rfl) (by kernel_rfl) (fun _ _ _ h => h) (Or.inl ⟨by rfl, ?_⟩) (by assumption) ?_
                            rotate_left
                            focus (intro w hSw; (try dsimp only at hSw); go_simp; first | done | with_reducible rfl)
                            (try simp only [List.getElem_toArray, List.getElem_cons_zero, List.getElem_cons_succ, Act.put, List.setIfInBounds_toArray, List.set_cons_zero, List.set_cons_succ])
                            refine wpAnyH_take (i := 15) (v := ?_) rfl (by kernel_rfl) (by kernel_rfl) (by kernel_rfl) (fun _ _ _ h => h) (Or.inl ⟨by rfl, ?_⟩) (by assumption) ?_
                            rotate_left
                            focus (intro w hSw; (try dsimp only at hSw); go_simp; first | done | with_reducible rfl)
                            (try simp only [List.getElem_toArray, List.getElem_cons_zero, List.getElem_cons_succ, Act.put, List.setIfInBounds_toArray, List.set_cons_zero, List.set_cons_succ])
                            refine wpAnyH_take (i := 16) (v := ?_) rfl (by kernel_rfl) (by kernel_rfl) (by kernel_rfl) (fun _ _ _ h => h) (Or.inl ⟨by rfl, ?_⟩) (by assumption) ?_
                            rotate_left
                            focus (intro w hSw; (try dsimp only at hSw); go_simp; first | done | with_reducible rfl)
                            (try simp only [List.getElem_toArray, List.getElem_cons_zero, List.getElem_cons_succ, Act.put, List.setIfInBounds_toArray, List.set_cons_zero, List.set_cons_succ])
                            refine wpAnyH_take (i := 17) (v := ?_) rfl (by kernel_rfl) (by kernel_rfl) (by kernel_rfl) (fun _ _ _ h => h) (Or.inl ⟨by rfl, ?_⟩) (by assumption) ?_
                            rotate_left
                            focus (intro w hSw; (try dsimp only at hSw); go_simp; first | done | with_reducible rfl)
                            (try simp only [List.getElem_toArray, List.getElem_cons_zero, List.getElem_cons_succ, Act.put, List.setIfInBounds_toArray, List.set_cons_zero, List.set_cons_succ])
                            refine wpAnyH_take (i := 18) (v := ?_) rfl (by kernel_rfl) (by kernel_rfl) (by kernel_rfl) (fun _ _ _ h => h) (Or.inl ⟨by rfl, ?_⟩) (by assumption) ?_
                            rotate_left
                            focus (intro w hSw; (try dsimp only at hSw); go_simp; first | done | with_reducible rfl)
                            (try simp only [List.getElem_toArray, List.getElem_cons_zero, List.getElem_cons_succ, Act.put, List.setIfInBounds_toArray, List.set_cons_zero, List.set_cons_succ])
                            refine wpAnyH_take (i := 19) (v := ?_) rfl (by kernel_rfl) (by kernel_rfl) (by kernel_rfl) (fun _ _ _ h => h) (Or.inl ⟨by rfl, ?_⟩) (by assumption) ?_
                            rotate_left
                            focus (intro w hSw; (try dsimp only at hSw); go_simp; first | done | with_reducible rfl)
                            (try simp only [List.getElem_toArray, List.getElem_cons_zero, List.getElem_cons_succ, Act.put, List.setIfInBounds_toArray, List.set_cons_zero, List.set_cons_succ])
                            refine wpAnyH_take (i := 20) (v := ?_) rfl (by kernel_rfl) (by kernel_rfl) (by kernel_rfl) (fun _ _ _ h => h) (Or.inl ⟨by rfl, ?_⟩) (by assumption) ?_
                            rotate_left
                            focus (intro w hSw; (try dsimp only at hSw); go_simp; first | done | with_reducible rfl)
                            (try simp only [List.getElem_toArray, List.getElem_cons_zero, List.getElem_cons_succ, Act.put, List.setIfInBounds_toArray, List.set_cons_zero, List.set_cons_succ])
                            refine wpAnyH_take (i := 21) (v := ?_) rfl (by kernel_rfl) (by kernel_rfl) (by kernel_rfl) (fun _ _ _ h => h) (Or.inl ⟨by rfl, ?_⟩) (by assumption) ?_
                            rotate_left
                            focus (intro w hSw; (try dsimp only at hSw); go_simp; first | done | with_reducible rfl)
                            (try simp only [List.getElem_toArray, List.getElem_cons_zero, List.getElem_cons_succ, Act.put, List.setIfInBounds_toArray, List.set_cons_zero, List.set_cons_succ])
                            refine wpAnyH_take (i := 22) (v := ?_) rfl (by kernel_rfl) (by kernel_rfl) (by kernel_rfl) (fun _ _ _ h => h) (Or.inl ⟨by rfl, ?_⟩) (by assumption) ?_
                            rotate_left
                            focus (intro w hSw; (try dsimp only at hSw); go_simp; first | done | with_reducible rfl)
                            (try simp only [List.getElem_toArray, List.getElem_cons_zero, List.getElem_cons_succ, Act.put, List.setIfInBounds_toArray, List.set_cons_zero, List.set_cons_succ])
                            refine wpAnyH_done (by kernel_rfl) ?_ _
                            go_wp2_with fail
                            go_roundw
                            case rel => exact ⟨j + 1, by omega, by omega, congrArg Value.bool (by rw [HOS.out]; simp), by go_num, HKJ.out.drew⟩
                            case measure => simp [intOf]; omega
                          · have hd : (ii == (i : Int)) = false := by simpa using hii
                            refine wp_region_held_drew (S := fun w' => w'.cell? ⟨gb, o, none⟩ = some (.int .u8 x) ∧ w'.cell? ⟨ba, oa + j * 6 + 1, none⟩ = some (.int .i64 ii) ∧ w'.cell? ⟨ba, oa + j * 6 + 3, none⟩ = some (.int .u8 ci)) (by kernel_rfl) ⟨m1, a1, a3⟩ (fun hHeld => ?_)
                            refine wpAnyH_take (i := 0) (v := ?_) rfl (by kernel_rfl) (by kernel_rfl) (by kernel_rfl) (fun _ _ _ h => h) (Or.inl ⟨by rfl, ?_⟩) (by assumption) ?_
                            rotate_left
                            focus (intro w hSw; (try dsimp only at hSw); go_simp; first | done | with_reducible rfl)
                            (try simp only [List.getElem_toArray, List.getElem_cons_zero, List.getElem_cons_succ, Act.put, List.setIfInBounds_toArray, List.set_cons_zero, List.set_cons_succ])
                            refine wpAnyH_take (i := 1) (v := ?_) rfl (by kernel_rfl) (by kernel_rfl) (by kernel_rfl) (fun _ _ _ h => h) (Or.inl ⟨by rfl, ?_⟩) (by assumption) ?_
                            rotate_left
                            focus (intro w hSw; (try dsimp only at hSw); go_simp; first | done | with_reducible rfl)
                            (try simp only [List.getElem_toArray, List.getElem_cons_zero, List.getElem_cons_succ, Act.put, List.setIfInBounds_toArray, List.set_cons_zero, List.set_cons_succ])
                            refine wpAnyH_take (i := 2) (v := ?_) rfl (by kernel_rfl) (by kernel_rfl) (by kernel_rfl) (fun _ _ _ h => h) (Or.inl ⟨by rfl, ?_⟩) (by assumption) ?_
                            rotate_left
                            focus (intro w hSw; (try dsimp only at hSw); go_simp; first | done | with_reducible rfl)
                            (try simp only [List.getElem_toArray, List.getElem_cons_zero, List.getElem_cons_succ, Act.put, List.setIfInBounds_toArray, List.set_cons_zero, List.set_cons_succ])
                            refine wpAnyH_take (i := 3) (v := ?_) rfl (by kernel_rfl) (by kernel_rfl) (by kernel_rfl) (fun _ _ _ h => h) (Or.inl ⟨by rfl, ?_⟩) (by assumption) ?_
                            rotate_left
                            focus (intro w hSw; (try dsimp only at hSw); go_simp; first | done | with_reducible rfl)
                            (try simp only [List.getElem_toArray, List.getElem_cons_zero, List.getElem_cons_succ, Act.put, List.setIfInBounds_toArray, List.set_cons_zero, List.set_cons_succ])
                            refine wpAnyH_take (i := 4) (v := ?_) rfl (by kernel_rfl) (by kernel_rfl) (by kernel_rfl) (fun _ _ _ h => h) (Or.inl ⟨by rfl, ?_⟩) (by assumption) ?_
                            rotate_left
                            focus (intro w hSw; (try dsimp only at hSw); go_simp; first | done | with_reducible rfl)
                            (try simp only [List.getElem_toArray, List.getElem_cons_zero, List.getElem_cons_succ, Act.put, List.setIfInBounds_toArray, List.set_cons_zero, List.set_cons_succ])
                            refine wpAnyH_take (i := 5) (v := ?_) rfl (by kernel_rfl) (by kernel_rfl) (by kernel_rfl) (fun _ _ _ h => h) (Or.inl ⟨by rfl, ?_⟩) (by assumption) ?_
                            rotate_left
                            focus (intro w hSw; (try dsimp only at hSw); go_simp; first | done | with_reducible rfl)
                            (try simp only [List.getElem_toArray, List.getElem_cons_zero, List.getElem_cons_succ, Act.put, List.setIfInBounds_toArray, List.set_cons_zero, List.set_cons_succ])
                            refine wpAnyH_take (i := 6) (v := ?_) rfl (by kernel_rfl) (by kernel_rfl) (by kernel_rfl) (fun _ _ _ h => h) (Or.inl ⟨by rfl, ?_⟩) (by assumption) ?_
                            rotate_left
                            focus (intro w hSw; (try dsimp only at hSw); go_simp; first | done | with_reducible rfl)
                            (try simp only [List.getElem_toArray, List.getElem_cons_zero, List.getElem_cons_succ, Act.put, List.setIfInBounds_toArray, List.set_cons_zero, List.set_cons_succ])
                            refine wpAnyH_take (i := 7) (v := ?_) rfl (by kernel_rfl) (by kernel_rfl) (by kernel_rfl) (fun _ _ _ h => h) (Or.inl ⟨by rfl, ?_⟩) (by assumption) ?_
                            rotate_left
                            focus (intro w hSw; (try dsimp only at hSw); go_simp; first | done | with_reducible rfl)
                            (try simp only [List.getElem_toArray, List.getElem_cons_zero, List.getElem_cons_succ, Act.put, List.setIfInBounds_toArray, List.set_cons_zero, List.set_cons_succ])
                            refine wpAnyH_take (i := 8) (v := ?_) rfl (by kernel_rfl) (by kernel_rfl) (by kernel_rfl) (fun _ _ _ h => h) (Or.inl ⟨by rfl, ?_⟩) (by assumption) ?_
                            rotate_left
                            focus (intro w hSw; (try dsimp only at hSw); go_simp; first | done | with_reducible rfl)
                            (try simp only [List.getElem_toArray, List.getElem_cons_zero, List.getElem_cons_succ, Act.put, List.setIfInBounds_toArray, List.set_cons_zero, List.set_cons_succ])
                            refine wpAnyH_take (i := 9) (v := ?_) rfl (by kernel_rfl) (by kernel_rfl) (by kernel_rfl) (fun _ _ _ h => h) (Or.inl ⟨by rfl, ?_⟩) (by assumption) ?_
                            rotate_left
                            focus (intro w hSw; (try dsimp only at hSw); go_simp; first | done | with_reducible rfl)
                            (try simp only [List.getElem_toArray, List.getElem_cons_zero, List.getElem_cons_succ, Act.put, List.setIfInBounds_toArray, List.set_cons_zero, List.set_cons_succ])
                            refine wpAnyH_take (i := 10) (v := undef) rfl (by kernel_rfl) (by kernel_rfl) (by kernel_rfl) (fun _ _ _ h => h) (Or.inr ⟨by rfl, rfl⟩) (by assumption) ?_
                            (try simp only [List.getElem_toArray, List.getElem_cons_zero, List.getElem_cons_succ, Act.put, List.setIfInBounds_toArray, List.set_cons_zero, List.set_cons_succ])
                            refine wpAnyH_take (i := 11) (v := undef) rfl (by kernel_rfl) (by kernel_rfl) (by kernel_rfl) (fun _ _ _ h => h) (Or.inr ⟨by rfl, rfl⟩) (by assumption) ?_
                            (try simp only [List.getElem_toArray, List.getElem_cons_zero, List.getElem_cons_succ, Act.put, List.setIfInBounds_toArray, List.set_cons_zero, List.set_cons_succ])
                            refine wpAnyH_take (i := 12) (v := undef) rfl (by kernel_rfl) (by kernel_rfl) (by kernel_rfl) (fun _ _ _ h => h) (Or.inr ⟨by rfl, rfl⟩) (by assumption) ?_
                            (try simp only [List.getElem_toArray, List.getElem_cons_zero, List.getElem_cons_succ, Act.put, List.setIfInBounds_toArray, List.set_cons_zero, List.set_cons_succ])
                            refine wpAnyH_take (i := 13) (v := undef) rfl (by kernel_rfl) (by kernel_rfl) (by kernel_rfl) (fun _ _ _ h => h) (Or.inr ⟨by rfl, rfl⟩) (by assumption) ?_
                            (try simp only [List.getElem_toArray, List.getElem_cons_zero, List.getElem_cons_succ, Act.put, List.setIfInBounds_toArray, List.set_cons_zero, List.set_cons_succ])
                            refine wpAnyH_take (i := 14) (v := undef) rfl (by kernel_rfl) (by kernel_rfl) (by kernel_rfl) (fun _ _ _ h => h) (Or.inr ⟨by rfl, rfl⟩) (by assumption) ?_
                            (try simp only [List.getElem_toArray, List.getElem_cons_zero, List.getElem_cons_succ, Act.put, List.setIfInBounds_toArray, List.set_cons_zero, List.set_cons_succ])
                            refine wpAnyH_take (i := 15) (v := undef) rfl (by kernel_rfl) (by kernel_rfl) (by kernel_rfl) (fun _ _ _ h => h) (Or.inr ⟨by rfl, rfl⟩) (by assumption) ?_
                            (try simp only [List.getElem_toArray, List.getElem_cons_zero, List.getElem_cons_succ, Act.put, List.setIfInBounds_toArray, List.set_cons_zero, List.set_cons_succ])
                            refine wpAnyH_take (i := 16) (v := undef) rfl (by kernel_rfl) (by kernel_rfl) (by kernel_rfl) (fun _ _ _ h => h) (Or.inr ⟨by rfl, rfl⟩) (by assumption) ?_
                            (try simp only [List.getElem_toArray, List.getElem_cons_zero, List.getElem_cons_succ, Act.put, List.setIfInBounds_toArray, List.set_cons_zero, List.set_cons_succ])
                            refine wpAnyH_take (i := 17) (v := undef) rfl (by kernel_rfl) (by kernel_rfl) (by kernel_rfl) (fun _ _ _ h => h) (Or.inr ⟨by rfl, rfl⟩) (by assumption) ?_
                            (try simp only [List.getElem_toArray, List.getElem_cons_zero, List.getElem_cons_succ, Act.put, List.setIfInBounds_toArray, List.set_cons_zero, List.set_cons_succ])
                            refine wpAnyH_take (i := 18) (v := undef) rfl (by kernel_rfl) (by kernel_rfl) (by kernel_rfl) (fun _ _ _ h => h) (Or.inr ⟨by rfl, rfl⟩) (by assumption) ?_
                            (try simp only [List.getElem_toArray, List.getElem_cons_zero, List.getElem_cons_succ, Act.put, List.setIfInBounds_toArray, List.set_cons_zero, List.set_cons_succ])
                            refine wpAnyH_take (i := 19) (v := undef) rfl (by kernel_rfl) (by kernel_rfl) (by kernel_rfl) (fun _ _ _ h => h) (Or.inr ⟨by rfl, rfl⟩) (by assumption) ?_
                            (try simp only [List.getElem_toArray, List.getElem_cons_zero, List.getElem_cons_succ, Act.put, List.setIfInBounds_toArray, List.set_cons_zero, List.set_cons_succ])
                            refine wpAnyH_take (i := 20) (v := ?_) rfl (by kernel_rfl) (by kernel_rfl) (by kernel_rfl) (fun _ _ _ h => h) (Or.inl ⟨by rfl, ?_⟩) (by assumption) ?_
                            rotate_left
                            focus (intro w hSw; (try dsimp only at hSw); go_simp; first | done | with_reducible rfl)
                            (try simp only [List.getElem_toArray, List.getElem_cons_zero, List.getElem_cons_succ, Act.put, List.setIfInBounds_toArray, List.set_cons_zero, List.set_cons_succ])
                            refine wpAnyH_take (i := 21) (v := ?_) rfl (by kernel_rfl) (by kernel_rfl) (by kernel_rfl) (fun _ _ _ h => h) (Or.inl ⟨by rfl, ?_⟩) (by assumption) ?_
                            rotate_left
                            focus (intro w hSw; (try dsimp only at hSw); go_simp; first | done | with_reducible rfl)
                            (try simp only [List.getElem_toArray, List.getElem_cons_zero, List.getElem_cons_succ, Act.put, List.setIfInBounds_toArray, List.set_cons_zero, List.set_cons_succ])
                            refine wpAnyH_take (i := 22) (v := ?_) rfl (by kernel_rfl) (by kernel_rfl) (by kernel_rfl) (fun _ _ _ h => h) (Or.inl ⟨by rfl, ?_⟩) (by assumption) ?_
                            rotate_left
                            focus (intro w hSw; (try dsimp only at hSw); go_simp; first | done | with_reducible rfl)
                            (try simp only [List.getElem_toArray, List.getElem_cons_zero, List.getElem_cons_succ, Act.put, List.setIfInBounds_toArray, List.set_cons_zero, List.set_cons_succ])
                            refine wpAnyH_done (by kernel_rfl) ?_ _
                            go_wp2_with fail
                            go_roundw
                            case rel => exact ⟨j + 1, by omega, by omega, congrArg Value.bool (by rw [HOS.out]; simp [hii]), by go_num, HKJ.out.drew⟩
                            case measure => simp [intOf]; omega
                        · refine wp_region_held_drew (S := fun w' => w'.cell? ⟨gb, o, none⟩ = some (.int .u8 x) ∧ w'.cell? ⟨ba, oa + j * 6 + 1, none⟩ = some (.int .i64 ii) ∧ w'.cell? ⟨ba, oa + j * 6 + 3, none⟩ = some (.int .u8 ci)) (by kernel_rfl) ⟨m1, a1, a3⟩ (fun hHeld => ?_)
                          refine wpAnyH_take (i := 0) (v := ?_) rfl (by kernel_rfl) (by kernel_rfl) (by kernel_rfl) (fun _ _ _ h => h) (Or.inl ⟨by rfl, ?_⟩) (by assumption) ?_
                          rotate_left
                          focus (intro w hSw; (try dsimp only at hSw); go_simp; first | done | with_reducible rfl)
                          (try simp only [List.getElem_toArray, List.getElem_cons_zero, List.getElem_cons_succ, Act.put, List.setIfInBounds_toArray, List.set_cons_zero, List.set_cons_succ])
                          refine wpAnyH_take (i := 1) (v := ?_) rfl (by kernel_rfl) (by kernel_rfl) (by kernel_rfl) (fun _ _ _ h => h) (Or.inl ⟨by rfl, ?_⟩) (by assumption) ?_
                          rotate_left
                          focus (intro w hSw; (try dsimp only at hSw); go_simp; first | done | with_reducible rfl)
                          (try simp only [List.getElem_toArray, List.getElem_cons_zero, List.getElem_cons_succ, Act.put, List.setIfInBounds_toArray, List.set_cons_zero, List.set_cons_succ])
                          refine wpAnyH_take (i := 2) (v := undef) rfl (by kernel_rfl) (by kernel_rfl) (by kernel_rfl) (fun _ _ _ h => h) (Or.inr ⟨by rfl, rfl⟩) (by assumption) ?_
                          (try simp only [List.getElem_toArray, List.getElem_cons_zero, List.getElem_cons_succ, Act.put, List.setIfInBounds_toArray, List.set_cons_zero, List.set_cons_succ])
                          refine wpAnyH_take (i := 3) (v := undef) rfl (by kernel_rfl) (by kernel_rfl) (by kernel_rfl) (fun _ _ _ h => h) (Or.inr ⟨by rfl, rfl⟩) (by assumption) ?_
                          (try simp only [List.getElem_toArray, List.getElem_cons_zero, List.getElem_cons_succ, Act.put, List.setIfInBounds_toArray, List.set_cons_zero, List.set_cons_succ])
                          refine wpAnyH_take (i := 4) (v := undef) rfl (by kernel_rfl) (by kernel_rfl) (by kernel_rfl) (fun _ _ _ h => h) (Or.inr ⟨by rfl, rfl⟩) (by assumption) ?_
                          (try simp only [List.getElem_toArray, List.getElem_cons_zero, List.getElem_cons_succ, Act.put, List.setIfInBounds_toArray, List.set_cons_zero, List.set_cons_succ])
                          refine wpAnyH_take (i := 5) (v := undef) rfl (by kernel_rfl) (by kernel_rfl) (by kernel_rfl) (fun _ _ _ h => h) (Or.inr ⟨by rfl, rfl⟩) (by assumption) ?_
                          (try simp only [List.getElem_toArray, List.getElem_cons_zero, List.getElem_cons_succ, Act.put, List.setIfInBounds_toArray, List.set_cons_zero, List.set_cons_succ])
                          refine wpAnyH_take (i := 6) (v := undef) rfl (by kernel_rfl) (by kernel_rfl) (by kernel_rfl) (fun _ _ _ h => h) (Or.inr ⟨by rfl, rfl⟩) (by assumption) ?_
                          (try simp only [List.getElem_toArray, List.getElem_cons_zero, List.getElem_cons_succ, Act.put, List.setIfInBounds_toArray, List.set_cons_zero, List.set_cons_succ])
                          refine wpAnyH_take (i := 7) (v := undef) rfl (by kernel_rfl) (by kernel_rfl) (by kernel_rfl) (fun _ _ _ h => h) (Or.inr ⟨by rfl, rfl⟩) (by assumption) ?_
                          (try simp only [List.getElem_toArray, List.getElem_cons_zero, List.getElem_cons_succ, Act.put, List.setIfInBounds_toArray, List.set_cons_zero, List.set_cons_succ])
                          refine wpAnyH_take (i := 8) (v := undef) rfl (by kernel_rfl) (by kernel_rfl) (by kernel_rfl) (fun _ _ _ h => h) (Or.inr ⟨by rfl, rfl⟩) (by assumption) ?_
                          (try simp only [List.getElem_toArray, List.getElem_cons_zero, List.getElem_cons_succ, Act.put, List.setIfInBounds_toArray, List.set_cons_zero, List.set_cons_succ])
                          refine wpAnyH_take (i := 9) (v := undef) rfl (by kernel_rfl) (by kernel_rfl) (by kernel_rfl) (fun _ _ _ h => h) (Or.inr ⟨by rfl, rfl⟩) (by assumption) ?_
                          (try simp only [List.getElem_toArray, List.getElem_cons_zero, List.getElem_cons_succ, Act.put, List.setIfInBounds_toArray, List.set_cons_zero, List.set_cons_succ])
                          refine wpAnyH_take (i := 10) (v := undef) rfl (by kernel_rfl) (by kernel_rfl) (by kernel_rfl) (fun _ _ _ h => h) (Or.inr ⟨by rfl, rfl⟩) (by assumption) ?_
                          (try simp only [List.getElem_toArray, List.getElem_cons_zero, List.getElem_cons_succ, Act.put, List.setIfInBounds_toArray, List.set_cons_zero, List.set_cons_succ])
                          refine wpAnyH_take (i := 11) (v := undef) rfl (by kernel_rfl) (by kernel_rfl) (by kernel_rfl) (fun _ _ _ h => h) (Or.inr ⟨by rfl, rfl⟩) (by assumption) ?_
                          (try simp only [List.getElem_toArray, List.getElem_cons_zero, List.getElem_cons_succ, Act.put, List.setIfInBounds_toArray, List.set_cons_zero, List.set_cons_succ])
                          refine wpAnyH_take (i := 12) (v := undef) rfl (by kernel_rfl) (by kernel_rfl) (by kernel_rfl) (fun _ _ _ h => h) (Or.inr ⟨by rfl, rfl⟩) (by assumption) ?_
                          (try simp only [List.getElem_toArray, List.getElem_cons_zero, List.getElem_cons_succ, Act.put, List.setIfInBounds_toArray, List.set_cons_zero, List.set_cons_succ])
                          refine wpAnyH_take (i := 13) (v := undef) rfl (by kernel_rfl) (by kernel_rfl) (by kernel_rfl) (fun _ _ _ h => h) (Or.inr ⟨by rfl, rfl⟩) (by assumption) ?_
                          (try simp only [List.getElem_toArray, List.getElem_cons_zero, List.getElem_cons_succ, Act.put, List.setIfInBounds_toArray, List.set_cons_zero, List.set_cons_succ])
                          refine wpAnyH_take (i := 14) (v := undef) rfl (by kernel_rfl) (by kernel_rfl) (by kernel_rfl) (fun _ _ _ h => h) (Or.inr ⟨by rfl, rfl⟩) (by assumption) ?_
                          (try simp only [List.getElem_toArray, List.getElem_cons_zero, List.getElem_cons_succ, Act.put, List.setIfInBounds_toArray, List.set_cons_zero, List.set_cons_succ])
                          refine wpAnyH_take (i := 15) (v := undef) rfl (by kernel_rfl) (by kernel_rfl) (by kernel_rfl) (fun _ _ _ h => h) (Or.inr ⟨by rfl, rfl⟩) (by assumption) ?_
                          (try simp only [List.getElem_toArray, List.getElem_cons_zero, List.getElem_cons_succ, Act.put, List.setIfInBounds_toArray, List.set_cons_zero, List.set_cons_succ])
                          refine wpAnyH_take (i := 16) (v := undef) rfl (by kernel_rfl) (by kernel_rfl) (by kernel_rfl) (fun _ _ _ h => h) (Or.inr ⟨by rfl, rfl⟩) (by assumption) ?_
                          (try simp only [List.getElem_toArray, List.getElem_cons_zero, List.getElem_cons_succ, Act.put, List.setIfInBounds_toArray, List.set_cons_zero, List.set_cons_succ])
                          refine wpAnyH_take (i := 17) (v := undef) rfl (by kernel_rfl) (by kernel_rfl) (by kernel_rfl) (fun _ _ _ h => h) (Or.inr ⟨by rfl, rfl⟩) (by assumption) ?_
                          (try simp only [List.getElem_toArray, List.getElem_cons_zero, List.getElem_cons_succ, Act.put, List.setIfInBounds_toArray, List.set_cons_zero, List.set_cons_succ])
                          refine wpAnyH_take (i := 18) (v := undef) rfl (by kernel_rfl) (by kernel_rfl) (by kernel_rfl) (fun _ _ _ h => h) (Or.inr ⟨by rfl, rfl⟩) (by assumption) ?_
                          (try simp only [List.getElem_toArray, List.getElem_cons_zero, List.getElem_cons_succ, Act.put, List.setIfInBounds_toArray, List.set_cons_zero, List.set_cons_succ])
                          refine wpAnyH_take (i := 19) (v := undef) rfl (by kernel_rfl) (by kernel_rfl) (by kernel_rfl) (fun _ _ _ h => h) (Or.inr ⟨by rfl, rfl⟩) (by assumption) ?_
                          (try simp only [List.getElem_toArray, List.getElem_cons_zero, List.getElem_cons_succ, Act.put, List.setIfInBounds_toArray, List.set_cons_zero, List.set_cons_succ])
                          refine wpAnyH_take (i := 20) (v := undef) rfl (by kernel_rfl) (by kernel_rfl) (by kernel_rfl) (fun _ _ _ h => h) (Or.inr ⟨by rfl, rfl⟩) (by assumption) ?_
                          (try simp only [List.getElem_toArray, List.getElem_cons_zero, List.getElem_cons_succ, Act.put, List.setIfInBounds_toArray, List.set_cons_zero, List.set_cons_succ])
                          refine wpAnyH_take (i := 21) (v := ?_) rfl (by kernel_rfl) (by kernel_rfl) (by kernel_rfl) (fun _ _ _ h => h) (Or.inl ⟨by rfl, ?_⟩) (by assumption) ?_
                          rotate_left
                          focus (intro w hSw; (try dsimp only at hSw); go_simp; first | done | with_reducible rfl)
                          (try simp only [List.getElem_toArray, List.getElem_cons_zero, List.getElem_cons_succ, Act.put, List.setIfInBounds_toArray, List.set_cons_zero, List.set_cons_succ])
                          refine wpAnyH_take (i := 22) (v := ?_) rfl (by kernel_rfl) (by kernel_rfl) (by kernel_rfl) (fun _ _ _ h => h) (Or.inl ⟨by rfl, ?_⟩) (by assumption) ?_
                          rotate_left
                          focus (intro w hSw; (try dsimp only at hSw); go_simp; first | done | with_reducible rfl)
                          (try simp only [List.getElem_toArray, List.getElem_cons_zero, List.getElem_cons_succ, Act.put, List.setIfInBounds_toArray, List.set_cons_zero, List.set_cons_succ])
                          refine wpAnyH_done (by kernel_rfl) ?_ _
                          go_wp2_with fail
                          go_roundw
                          case rel => exact ⟨j + 1, by omega, by omega, congrArg Value.bool (by rw [HOS.out]; simp), by go_num, HKJ.out.drew⟩
                          case measure => simp [intOf]; omega
                      · have hbt : okF x y i F2 j = true := okF_mono j (by have := HKN.out; have := HK2.out; omega) HOK.out
                        rw [hbt]
                        clear hbt
                        rcases (by omega : (j < n2 ∧ j = 20) ∨ ¬ j < n2) with ⟨hlt1, hlt2⟩ | hlt1
                        · subst hlt2
                          have g1 : (20 : Int) < (n2 : Int) := by omega
                          go_wp2_with fail
                          go_roundw
                          case rel => exact ⟨o + 1, by omega, by go_num, HKJ.out⟩
                          case measure => simp [intOf]; omega
                        · have g1 : ¬ (j : Int) < (n2 : Int) := by omega
                          go_wp2_with fail
                          go_roundw
                          case rel => exact ⟨o + 1, by omega, by go_num, HKJ.out⟩
                          case measure => simp [intOf]; omega
                  · obtain rfl : o = 128 := by omega
                    go_wp2_with fail
                    go_roundw
                    case rel => exact ⟨i + 1, by omega, by go_num, K8.out.trans HKO.out⟩
                    case measure => simp [intOf]; omega
            · obtain rfl : i = 4 := by omega
              go_wp2_with (go_at_call 15; refine (AW.out _).mono ?_; rintro e w10 ⟨rfl, kA⟩)
              go_ret
              exact ⟨rfl, K7.out.trans (HK.out.trans kA)⟩
theorem keeps_at {w : World} (n : Nat) (F : Nat → Ac) (v : Value) (hA : Acts w v n F) (n2 : Nat) (F2 : Nat → Ac) (v2 : Value) (hA2 : Acts w v2 n2 F2) (L : List Int) (vf : Value) (hL : Ints w vf L) (_ : World) :
    Calls Try.prog 3 #[v, v2, vf] w fun e w' => e = .returned (.bool true) ∧ Kept w w' := keeps_any n F v hA n2 F2 v2 hA2 L vf hL
end Go.Proofs.Ytpbmkokjjcdhfaa
