/- Both devices are the same. -/
import Derived.Test.Ytpbmkokjjcdhfaa4ZF
namespace Go.Proofs.Ytpbmkokjjcdhfaa
set_option linter.unusedSimpArgs false
set_option linter.unusedVariables false
open Go.RowKit

theorem quiet_c {f : FuncId} {args : Array Value} {w : World} {n : Nat} {v : Value} (h : Calls Try.prog f args (w.drewN n) fun e w' => e = .returned v ∧ w.drewN n = w') : Calls Try.prog f args (w.drewN n) fun e w'' => e = .returned v ∧ ∃ m, w'' = w.drewN m :=
  Calls.quiet_of_same (h.mono fun _ _ p => ⟨p.1, p.2.symm⟩)
section
variable {w : World} {B B2 : Nat} {h : DH} {r : RH} {S : DS}
set_option maxRecDepth 100000 in
set_option maxHeartbeats 4000000 in
theorem same_any (w : World) (d : DevAt w B h S) (rr : RefAt w B2 r S) (hpl : S.pend.length ≤ 1000) :
    Calls Try.prog 31 #[.pointer (some ⟨h.P, 0, none⟩), .pointer (some ⟨r.P, 0, none⟩)] w fun e w' => e = .returned (.bool true) ∧ Kept w w' := by
  have HW := hid (waits_any w d hpl)
  have HD := hid d
  have HR := hid rr
  have hn1 := d.ok.n1
  have hn2 := d.ok.n2
  obtain ⟨AL, cL, hvL, hnc, hcm⟩ := row_len rr.hL
  obtain ⟨gH, cH, hvH, hnH, hcH⟩ := row_some rr.hH (by omega)
  have c0 := rr.c0
  have c2 := rr.c2
  have c4 := rr.c4
  have c5 := rr.c5
  rw [hvH] at c0
  rw [hvL] at c2
  obtain ⟨np, hnp⟩ : ∃ np, np = S.pend.length := ⟨_, rfl⟩
  rw [← hnp] at hnc c2 hpl
  have HNP := hid hnp; have HVL := hid hvL; have HVH := hid hvH
  have HCP := hid (show (S.pow == !S.pow) = false by cases S.pow <;> rfl)
  have HCM := hid (show (S.mnt == !S.mnt) = false by cases S.mnt <;> rfl)
  have HS1 := hid (fun (w' : World) (d' : DevAt w' B h S) => size_any w' d')
  have HS2 := hid (fun (w' : World) (d' : DevAt w' B h S) => power_any w' d')
  have HS3 := hid (fun (w' : World) (d' : DevAt w' B h S) => mounted_any w' d')
  clear hnp hvL hvH d rr
  go_enter Try.func31, Try.ntmps31
  go_wp2_with (go_at_call 21; refine HW.out.mono ?_; rintro e w1 ⟨v, rfl, hI, k1⟩; have HI := hid hI; have K1 := hid k1; clear hI k1)
  obtain ⟨AW, cW, hvw⟩ := HI.out.shape
  have hwl : (waitL S).length = np := by rw [waitL, List.length_map, HNP.out]
  have HWL := hid hwl
  rw [hwl] at hvw
  subst hvw
  obtain ⟨-, hw1, hw2⟩ := HI.out.len
  have e0 := K1.out.keeps c0
  have e2 := K1.out.keeps c2
  have e4 := K1.out.keeps c4
  have e5 := K1.out.keeps c5
  have D1 := hid (K1.out.dev HD.out)
  have cp := HCP.out
  have cm := HCM.out
  clear hwl
  generalize hpw : S.pow = pw at *
  generalize hmn : S.mnt = mn at *
  clear hpw hmn
  go_quiet (first
    | (go_at_call 40; exact quiet_c (HS1.out _ (((Kept.refl w1).drewN _).dev D1.out)))
    | (go_at_call 19; exact quiet_c (HS2.out _ (((Kept.refl w1).drewN _).dev D1.out)))
    | (go_at_call 41; exact quiet_c (HS3.out _ (((Kept.refl w1).drewN _).dev D1.out))))
  have K2 := hid (K1.out.trans ((Kept.refl w1).drewN nq))
  have I2 := hid (((Kept.refl w1).drewN nq).ints HI.out)
  have cc0 := K2.out.keeps c0
  have cc2 := K2.out.keeps c2
  clear e0 e2 e4 e5 c4 c5 cp cm c0 c2 D1 K1 HI
  generalize w1.drewN nq = wa at *
  go_wp2_with fail
  go_loopw [6] (fun t wr => ∃ k : Nat, k ≤ np ∧ t = .int .i64 k ∧ Kept wa wr) (fun t _ => np - (intOf t).toNat)
  case atStart => exact ⟨0, by omega, rfl, Kept.refl _⟩
  case round =>
    obtain ⟨k, hk, rfl, hkr⟩ := hrel
    have HK := hid hkr
    have e0 := hkr.keeps cc0
    have e2 := hkr.keeps cc2
    have IR := hid (hkr.ints I2.out)
    clear hkr
    by_cases hlt : k < np
    · have hkl : k < S.pend.length := by rw [← HNP.out]; exact hlt
      obtain ⟨g, c, hv, -, -, l0, l1⟩ := (HK.out.ref (K2.out.ref HR.out)).atL k hkl
      rw [HVL.out, ← HNP.out] at hv
      injection hv with eA _ ec
      subst eA; subst ec
      obtain ⟨b, o, rfl, hc⟩ := IR.out.cells (by omega)
      have hx := hc k hlt
      have hwx : (waitL S).getD k 0 = ((S.pend[k]).1 : Int) := by
        rw [waitL, List.getD_eq_getElem?_getD, List.getElem?_map, List.getElem?_eq_getElem hkl]; rfl
      rw [hwx] at hx
      clear hwx hc l1
      generalize ((S.pend[k]).1 : Int) = x at *
      have q0 : (0 : Int) ≤ (k : Int) := by omega
      have q1 : (k : Int) < (np : Int) := by omega
      go_wp2_with fail
      go_quiet (fail)
      go_wp2_with fail
      go_roundw
      case rel => exact ⟨k + 1, by omega, by go_num, HK.out.trans ((Kept.refl wr).drewN nq)⟩
      case measure => simp [intOf]; omega
    · obtain rfl : k = np := by omega
      have hlt2 : ¬ (k : Int) < (k : Int) := by omega
      have KB := hid (K2.out.trans HK.out)
      have D2 := hid (KB.out.dev HD.out)
      have R2 := hid (KB.out.ref HR.out)
      have HHA := hid (fun (i : Int) (w' : World) (d' : DevAt w' B h S) => has_any i w' d')
      clear HS1 HS2 HS3 HW HCP HCM HK IR e0 e2 cc0 cc2 K2 I2 HWL hlt
      go_wp2_with fail
      obtain ⟨wb, hwb⟩ : ∃ wb, wb = wr := ⟨_, rfl⟩
      rw [← hwb] at KB D2 R2 ⊢
      clear hwb
      go_loopw [7, 8, 9] (fun t _ _ ws => ∃ i : Nat, i ≤ S.n ∧ i ≤ 400 ∧ t = .int .i64 i ∧ Kept wb ws) (fun t _ _ _ => S.n - (intOf t).toNat)
      case atStart => exact ⟨0, by omega, by omega, rfl, Kept.refl _⟩
      case round =>
        obtain ⟨i, hi, hi4, rfl, hks⟩ := hrel
        have HK := hid hks
        have e0 := (hks.ref R2.out).c0
        rw [HVH.out] at e0
        clear hks
        by_cases hlt : i < S.n ∧ i < 400
        · obtain ⟨hlt, hlt4⟩ := hlt
          have DS' := hid (HK.out.dev D2.out)
          have RS := hid (HK.out.ref R2.out)
          have hb1 : isB S.n (i : Int) = true := by simp [isB]; omega
          have HHE := hid (show hasE S i = 0 by rw [hasE, hb1]; rfl)
          have HHL := hid (show hasL S i = S.blk i by rw [hasL, hb1, if_pos rfl]; rfl)
          have HBL := hid (DS'.out.ok.blk i hlt)
          have HC := hid (HHA.out (i : Int) _ DS'.out)
          rw [HHE.out, HHL.out] at HC
          have HCV := hid (fun (w' : World) (g : Nat) (ob : OBlk w' g 65 (S.blk i)) => conv_blk (n := 128) (S.blk i) HBL.out ob.range 128)
          have q0 : (0 : Int) ≤ (i : Int) := by omega
          have q1 : (i : Int) < (S.n : Int) := by omega
          have q2 : (i : Int) < 400 := by omega
          clear hb1 HHE HHL
          go_wp2_with (go_at_call 18; refine HC.out.mono ?_; rintro e w3 ⟨vb, rfl, hb, k3⟩; obtain ⟨gb, rfl, ob, lb⟩ := bout_some hb (by intro e; have := HBL.out; rw [e] at this; cases this); have K3 := hid (HK.out.trans k3); have hcv := (fun nq => HCV.out (w3.drewN nq) _ ob); have R3 := hid (K3.out.ref R2.out); have c0 := k3.keeps e0; obtain ⟨gH2, cH2, hv2, -, -, hx, -⟩ := R3.out.atH i hlt; rw [HVH.out] at hv2; injection hv2 with e2 _ e3; simp only [Option.some.injEq, Addr.mk.injEq, and_true] at e2; subst e2; subst e3; have hx2 := hx i hlt; clear ob lb hb k3 hx)
          clear HC HCV
          generalize bstr (S.blk i) = ts at *
          go_quiet (fail)
          go_wp2_with fail
          go_roundw
          case rel => exact ⟨i + 1, by omega, by omega, by go_num, K3.out.trans ((Kept.refl _).drewN nq)⟩
          case measure => simp [intOf]; omega
        · by_cases h1 : i < S.n
          · have q1 : (i : Int) < (S.n : Int) := by omega
            have q2 : decide ((i : Int) < 400) = false := decide_eq_false (by omega)
            clear hlt
            go_wp2
            go_ret
            exact ⟨rfl, KB.out.trans HK.out⟩
          · have q1 : decide ((i : Int) < (S.n : Int)) = false := decide_eq_false (by omega)
            clear hlt
            go_wp2
            go_ret
            exact ⟨rfl, KB.out.trans HK.out⟩
end
end Go.Proofs.Ytpbmkokjjcdhfaa
