/- HaymowNames: the walk. -/
import Derived.Test.YtiiogglflpladaaDoorMQ
import Derived.StillTailTactics
import Derived.Deep.DeepCutAuto
namespace Go.Proofs.YtiiogglflpladaaDoor
set_option linter.unusedSimpArgs false
set_option linter.unusedVariables false
open Go.RowKit

/-- what is kept from round to round -/
structure Nst (w : World) (H : Nat) (T : List (List UInt8)) (lv : Value) (i : Nat) (L : List En) (f : Fl) (wr : World) : Prop where
  le : i ≤ 30
  row : wr.ownsRow (H + 1) 32 3 lv L.length (ecells L)
  box : ∃ vp, CB wr H 26 [.int .i64 ((encL L).length : Int), vp] ∧ OPc wr (H + 1) vp f.L
  lst : Lst T i L f
  kept : Kept w wr
set_option maxRecDepth 100000 in
set_option maxHeartbeats 8000000 in
theorem names_walk {w : World} (ht : Tab w) (hT : HTab w) (A : Option Addr) (n c : Nat) (T : List (List UInt8)) (hX : Texts w A n T) :
    Calls Tryd.prog 3 #[.slice A n c] w fun e w' => e = .returned (.bool true) ∧ Kept w w' := by
  have HT := hid ht; have HH := hid hT; have HX := hid hX
  clear ht hT hX
  go_enter Tryd.func3, Tryd.ntmps3
  go_upto_block 0 with fail
  obtain ⟨H, hH⟩ : ∃ H, w.heap.size = H := ⟨_, rfl⟩
  have N0 := hid (show Nst w H T (.slice none 0 0) 0 [] ⟨0, []⟩ (w.alloc (.cells #[.int .i64 0, .slice none 0 0] 26)) from
    ⟨by omega, World.ownsRow_nil _ _ _ _, ⟨_, by rw [← hH]; exact cb_new w 26 [.int .i64 0, .slice none 0 0], opc_nil _ _⟩, lst_0 T, (Kept.refl w).alloc _⟩)
  rw [hH]
  generalize (w.alloc (.cells #[.int .i64 0, .slice none 0 0] 26)) = w0 at *
  have HHs := hid hH
  clear hH
  go_cut [3] (fun lv wr => ∃ i L f, Nst w H T lv i L f wr ∧ (i = n ∨ i = 30))
  case first =>
    --CASE1
    go_wp2_with fail
    go_loopw [3, 5] (fun lv t wr => ∃ i L f v0, t = .int .i64 (i : Nat) ∧ v0 = lv ∧ i ≤ n ∧ Nst w H T v0 i L f wr) (fun _ t _ => 30 - (intOf t).toNat)
    case atStart => exact ⟨0, [], _, _, rfl, rfl, by omega, N0.out⟩
    case round =>
      obtain ⟨i, L, f, lv, rfl, rfl, hin, hst⟩ := hrel
      have ST := hid hst
      have hle := hst.le
      clear hst N0
      have e0 : (0 : Int) ≤ (i : Int) := by omega
      by_cases e1 : (i : Int) < (n : Int)
      · by_cases e2 : (i : Int) < 30
        · obtain ⟨s, hs⟩ : ∃ s, T[i]? = some s := ⟨_, List.getElem?_eq_getElem (by rw [HX.out.1]; omega)⟩
          obtain ⟨b, o, rfl, hcs⟩ := HX.out.2 (by omega)
          have hc0 := ST.out.kept.keeps (hcs i s hs)
          have HS := hid hs
          have hss : (bstr s).size = s.length := bstr_size s
          have hpl : (part s).length ≤ 60 := by rw [part, List.length_take]; omega
          have HFI := hid (fun w' => fit_any (part s) (by omega) w')
          obtain ⟨q, hq⟩ : ∃ q, bstr (fitL (part s)) = q := ⟨_, rfl⟩
          rw [hq] at HFI
          have HQ := hid (show bstr (nm s) = q from hq)
          have h1i : IntKind.i64.wrap (1 + (i : Int)) = 1 + (i : Int) := by rw [IntKind.wrap_i64]; omega
          obtain ⟨t, htx⟩ : ∃ t, bstr (part s) = t := ⟨_, rfl⟩
          rw [htx] at HFI
          clear hcs hs hq hpl
          by_cases hlen : s.length ≤ 60
          · have hpe : bstr s = t := by rw [← htx, part, List.take_of_length_le hlen]
            have hl60 : ((s.length : Nat) : Int) ≤ 60 := by omega
            rw [hpe] at hc0 hss
            clear htx hpe hlen
            generalize s.length = sl at *
            cases hh : hasN L (nm s) with
            | true =>
              have HAD := hid (fun (w' : World) (k : Kept wr w') => add_there lv L ⟨nm s, 1 + (i : Int)⟩ w' (k.ents (ents_own ST.out.row)) ST.out.lst.v (nm_name s) (by dsimp only; omega) (by dsimp only; omega) hh)
              dsimp only at HAD
              rw [HQ.out] at HAD
              have HHN := hid hh
              clear hh
              go_wp2_with (first
                | (go_at_call 5; (with_reducible refine (HFI.out _).mono ?_); rintro e w1 ⟨rfl, k1⟩)
                | (go_at_call 4; (with_reducible refine (HAD.out _ k1).mono ?_); rintro e w2 ⟨rfl, k2⟩))
              go_roundw
              case rel =>
                obtain ⟨vp, b1, b2⟩ := ST.out.box
                exact ⟨i + 1, L, f, _, by go_num, rfl, by omega, ⟨by omega, (k1.trans k2).row ST.out.row, ⟨vp, (k1.trans k2).cb b1, (k1.trans k2).opc b2⟩, ST.out.lst.same HS.out HHN.out, ST.out.kept.trans (k1.trans k2)⟩⟩
              case measure => simp [intOf]; omega
            | false =>
              obtain ⟨v1, v2, v3, v4⟩ := ST.out.lst.enc (by omega) hh
              have HNX := hid (ST.out.lst.next (by omega) HS.out hh)
              have HAD := hid (fun (w' : World) (k : Kept wr w') => add_new lv L ⟨nm s, 1 + (i : Int)⟩ w' (k.ents (ents_own ST.out.row)) ST.out.lst.v (nm_name s) (by dsimp only; omega) (by dsimp only; omega) hh (by have := ST.out.lst.n; omega))
              dsimp only at HAD
              rw [HQ.out] at HAD
              have HIL := hid (insE_len L ⟨nm s, 1 + (i : Int)⟩)
              obtain ⟨L', hL'⟩ : ∃ L', insE L ⟨nm s, 1 + (i : Int)⟩ = L' := ⟨_, rfl⟩
              rw [hL'] at v1 v2 v3 v4 HNX HAD HIL
              have HEN := hid (fun (vv : Value) (w' : World) (h : Ents w' vv L') => encode_any vv L' w' h v1)
              obtain ⟨vp, b1, b2⟩ := ST.out.box
              have HB1 := hid b1; have HB2 := hid b2
              obtain ⟨m, hm⟩ : ∃ m, (encL L').length = m := ⟨_, rfl⟩
              rw [hm] at v3 v4 HNX
              have HCU := hid (fun (w' : World) (hP : Pcs w' vp f.L) => ncut f (encL L) ST.out.lst.f vp _ ST.out.lst.f.s m v3 v4 w' hP)
              have HWR := hid (fun (v vb : Value) (w' : World) (hP : Pcs w' v (cutF f m).L) (hB : Byts w' vb (encL L')) => nwrite f (encL L) (encL L') ST.out.lst.f v2 (by rw [hm]; exact v3) (by rw [hm]; exact v4) m hm v vb w' hP hB)
              have HM := hid hm
              have c0 := b1.cell 0 (by simp); have c1 := b1.cell 1 (by simp)
              simp only [List.getElem_cons_zero, List.getElem_cons_succ] at c0 c1
              have hHlt := b1.lt
              have c00 := c0; have c01 := c1
              generalize (((encL L).length : Nat) : Int) = szo at *
              clear hh hL' hm v1 v2 v3 v4 b1 b2
              go_wp2_with (first
                | (go_at_call 5; (with_reducible refine (HFI.out _).mono ?_); rintro e w1 ⟨rfl, k1⟩)
                | (go_at_call 4; (with_reducible refine (HAD.out _ k1).mono ?_); rintro e w2 ⟨v2, rfl, r2, k2⟩; have E2 := hid (ents_own r2); have K2 := hid (k1.trans k2); have R2 := hid r2; have B2 := hid k1.size; clear k1 k2 r2)
                | (go_at_call 6; (with_reducible refine (HEN.out _ _ E2.out).mono ?_); rintro e w3 ⟨vb, rfl, hB, k3⟩; obtain ⟨A3, c3, rfl⟩ := hB.shape; (rw [HM.out] at hB ⊢); have HB3 := hid hB; have K3 := hid (K2.out.trans k3); have R3 := hid (k3.row R2.out); have c0 := K3.out.keeps c0; have c1 := K3.out.keeps c1; clear hB k3)
                | (go_at_call 7; (with_reducible refine (HCU.out _ (K3.out.opc HB2.out).pcs).mono ?_); rintro e w4 ⟨A4, n4, c4, x4, y4, z4, rfl, hP, k4⟩; have P4 := hid hP; have K34 := hid k4; clear hP k4)
                | (go_at_call 8; (with_reducible refine (HWR.out _ _ _ (((Kept.refl w4).alloc _).pcs P4.out) ((K34.out.alloc _).byts HB3.out)).mono ?_); rintro e w5 ⟨A5, n5, c5, x5, y5, z5, rfl, hO, k5⟩; have K35 := hid ((K34.out.alloc _).trans k5); have O5 := hid hO; have K5 := hid (K3.out.trans K35.out); have B5 := hid (K5.out.cb HB1.out); have c0 := K5.out.keeps c00; have c1 := K5.out.keeps c01; have f0 := B5.out.frozen 0; have f1 := B5.out.frozen 1; have hs5 := hid (show w4.heap.size ≤ (w4.alloc (.cells #[.int .i64 (m : Int), .slice A4 n4 c4] 26)).heap.size from ((Kept.refl w4).alloc _).size); clear hO k5))
              have R5 := hid (K35.out.row R3.out)
              go_roundw
              case rel =>
                have hlo : H + 1 ≤ w1.heap.size := by have := B2.out; omega
                have hz : Kept w5 (w5.alloc (.cells #[.int .i64 (m : Int), .slice A5 n5 c5] 26)) := (Kept.refl w5).alloc _
                have cb := CB.set (CB.set (hz.cb B5.out) 0 (.int .i64 (m : Int))) 1 (.slice A5 n5 c5)
                refine ⟨i + 1, L', wrF (cutF f m) 0 (encL L'), _, by go_num, rfl, by omega, ⟨by omega, ?_, ⟨.slice A5 n5 c5, ?_, ?_⟩, HNX.out, ?_⟩⟩
                · rw [HIL.out]
                  exact row_low (row_low (hz.row (ownsRow_base R5.out hlo)) (Nat.lt_succ_self _) _) (Nat.lt_succ_self _) _
                · rw [HM.out]; simpa using cb
                · have h1 : H + 1 ≤ (w4.alloc (.cells #[.int .i64 (m : Int), .slice A4 n4 c4] 26)).heap.size := by
                    have h2 := hs5.out
                    have h3 := K3.out.size
                    have h4 := K34.out.size
                    omega
                  exact ((hz.opc (opc_low O5.out h1)).setLow (Nat.lt_succ_self _) _).setLow (Nat.lt_succ_self _) _
                · exact ((((ST.out.kept.trans K5.out).trans hz).setCell (by rw [HHs.out]; exact Nat.le_refl _) _).setCell (by rw [HHs.out]; exact Nat.le_refl _) _)
              case measure => simp [intOf]; omega
          · have hex : (bstr s).extract 0 60 = t := by rw [bstr_take, ← htx]; rfl
            have hl60 : (60 : Int) < ((s.length : Nat) : Int) := by omega
            generalize bstr s = bs at *
            generalize s.length = sl at *
            clear htx hlen
            cases hh : hasN L (nm s) with
            | true =>
              have HAD := hid (fun (w' : World) (k : Kept wr w') => add_there lv L ⟨nm s, 1 + (i : Int)⟩ w' (k.ents (ents_own ST.out.row)) ST.out.lst.v (nm_name s) (by dsimp only; omega) (by dsimp only; omega) hh)
              dsimp only at HAD
              rw [HQ.out] at HAD
              have HHN := hid hh
              clear hh
              go_wp2_with (first
                | (go_at_call 5; (with_reducible refine (HFI.out _).mono ?_); rintro e w1 ⟨rfl, k1⟩)
                | (go_at_call 4; (with_reducible refine (HAD.out _ k1).mono ?_); rintro e w2 ⟨rfl, k2⟩))
              go_roundw
              case rel =>
                obtain ⟨vp, b1, b2⟩ := ST.out.box
                exact ⟨i + 1, L, f, _, by go_num, rfl, by omega, ⟨by omega, (k1.trans k2).row ST.out.row, ⟨vp, (k1.trans k2).cb b1, (k1.trans k2).opc b2⟩, ST.out.lst.same HS.out HHN.out, ST.out.kept.trans (k1.trans k2)⟩⟩
              case measure => simp [intOf]; omega
            | false =>
              obtain ⟨v1, v2, v3, v4⟩ := ST.out.lst.enc (by omega) hh
              have HNX := hid (ST.out.lst.next (by omega) HS.out hh)
              have HAD := hid (fun (w' : World) (k : Kept wr w') => add_new lv L ⟨nm s, 1 + (i : Int)⟩ w' (k.ents (ents_own ST.out.row)) ST.out.lst.v (nm_name s) (by dsimp only; omega) (by dsimp only; omega) hh (by have := ST.out.lst.n; omega))
              dsimp only at HAD
              rw [HQ.out] at HAD
              have HIL := hid (insE_len L ⟨nm s, 1 + (i : Int)⟩)
              obtain ⟨L', hL'⟩ : ∃ L', insE L ⟨nm s, 1 + (i : Int)⟩ = L' := ⟨_, rfl⟩
              rw [hL'] at v1 v2 v3 v4 HNX HAD HIL
              have HEN := hid (fun (vv : Value) (w' : World) (h : Ents w' vv L') => encode_any vv L' w' h v1)
              obtain ⟨vp, b1, b2⟩ := ST.out.box
              have HB1 := hid b1; have HB2 := hid b2
              obtain ⟨m, hm⟩ : ∃ m, (encL L').length = m := ⟨_, rfl⟩
              rw [hm] at v3 v4 HNX
              have HCU := hid (fun (w' : World) (hP : Pcs w' vp f.L) => ncut f (encL L) ST.out.lst.f vp _ ST.out.lst.f.s m v3 v4 w' hP)
              have HWR := hid (fun (v vb : Value) (w' : World) (hP : Pcs w' v (cutF f m).L) (hB : Byts w' vb (encL L')) => nwrite f (encL L) (encL L') ST.out.lst.f v2 (by rw [hm]; exact v3) (by rw [hm]; exact v4) m hm v vb w' hP hB)
              have HM := hid hm
              have c0 := b1.cell 0 (by simp); have c1 := b1.cell 1 (by simp)
              simp only [List.getElem_cons_zero, List.getElem_cons_succ] at c0 c1
              have hHlt := b1.lt
              have c00 := c0; have c01 := c1
              generalize (((encL L).length : Nat) : Int) = szo at *
              clear hh hL' hm v1 v2 v3 v4 b1 b2
              go_wp2_with (first
                | (go_at_call 5; (with_reducible refine (HFI.out _).mono ?_); rintro e w1 ⟨rfl, k1⟩)
                | (go_at_call 4; (with_reducible refine (HAD.out _ k1).mono ?_); rintro e w2 ⟨v2, rfl, r2, k2⟩; have E2 := hid (ents_own r2); have K2 := hid (k1.trans k2); have R2 := hid r2; have B2 := hid k1.size; clear k1 k2 r2)
                | (go_at_call 6; (with_reducible refine (HEN.out _ _ E2.out).mono ?_); rintro e w3 ⟨vb, rfl, hB, k3⟩; obtain ⟨A3, c3, rfl⟩ := hB.shape; (rw [HM.out] at hB ⊢); have HB3 := hid hB; have K3 := hid (K2.out.trans k3); have R3 := hid (k3.row R2.out); have c0 := K3.out.keeps c0; have c1 := K3.out.keeps c1; clear hB k3)
                | (go_at_call 7; (with_reducible refine (HCU.out _ (K3.out.opc HB2.out).pcs).mono ?_); rintro e w4 ⟨A4, n4, c4, x4, y4, z4, rfl, hP, k4⟩; have P4 := hid hP; have K34 := hid k4; clear hP k4)
                | (go_at_call 8; (with_reducible refine (HWR.out _ _ _ (((Kept.refl w4).alloc _).pcs P4.out) ((K34.out.alloc _).byts HB3.out)).mono ?_); rintro e w5 ⟨A5, n5, c5, x5, y5, z5, rfl, hO, k5⟩; have K35 := hid ((K34.out.alloc _).trans k5); have O5 := hid hO; have K5 := hid (K3.out.trans K35.out); have B5 := hid (K5.out.cb HB1.out); have c0 := K5.out.keeps c00; have c1 := K5.out.keeps c01; have f0 := B5.out.frozen 0; have f1 := B5.out.frozen 1; have hs5 := hid (show w4.heap.size ≤ (w4.alloc (.cells #[.int .i64 (m : Int), .slice A4 n4 c4] 26)).heap.size from ((Kept.refl w4).alloc _).size); clear hO k5))
              have R5 := hid (K35.out.row R3.out)
              go_roundw
              case rel =>
                have hlo : H + 1 ≤ w1.heap.size := by have := B2.out; omega
                have hz : Kept w5 (w5.alloc (.cells #[.int .i64 (m : Int), .slice A5 n5 c5] 26)) := (Kept.refl w5).alloc _
                have cb := CB.set (CB.set (hz.cb B5.out) 0 (.int .i64 (m : Int))) 1 (.slice A5 n5 c5)
                refine ⟨i + 1, L', wrF (cutF f m) 0 (encL L'), _, by go_num, rfl, by omega, ⟨by omega, ?_, ⟨.slice A5 n5 c5, ?_, ?_⟩, HNX.out, ?_⟩⟩
                · rw [HIL.out]
                  exact row_low (row_low (hz.row (ownsRow_base R5.out hlo)) (Nat.lt_succ_self _) _) (Nat.lt_succ_self _) _
                · rw [HM.out]; simpa using cb
                · have h1 : H + 1 ≤ (w4.alloc (.cells #[.int .i64 (m : Int), .slice A4 n4 c4] 26)).heap.size := by
                    have h2 := hs5.out
                    have h3 := K3.out.size
                    have h4 := K34.out.size
                    omega
                  exact ((hz.opc (opc_low O5.out h1)).setLow (Nat.lt_succ_self _) _).setLow (Nat.lt_succ_self _) _
                · exact ((((ST.out.kept.trans K5.out).trans hz).setCell (by rw [HHs.out]; exact Nat.le_refl _) _).setCell (by rw [HHs.out]; exact Nat.le_refl _) _)
              case measure => simp [intOf]; omega
        · have hst := ST.out
          clear ST
          go_wp2_with fail
          go_meet
          exact ⟨i, L, f, hst, by omega⟩
      · have hst := ST.out
        clear ST
        go_wp2_with fail
        go_meet
        exact ⟨i, L, f, hst, by omega⟩
    --END1
  case rest =>
  obtain ⟨i, L, f, hst, hi⟩ := hcut
  rename_i lv wr
  have ST := hid hst
  have hle := hst.le
  have hLn := hst.lst.n
  have hBl : (encL L).length ≤ 2000 := by
    have := encL_le L fun e he => (hst.lst.v.all e he).1
    have := hst.lst.v.len
    omega
  obtain ⟨vp, b1, b2⟩ := hst.box
  have HNP := hid hst.lst.f.n
  obtain ⟨Ap, cp, rfl⟩ := b2.pcs.shape
  obtain ⟨np, hnp⟩ : ∃ np, f.L.length = np := ⟨_, rfl⟩
  rw [hnp] at b1 b2 HNP
  have HB2 := hid b2
  have c0 := b1.cell 0 (by simp); have c1 := b1.cell 1 (by simp)
  simp only [List.getElem_cons_zero, List.getElem_cons_succ] at c0 c1
  have HRD := hid (fun (w' : World) (hP : Pcs w' (.slice Ap np cp) f.L) => nread f (encL L) ST.out.lst.f hBl (.slice Ap np cp) _ ST.out.lst.f.s w' hP)
  have HDE := hid (fun (vb : Value) (w' : World) (hB : Byts w' vb (encL L)) => decode_any vb L w' hB ST.out.lst.v)
  obtain ⟨m, hm⟩ : ∃ m, (encL L).length = m := ⟨_, rfl⟩
  rw [hm] at c0 HRD hBl HNP
  have HM := hid hm
  have HSZ := hid (fun (w' : World) => size_any (m : Int) (by omega) w')
  rw [← HNP.out] at HSZ
  clear hst b1 b2 hm N0 hnp
  --CASE2
  go_upto_region 22 with (first
    | (go_at_call 9; (with_reducible refine (HRD.out _ HB2.out.pcs).mono ?_); rintro e w1 ⟨vb, rfl, hB, k1⟩; obtain ⟨A1, c1', rfl⟩ := hB.shape; (rw [HM.out] at hB ⊢); have HBY := hid hB; have K1 := hid k1; clear hB k1)
    | (go_at_call 10; (with_reducible refine (HDE.out _ _ HBY.out).mono ?_); rintro e w2 ⟨v2, rfl, hE, k2⟩; have E2 := hid hE; have K2 := hid (K1.out.trans k2); have BY2 := hid (k2.byts HBY.out); clear hE k2))
  have d1 := K2.out.keeps c1
  have HLE := hid (K2.out.ents (ents_own ST.out.row))
  have HSM := hid (fun (k : Nat) => esame_any _ _ L (w2.drewN k) (((Kept.refl w2).drewN k).ents E2.out) (((Kept.refl w2).drewN k).ents HLE.out) ST.out.lst.v.len)
  clear c0 c1
  go_quiet (first
    | (go_at_call 11; exact quiet_d (HSM.out _))
    | (go_at_call 12; exact quiet_l (HSZ.out _)))
  have K3 := hid ((ST.out.kept.trans K2.out).drewN nq)
  have E3 := hid (((Kept.refl w2).drewN nq).ents E2.out)
  have HI := hid hi
  clear HSM HSZ HLE d1 BY2 HBY HRD HDE E2 hi
  generalize w2.drewN nq = w3 at *
  go_upto_block 2 with fail
  go_cut [] (fun wr => Kept w3 wr)
  case first =>
    go_wp2_with fail
    go_loopw [21] (fun t wr => ∃ j : Nat, t = .int .i64 (j : Nat) ∧ j ≤ n ∧ j ≤ 30 ∧ Kept w3 wr) (fun t _ => 30 - (intOf t).toNat)
    case atStart => exact ⟨0, rfl, by omega, by omega, Kept.refl _⟩
    case round =>
      obtain ⟨j, rfl, hjn, hj30, hkj⟩ := hrel
      rename_i wr
      have HKJ := hid hkj
      clear hkj
      have e0 : (0 : Int) ≤ (j : Int) := by omega
      by_cases e1 : (j : Int) < (n : Int)
      · by_cases e2 : (j : Int) < 30
        · obtain ⟨s, hs⟩ : ∃ s, T[j]? = some s := ⟨_, List.getElem?_eq_getElem (by rw [HX.out.1]; omega)⟩
          obtain ⟨b, o, rfl, hcs⟩ := HX.out.2 (by omega)
          have hc0 := (K3.out.trans HKJ.out).keeps (hcs j s hs)
          have hss : (bstr s).size = s.length := bstr_size s
          have hpl : (part s).length ≤ 60 := by rw [part, List.length_take]; omega
          have HFI := hid (fun w' => fit_any (part s) (by omega) w')
          have HFD := hid (fun (w' : World) (k : Kept wr w') => find_yes v2 L (nm s) w' ((HKJ.out.trans k).ents E3.out) ST.out.lst.v (nm_name s) (ST.out.lst.h j s (by have := HI.out; omega) hs))
          obtain ⟨q, hq⟩ : ∃ q, bstr (fitL (part s)) = q := ⟨_, rfl⟩
          rw [show bstr (nm s) = q from hq] at HFD
          rw [hq] at HFI
          obtain ⟨t, htx⟩ : ∃ t, bstr (part s) = t := ⟨_, rfl⟩
          rw [htx] at HFI
          clear hcs hs hq hpl
          by_cases hlen : s.length ≤ 60
          · have hpe : bstr s = t := by rw [← htx, part, List.take_of_length_le hlen]
            have hl60 : ((s.length : Nat) : Int) ≤ 60 := by omega
            rw [hpe] at hc0 hss
            clear htx hpe hlen
            generalize s.length = sl at *
            go_wp2_with (first
              | (go_at_call 5; (with_reducible refine (HFI.out _).mono ?_); rintro e w4 ⟨rfl, k4⟩)
              | (go_at_call 13; (with_reducible refine (HFD.out _ k4).mono ?_); rintro e w5 ⟨fa, fb, rfl, k5⟩))
            go_roundw
            case rel => exact ⟨j + 1, by go_num, by omega, by omega, (HKJ.out.trans (k4.trans k5)).alloc _⟩
            case measure => simp [intOf]; omega
          · have hex : (bstr s).extract 0 60 = t := by rw [bstr_take, ← htx]; rfl
            have hl60 : (60 : Int) < ((s.length : Nat) : Int) := by omega
            generalize bstr s = bs at *
            generalize s.length = sl at *
            clear htx hlen
            go_wp2_with (first
              | (go_at_call 5; (with_reducible refine (HFI.out _).mono ?_); rintro e w4 ⟨rfl, k4⟩)
              | (go_at_call 13; (with_reducible refine (HFD.out _ k4).mono ?_); rintro e w5 ⟨fa, fb, rfl, k5⟩))
            go_roundw
            case rel => exact ⟨j + 1, by go_num, by omega, by omega, (HKJ.out.trans (k4.trans k5)).alloc _⟩
            case measure => simp [intOf]; omega
        · go_wp2_with fail
          go_meet
          exact HKJ.out
      · go_wp2_with fail
        go_meet
        exact HKJ.out
  case rest =>
  have K4 := hid (K3.out.trans hcut)
  clear hcut
  have HW := hid (fun (w' : World) (k : Kept w w') => works_any w' (k.tab HT.out) (k.htab HH.out))
  go_wp2_with (go_at_call 14; (with_reducible refine (HW.out _ K4.out).mono ?_); rintro e w6 ⟨rfl, k6⟩)
  go_ret
  exact ⟨rfl, K4.out.trans k6⟩
  --END2
end Go.Proofs.YtiiogglflpladaaDoor
