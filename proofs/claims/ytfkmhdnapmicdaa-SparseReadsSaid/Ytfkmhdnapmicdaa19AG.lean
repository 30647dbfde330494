/- SparseWrites: the walk. -/
import Derived.Test.Ytfkmhdnapmicdaa19AF
namespace Go.Proofs.Ytfkmhdnapmicdaa
set_option linter.unusedSimpArgs false
set_option linter.unusedVariables false
open Go.RowKit

theorem wr_sz {f : Fl} (hf : Valid f) (off : Nat) (b : List UInt8) : (wrF f off b).size = ((rsz (flB f).length off b : Nat) : Int) := by
  rw [flB_len, wrF, rsz]
  have := hf.s0
  split
  · omega
  · dsimp only; omega
theorem rsz_le {f : Fl} (hf : Valid f) (off : Nat) (b : List UInt8) (h : off + b.length ≤ 463488) : rsz (flB f).length off b ≤ 463488 := by
  have := (fl_lim hf).1
  rw [rsz]; split <;> omega
/-- the document's Write, with its shape -/
theorem rwrite_to (o : Int) (g : Fl) (off : Nat) (b : List UInt8) (ho : o = (off : Int)) (hfit : off + b.length ≤ 463488) (hv : Valid g) (v vb : Value) (w : World) (hR : Rf w v (flB g) (flT g)) (hb : Byts w vb b) (q : Nat) (hq : (wrL off b).length = q) : Calls Try.prog 16 #[v, .int .i64 o, vb] w fun e w' => ∃ A c A2 c2 A3 c3 n N, e = .returned (.tuple #[.agg #[.slice A n c, .slice A2 N c2], .slice A3 q c3]) ∧ Rf w' (.agg #[.slice A n c, .slice A2 N c2]) (rwB (flB g) off b) (rwT (flT g) (needI (rsz (flB g).length off b : Nat)).toNat off b) ∧ Ints w' (.slice A3 q c3) (wrL off b) ∧ Kept w w' := by
  subst ho; subst hq
  obtain ⟨l1, l2, l3⟩ := fl_lim hv
  refine (rwrite_any (flB g) (flT g) off b l1 hfit l2 v vb w hR hb).mono ?_
  rintro e w' ⟨v2, u, rfl, ⟨vB, vT, rfl, hB, hT⟩, hI, k⟩
  obtain ⟨A, c, rfl⟩ := hB.shape
  obtain ⟨A2, c2, rfl⟩ := hT.shape
  obtain ⟨A3, c3, rfl⟩ := hI.shape
  exact ⟨A, c, A2, c2, A3, c3, _, _, rfl, ⟨_, _, rfl, hB, hT⟩, hI, k⟩
theorem wr_is2 {g : Fl} (hv : Valid g) (off : Nat) (b : List UInt8) (h : off + b.length ≤ 463488) : isB (wrF g off b) (rwB (flB g) off b) (rwT (flT g) (needI (rsz (flB g).length off b : Nat)).toNat off b) = true := by
  refine wr_is hv off b (by omega) _ ?_
  rw [wr_sz hv]
  have := needI_le (show ((rsz (flB g).length off b : Nat) : Int) ≤ 463488 by have := rsz_le hv off b h; omega)
  omega
theorem rwB_len (B : List UInt8) (off : Nat) (b : List UInt8) : (rwB B off b).length = rsz B.length off b := by rw [rwB]; simp
theorem rwT_len (T : List Bool) (N off : Nat) (b : List UInt8) : (rwT T N off b).length = N := by rw [rwT]; simp
theorem octets_to (b : List UInt8) (v : Value) (w : World) (h : Byts w v b) (d : List UInt8) (hd : b.take 700 = d) (m : Nat) (hm : d.length = m) : Calls Try.prog 9 #[v] w fun e w' => ∃ A c, e = .returned (.slice A m c) ∧ (∀ W, Byts W v b → Byts W (.slice A m c) d) ∧ w = w' := by
  subst hd; subst hm
  refine (octets_any b v w h).mono ?_
  rintro e w' ⟨u, rfl, hB, rfl⟩
  obtain ⟨A, c, rfl⟩ := (hB w h).shape
  exact ⟨A, c, rfl, hB, rfl⟩
set_option maxRecDepth 100000 in
set_option maxHeartbeats 4000000 in
theorem writes_at (f : Fl) (v : Value) (off : Int) (b : List UInt8) (vb : Value) (w : World) (h : Sp w v f) (hb : Byts w vb b) : Calls Try.prog 3 #[v, .int .i64 off, vb] w fun e w' => e = .returned (.bool true) ∧ Kept w w' := by
  obtain ⟨g, hg⟩ : ∃ g, fewF f = g := ⟨_, rfl⟩
  obtain ⟨s, hs⟩ : ∃ s, g.size = s := ⟨_, rfl⟩
  obtain ⟨n, hn⟩ : ∃ n, g.L.length = n := ⟨_, rfl⟩
  obtain ⟨d, hd⟩ : ∃ d, b.take 700 = d := ⟨_, rfl⟩
  obtain ⟨m2, hm2⟩ : ∃ m, d.length = m := ⟨_, rfl⟩
  have hm3 : m2 ≤ 700 := by rw [← hm2, ← hd, List.length_take]; omega
  have HF1 := hid (fun (w' : World) (k : Kept w w') => few_to f v w' (k.sp h) g hg s hs n hn)
  have HOC := hid (fun (w' : World) (k : Kept w w') => octets_to b vb w' (k.byts hb) d hd m2 hm2)
  have HF2 := hid (fun (u : Value) (w' : World) (k : Sp w' u g) => few_to g u w' k g (by rw [← hg, few_few]) s hs n hn)
  have HM := hid (fun (u : Value) (w' : World) (k : Sp w' u g) => rmay_any g u w' k)
  have HSZ := hid hs; have HDL := hid hm2
  obtain ⟨vl, rfl, hP⟩ := h
  obtain ⟨A, c, rfl⟩ := hP.shape
  obtain ⟨s0, L⟩ := f
  obtain ⟨A0, c0, rfl⟩ := hb.shape
  dsimp only at *
  obtain ⟨m, hm⟩ : ∃ m, L.length = m := ⟨_, rfl⟩
  obtain ⟨mb, hmb⟩ : ∃ m, b.length = m := ⟨_, rfl⟩
  rw [hm] at HF1 ⊢
  rw [hmb] at HOC hb ⊢
  have HB0 := hid hb
  clear hm hP hg hs hn hd hm2 hmb hb
  obtain ⟨z, hz⟩ : ∃ z, (if 30000 < off ∧ off ≤ 463488 - (m2 : Int) then 30000 else off) = z := ⟨_, rfl⟩
  have HZ := hid hz
  clear hz
  have w0 : IntKind.i64.wrap (463488 - (m2 : Int)) = 463488 - (m2 : Int) := IntWalk.i64_in _ (by omega)
  go_enter Try.func3, Try.ntmps3
  go_upto_region 2 with (first
    | (go_at_call 8; (with_reducible refine (HF1.out _ ?_).mono ?_); (focus exact (by repeat (first | exact Kept.refl _ | assumption | refine Kept.alloc ?_ _ | refine Kept.drew ?_ | refine Kept.drewN ?_ _ | refine Kept.setCell ?_ (by simp; try omega) _ | refine Kept.trans ?_ (by assumption)))); rintro e w1 ⟨A1, c1, rfl, hP, k1⟩; have b1 := (k1.cb (cb_new w 24 [.int .i64 s0, .slice A m c])); have d0 := b1.cell 0 (by simp); have d1 := b1.cell 1 (by simp); have f0 := b1.frozen 0; have f1 := b1.frozen 1; simp only [List.getElem_cons_zero, List.getElem_cons_succ] at d0 d1)
    | (go_at_call 9; (with_reducible refine (HOC.out _ ?_).mono ?_); (focus exact (by repeat (first | exact Kept.refl _ | assumption | refine Kept.alloc ?_ _ | refine Kept.drew ?_ | refine Kept.drewN ?_ _ | refine Kept.setCell ?_ (by simp; try omega) _ | refine Kept.trans ?_ (by assumption)))); rintro e w1b ⟨A2, c2, rfl, hD, rfl⟩))
  have b2 : CB ((w1.setCell ⟨w.heap.size, 0, none⟩ (.int .i64 s)).setCell ⟨w.heap.size, 1, none⟩ (.slice A1 n c1)) w.heap.size 24 [.int .i64 s, .slice A1 n c1] := cb_two b1
  have k2 : Kept w ((w1.setCell ⟨w.heap.size, 0, none⟩ (.int .i64 s)).setCell ⟨w.heap.size, 1, none⟩ (.slice A1 n c1)) := (((((Kept.refl w).alloc _).trans k1).setCell (by simp) _).setCell (by simp) _)
  have p2 : Pcs ((w1.setCell ⟨w.heap.size, 0, none⟩ (.int .i64 s)).setCell ⟨w.heap.size, 1, none⟩ (.slice A1 n c1)) (.slice A1 n c1) g.L := ((hP.low (p := ⟨w.heap.size, 0, none⟩) (by simp) _).low (p := ⟨w.heap.size, 1, none⟩) (by simp) _).pcs
  have D2 := hid (k2.byts (hD w HB0.out))
  generalize ((w1.setCell ⟨w.heap.size, 0, none⟩ (.int .i64 s)).setCell ⟨w.heap.size, 1, none⟩ (.slice A1 n c1)) = w2 at *
  have B2 := hid b2; have K2 := hid k2; have P2 := hid p2
  clear b1 d0 d1 f0 f1 hP k1 b2 k2 p2 hD
  go_cut [25] (fun t wx => t = .bool (decide (30000 < off ∧ off ≤ 463488 - (m2 : Int))) ∧ w2 = wx)
  case first =>
    by_cases h1 : 30000 < off
    · by_cases h2 : off ≤ 463488 - (m2 : Int)
      · go_wp2_with fail
        go_meet
        exact ⟨congrArg Value.bool (decide_eq_true ⟨h1, h2⟩).symm, rfl⟩
      · go_wp2_with fail
        go_meet
        exact ⟨congrArg Value.bool (decide_eq_false (by omega)).symm, rfl⟩
    · go_wp2_with fail
      go_meet
      exact ⟨congrArg Value.bool (decide_eq_false (by omega)).symm, rfl⟩
  case rest =>
  obtain ⟨rfl, rfl⟩ := hcut
  go_upto_if 25 with fail
  go_cut [1] (fun t wx => t = .int .i64 z ∧ w2 = wx)
  case first =>
    by_cases h1 : 30000 < off ∧ off ≤ 463488 - (m2 : Int)
    · have e1 : decide (30000 < off ∧ off ≤ 463488 - (m2 : Int)) = true := decide_eq_true h1
      have e2 : z = 30000 := by rw [← HZ.out, if_pos h1]
      rw [e1]
      go_wp2_with fail
      go_meet
      rw [e2]
      exact ⟨rfl, rfl⟩
    · have e1 : decide (30000 < off ∧ off ≤ 463488 - (m2 : Int)) = false := decide_eq_false h1
      have e2 : z = off := by rw [← HZ.out, if_neg h1]
      rw [e1]
      go_wp2_with fail
      go_meet
      rw [e2]
      exact ⟨rfl, rfl⟩
  case rest =>
  obtain ⟨rfl, rfl⟩ := hcut
  have d0 := B2.out.cell 0 (by simp); have d1 := B2.out.cell 1 (by simp)
  simp only [List.getElem_cons_zero, List.getElem_cons_succ] at d0 d1
  have HNO := hid (fun (hno : mayB g = false ∨ z < 0) (u ub : Value) (w' : World) (k : Sp w' u g) (kb : Byts w' ub d) => write_err g z d u ub w' k kb hno)
  have HBI := hid (fun (hv : Valid g) (hz : 0 ≤ z) (hb : 463488 - (m2 : Int) < z) (u ub : Value) (w' : World) (k : Sp w' u g) (kb : Byts w' ub d) => write_big g z d u ub w' k kb hv hz (by rw [HDL.out]; omega))
  go_upto_region 5 with (go_at_call 8; (with_reducible refine (HF2.out _ _ ?_).mono ?_); (focus exact sp_to HSZ.out P2.out); rintro e w3 ⟨A3, c3, rfl, hP3, k3⟩; have P3 := hid hP3.pcs; have K3 := hid k3; clear hP3 k3)
  have b4 : CB (w3.alloc (.cells #[.int .i64 s, .slice A3 n c3] 24)) w3.heap.size 24 [.int .i64 s, .slice A3 n c3] := cb_new w3 24 [.int .i64 s, .slice A3 n c3]
  have k4 : Kept w3 (w3.alloc (.cells #[.int .i64 s, .slice A3 n c3] 24)) := (Kept.refl w3).alloc _
  generalize (w3.alloc (.cells #[.int .i64 s, .slice A3 n c3] 24)) = w4 at *
  generalize w3.heap.size = X at *
  have B4 := hid b4; have K4 := hid (K3.out.trans k4); have P4 := hid (k4.pcs P3.out)
  have e0 := (K4.out.cb B2.out).cell 0 (by simp); have e1 := (K4.out.cb B2.out).cell 1 (by simp)
  simp only [List.getElem_cons_zero, List.getElem_cons_succ] at e0 e1
  have PP := hid (K4.out.pcs P2.out)
  have BB := hid (K4.out.cb B2.out)
  have DD := hid (K4.out.byts D2.out)
  have KW := hid (K2.out.trans K4.out)
  clear b4 k4 d0 d1 P3 K3
  cases hmb : mayB g with
  | false =>
    have HC := hid (HNO.out (.inl hmb))
    rw [hmb] at HM
    clear HNO HBI hmb
    go_upto_region 6 with (
      (go_at_call 10; (with_reducible refine (HC.out _ _ _ ?_ ?_).mono ?_); (focus exact sp_to HSZ.out PP.out); (focus exact DD.out); rintro e w5 ⟨rfl, k5⟩; have x5 := k5.cb BB.out; have m0 := x5.cell 0 (by simp); have m1 := x5.cell 1 (by simp); simp only [List.getElem_cons_zero, List.getElem_cons_succ] at m0 m1)
      )
    have k6 : Kept w5 (w5.alloc (.cells #[.int .i64 0, .slice none 0 0] 24)) := (Kept.refl w5).alloc _
    have b6 : CB (w5.alloc (.cells #[.int .i64 0, .slice none 0 0] 24)) w5.heap.size 24 [.int .i64 0, .slice none 0 0] := cb_new w5 24 [.int .i64 0, .slice none 0 0]
    generalize (w5.alloc (.cells #[.int .i64 0, .slice none 0 0] 24)) = w6 at *
    generalize w5.heap.size = Y at *
    have K46 := hid (k5.trans k6)
    have K56 := hid k6
    have BY := hid b6
    have BD := hid (K46.out.cb BB.out); have BX := hid (K46.out.cb B4.out)
    have PD := hid (K46.out.pcs PP.out); have PX := hid (K46.out.pcs P4.out); have DB := hid (K46.out.byts DD.out)
    have hne : ((n : Int) != (n : Int)) = false := by simp
    have HS := hid (show ∀ w', Kept w6 w' → w'.cell? ⟨w.heap.size, 0, none⟩ = some (.int .i64 s) ∧ w'.cell? ⟨w.heap.size, 1, none⟩ = some (.slice A1 n c1) ∧ w'.cell? ⟨X, 0, none⟩ = some (.int .i64 s) ∧ w'.cell? ⟨X, 1, none⟩ = some (.slice A3 n c3) from fun w' k => by
      have a1 := k.cb BD.out; have a2 := k.cb BX.out
      exact ⟨a1.cell 0 (by simp), a1.cell 1 (by simp), a2.cell 0 (by simp), a2.cell 1 (by simp)⟩)
    clear e0 e1 k5 k6 b6 m0 m1 x5
    refine wp_region_held_drew (S := fun w' => w'.cell? ⟨w.heap.size, 0, none⟩ = some (.int .i64 s) ∧ w'.cell? ⟨w.heap.size, 1, none⟩ = some (.slice A1 n c1) ∧ w'.cell? ⟨X, 0, none⟩ = some (.int .i64 s) ∧ w'.cell? ⟨X, 1, none⟩ = some (.slice A3 n c3)) (by kernel_rfl) (HS.out _ (Kept.refl _).drew) (fun hHeld => ?_)
    refine wpAnyH_take (i := 0) (v := ?_) rfl (by kernel_rfl) (by kernel_rfl) (by kernel_rfl) (fun _ _ _ h => h) (Or.inl ⟨by rfl, ?_⟩) (by assumption) ?_
    rotate_left
    focus (intro w hSw; (try dsimp only at hSw); go_simp; first | done | with_reducible rfl)
    (try simp only [List.getElem_toArray, List.getElem_cons_zero, List.getElem_cons_succ, Act.put, List.setIfInBounds_toArray, List.set_cons_zero, List.set_cons_succ])
    refine wpAnyH_take (i := 1) (v := ?_) rfl (by kernel_rfl) (by kernel_rfl) (by kernel_rfl) (fun _ _ _ h => h) (Or.inl ⟨by rfl, ?_⟩) (by assumption) ?_
    rotate_left
    focus (intro w hSw; (try dsimp only at hSw); go_simp; first | done | with_reducible rfl)
    (try simp only [List.getElem_toArray, List.getElem_cons_zero, List.getElem_cons_succ, Act.put, List.setIfInBounds_toArray, List.set_cons_zero, List.set_cons_succ])
    refine wpAnyH_take (i := 2) (v := ?_) rfl (by kernel_rfl) (by kernel_rfl) (by kernel_rfl) (fun _ _ _ h => h) (Or.inl ⟨by rfl, ?_⟩) (by assumption) ?_
    rotate_left
    focus (intro w hSw; (try dsimp only at hSw); go_simp; first | done | with_reducible rfl)
    (try simp only [List.getElem_toArray, List.getElem_cons_zero, List.getElem_cons_succ, Act.put, List.setIfInBounds_toArray, List.set_cons_zero, List.set_cons_succ])
    refine wpAnyH_take (i := 3) (v := ?_) rfl (by kernel_rfl) (by kernel_rfl) (by kernel_rfl) (fun _ _ _ h => h) (Or.inl ⟨by rfl, ?_⟩) (by assumption) ?_
    rotate_left
    focus (intro w hSw; (try dsimp only at hSw); go_simp; first | done | with_reducible rfl)
    (try simp only [List.getElem_toArray, List.getElem_cons_zero, List.getElem_cons_succ, Act.put, List.setIfInBounds_toArray, List.set_cons_zero, List.set_cons_succ])
    refine wpAnyH_take (i := 4) (v := ?_) rfl (by kernel_rfl) (by kernel_rfl) (by kernel_rfl) (fun _ _ _ h => h) (Or.inl ⟨by rfl, ?_⟩) (by assumption) ?_
    rotate_left
    focus (intro w hSw; (try dsimp only at hSw); go_simp; first | done | with_reducible rfl)
    (try simp only [List.getElem_toArray, List.getElem_cons_zero, List.getElem_cons_succ, Act.put, List.setIfInBounds_toArray, List.set_cons_zero, List.set_cons_succ])
    refine wpAnyH_take (i := 5) (v := ?_) rfl (by kernel_rfl) (by kernel_rfl) (by kernel_rfl) (fun _ _ _ h => h) (Or.inl ⟨by rfl, ?_⟩) (by assumption) ?_
    rotate_left
    focus (intro w hSw; (try dsimp only at hSw); go_simp; first | done | with_reducible rfl)
    (try simp only [List.getElem_toArray, List.getElem_cons_zero, List.getElem_cons_succ, Act.put, List.setIfInBounds_toArray, List.set_cons_zero, List.set_cons_succ])
    refine wpAnyH_take (i := 6) (v := ?_) rfl (by kernel_rfl) (by kernel_rfl) (by kernel_rfl) (fun _ _ _ h => h) (Or.inl ⟨by rfl, ?_⟩) (by assumption) ?_
    rotate_left
    focus (intro w hSw; (try dsimp only at hSw); go_simp; first | done | with_reducible rfl)
    (try simp only [List.getElem_toArray, List.getElem_cons_zero, List.getElem_cons_succ, Act.put, List.setIfInBounds_toArray, List.set_cons_zero, List.set_cons_succ])
    refine wpAnyH_take (i := 7) (v := ?_) rfl (by kernel_rfl) (by kernel_rfl) (by kernel_rfl) (fun _ _ _ h => h) (Or.inl ⟨by rfl, ?_⟩) (by assumption) ?_
    rotate_left
    focus (intro w hSw; (try dsimp only at hSw); go_simp; first | done | with_reducible rfl)
    (try simp only [List.getElem_toArray, List.getElem_cons_zero, List.getElem_cons_succ, Act.put, List.setIfInBounds_toArray, List.set_cons_zero, List.set_cons_succ])
    refine wpAnyH_take (i := 8) (v := ?_) rfl (by kernel_rfl) (by kernel_rfl) (by kernel_rfl) (fun _ _ _ h => h) (Or.inl ⟨by rfl, ?_⟩) (by assumption) ?_
    rotate_left
    focus (intro w hSw; (try dsimp only at hSw); go_simp; first | done | with_reducible rfl)
    (try simp only [List.getElem_toArray, List.getElem_cons_zero, List.getElem_cons_succ, Act.put, List.setIfInBounds_toArray, List.set_cons_zero, List.set_cons_succ])
    refine wpAnyH_ready (rs := [9]) (by kernel_rfl) (by simp) ?_
    refine AllReadyH.cons rfl (fun K hK => ?_) AllReadyH.nil
    go_simp; go_at_call 11; (with_reducible refine (HM.out _ _ ?_).mono ?_); (focus exact sp_to HSZ.out (Kept.pcs (w := w6) (by repeat (first | exact Kept.refl _ | assumption | refine Kept.alloc ?_ _ | refine Kept.drew ?_ | refine Kept.drewN ?_ _ | refine Kept.setCell ?_ (by simp; try omega) _ | refine Kept.trans ?_ (by assumption))) PD.out)); rintro e w9 ⟨rfl, k9⟩; have K69 := hid (show Kept w6 w9 from (by repeat (first | exact Kept.refl _ | assumption | refine Kept.alloc ?_ _ | refine Kept.drew ?_ | refine Kept.drewN ?_ _ | refine Kept.setCell ?_ (by simp; try omega) _ | refine Kept.trans ?_ (by assumption))))
    refine hK.out _ _ (HS.out _ K69.out) (fun hHeld => ?_)
    clear hK K
    (try simp only [List.getElem_toArray, List.getElem_cons_zero, List.getElem_cons_succ, Act.put, List.setIfInBounds_toArray, List.set_cons_zero, List.set_cons_succ])
    refine wpAnyH_take (i := 10) (v := ?_) rfl (by kernel_rfl) (by kernel_rfl) (by kernel_rfl) (fun _ _ _ h => h) (Or.inl ⟨by rfl, ?_⟩) (by assumption) ?_
    rotate_left
    focus (intro w hSw; (try dsimp only at hSw); go_simp; first | done | with_reducible rfl)
    (try simp only [List.getElem_toArray, List.getElem_cons_zero, List.getElem_cons_succ, Act.put, List.setIfInBounds_toArray, List.set_cons_zero, List.set_cons_succ])
    refine wpAnyH_take (i := 11) (v := undef) rfl (by kernel_rfl) (by kernel_rfl) (by kernel_rfl) (fun _ _ _ h => h) (Or.inr ⟨by rfl, rfl⟩) (by assumption) ?_
    (try simp only [List.getElem_toArray, List.getElem_cons_zero, List.getElem_cons_succ, Act.put, List.setIfInBounds_toArray, List.set_cons_zero, List.set_cons_succ])
    refine wpAnyH_take (i := 12) (v := undef) rfl (by kernel_rfl) (by kernel_rfl) (by kernel_rfl) (fun _ _ _ h => h) (Or.inr ⟨by rfl, rfl⟩) (by assumption) ?_
    (try simp only [List.getElem_toArray, List.getElem_cons_zero, List.getElem_cons_succ, Act.put, List.setIfInBounds_toArray, List.set_cons_zero, List.set_cons_succ])
    refine wpAnyH_take (i := 13) (v := undef) rfl (by kernel_rfl) (by kernel_rfl) (by kernel_rfl) (fun _ _ _ h => h) (Or.inr ⟨by rfl, rfl⟩) (by assumption) ?_
    (try simp only [List.getElem_toArray, List.getElem_cons_zero, List.getElem_cons_succ, Act.put, List.setIfInBounds_toArray, List.set_cons_zero, List.set_cons_succ])
    refine wpAnyH_take (i := 14) (v := undef) rfl (by kernel_rfl) (by kernel_rfl) (by kernel_rfl) (fun _ _ _ h => h) (Or.inr ⟨by rfl, rfl⟩) (by assumption) ?_
    (try simp only [List.getElem_toArray, List.getElem_cons_zero, List.getElem_cons_succ, Act.put, List.setIfInBounds_toArray, List.set_cons_zero, List.set_cons_succ])
    refine wpAnyH_take (i := 15) (v := undef) rfl (by kernel_rfl) (by kernel_rfl) (by kernel_rfl) (fun _ _ _ h => h) (Or.inr ⟨by rfl, rfl⟩) (by assumption) ?_
    (try simp only [List.getElem_toArray, List.getElem_cons_zero, List.getElem_cons_succ, Act.put, List.setIfInBounds_toArray, List.set_cons_zero, List.set_cons_succ])
    refine wpAnyH_take (i := 16) (v := ?_) rfl (by kernel_rfl) (by kernel_rfl) (by kernel_rfl) (fun _ _ _ h => h) (Or.inl ⟨by rfl, ?_⟩) (by assumption) ?_
    rotate_left
    focus (intro w hSw; (try dsimp only at hSw); go_simp; first | done | with_reducible rfl)
    (try simp only [List.getElem_toArray, List.getElem_cons_zero, List.getElem_cons_succ, Act.put, List.setIfInBounds_toArray, List.set_cons_zero, List.set_cons_succ])
    refine wpAnyH_take (i := 17) (v := ?_) rfl (by kernel_rfl) (by kernel_rfl) (by kernel_rfl) (fun _ _ _ h => h) (Or.inl ⟨by rfl, ?_⟩) (by assumption) ?_
    rotate_left
    focus (intro w hSw; (try dsimp only at hSw); go_simp; first | done | with_reducible rfl)
    (try simp only [List.getElem_toArray, List.getElem_cons_zero, List.getElem_cons_succ, Act.put, List.setIfInBounds_toArray, List.set_cons_zero, List.set_cons_succ])
    refine wpAnyH_done (by kernel_rfl) ?_ _
    clear k9
    have bd := K69.out.cb BD.out
    have m0 := bd.cell 0 (by simp); have m1 := bd.cell 1 (by simp)
    simp only [List.getElem_cons_zero, List.getElem_cons_succ] at m0 m1
    go_wp2_with (first
      | (go_at_call 11; (with_reducible refine (HM.out _ _ ?_).mono ?_); (focus exact sp_to HSZ.out (Kept.pcs (w := w6) (K69.out.trans (by repeat (first | exact Kept.refl _ | assumption | refine Kept.alloc ?_ _ | refine Kept.drew ?_ | refine Kept.drewN ?_ _ | refine Kept.setCell ?_ (by simp; try omega) _ | refine Kept.trans ?_ (by assumption)))) PD.out)); rintro e w10 ⟨rfl, k10⟩; have x6 := (K69.out.trans (show Kept w9 w10 from (by repeat (first | exact Kept.refl _ | assumption | refine Kept.alloc ?_ _ | refine Kept.drew ?_ | refine Kept.drewN ?_ _ | refine Kept.setCell ?_ (by simp; try omega) _ | refine Kept.trans ?_ (by assumption))))).cb BY.out; have n0 := x6.cell 0 (by simp); have n1 := x6.cell 1 (by simp); simp only [List.getElem_cons_zero, List.getElem_cons_succ] at n0 n1)
      | (go_at_call 14; (with_reducible refine (none_t _).mono ?_); rintro e w11 ⟨rfl, k11⟩)
      | (go_at_call 15; (with_reducible refine (awake_any _).mono ?_); rintro e w12 ⟨rfl, k12⟩))
    go_ret
    exact ⟨rfl, KW.out.trans (K46.out.trans (K69.out.trans (by repeat (first | exact Kept.refl _ | assumption | refine Kept.alloc ?_ _ | refine Kept.drew ?_ | refine Kept.drewN ?_ _ | refine Kept.setCell ?_ (by simp; try omega) _ | refine Kept.trans ?_ (by assumption)))))⟩
  | true =>
    have HV := hid (mayB_iff.1 hmb)
    rw [hmb] at HM
    clear hmb
    obtain ⟨nB, hnB⟩ : ∃ nB, (flB g).length = nB := ⟨_, rfl⟩
    obtain ⟨nT, hnT⟩ : ∃ nT, (flT g).length = nT := ⟨_, rfl⟩
    have HO := hid (fun (u : Value) (w' : World) (k : Sp w' u g) => of_to g u w' k HV.out nB hnB nT hnT)
    have hl := fl_lim HV.out
    have HI2 := hid (fun (u v : Value) (w' : World) (k : Sp w' u g) (k2 : Rf w' v (flB g) (flT g)) => is_t g _ _ u v w' k k2 (by omega) hl.2.1 (self_is HV.out))
    clear hnB hnT hl
    by_cases hz : z < 0
    · have HC := hid (HNO.out (.inr hz))
      clear HNO HBI
      go_upto_region 6 with (
        (go_at_call 10; (with_reducible refine (HC.out _ _ _ ?_ ?_).mono ?_); (focus exact sp_to HSZ.out PP.out); (focus exact DD.out); rintro e w5 ⟨rfl, k5⟩; have x5 := k5.cb BB.out; have m0 := x5.cell 0 (by simp); have m1 := x5.cell 1 (by simp); simp only [List.getElem_cons_zero, List.getElem_cons_succ] at m0 m1)
        )
      have k6 : Kept w5 (w5.alloc (.cells #[.int .i64 0, .slice none 0 0] 24)) := (Kept.refl w5).alloc _
      have b6 : CB (w5.alloc (.cells #[.int .i64 0, .slice none 0 0] 24)) w5.heap.size 24 [.int .i64 0, .slice none 0 0] := cb_new w5 24 [.int .i64 0, .slice none 0 0]
      generalize (w5.alloc (.cells #[.int .i64 0, .slice none 0 0] 24)) = w6 at *
      generalize w5.heap.size = Y at *
      have K46 := hid (k5.trans k6)
      have K56 := hid k6
      have BY := hid b6
      have BD := hid (K46.out.cb BB.out); have BX := hid (K46.out.cb B4.out)
      have PD := hid (K46.out.pcs PP.out); have PX := hid (K46.out.pcs P4.out); have DB := hid (K46.out.byts DD.out)
      have hne : ((n : Int) != (n : Int)) = false := by simp
      have HS := hid (show ∀ w', Kept w6 w' → w'.cell? ⟨w.heap.size, 0, none⟩ = some (.int .i64 s) ∧ w'.cell? ⟨w.heap.size, 1, none⟩ = some (.slice A1 n c1) ∧ w'.cell? ⟨X, 0, none⟩ = some (.int .i64 s) ∧ w'.cell? ⟨X, 1, none⟩ = some (.slice A3 n c3) from fun w' k => by
        have a1 := k.cb BD.out; have a2 := k.cb BX.out
        exact ⟨a1.cell 0 (by simp), a1.cell 1 (by simp), a2.cell 0 (by simp), a2.cell 1 (by simp)⟩)
      clear e0 e1 k5 k6 b6 m0 m1 x5
      go_region_held3 (fun w' => w'.cell? ⟨w.heap.size, 0, none⟩ = some (.int .i64 s) ∧ w'.cell? ⟨w.heap.size, 1, none⟩ = some (.slice A1 n c1) ∧ w'.cell? ⟨X, 0, none⟩ = some (.int .i64 s) ∧ w'.cell? ⟨X, 1, none⟩ = some (.slice A3 n c3))
        (first | exact HS.out _ (Kept.refl _) | (go_split_ands; exact HS.out _ (by repeat (first | exact Kept.refl _ | assumption | refine Kept.alloc ?_ _ | refine Kept.drew ?_ | refine Kept.drewN ?_ _ | refine Kept.setCell ?_ (by simp; try omega) _ | refine Kept.trans ?_ (by assumption)))) | exact HS.out _ (by repeat (first | exact Kept.refl _ | assumption | refine Kept.alloc ?_ _ | refine Kept.drew ?_ | refine Kept.drewN ?_ _ | refine Kept.setCell ?_ (by simp; try omega) _ | refine Kept.trans ?_ (by assumption))))
        (first
        | (go_at_call 13; (with_reducible refine (HO.out _ _ ?_).mono ?_); (focus exact sp_to HSZ.out (Kept.pcs (w := w6) (by repeat (first | exact Kept.refl _ | assumption | refine Kept.alloc ?_ _ | refine Kept.drew ?_ | refine Kept.drewN ?_ _ | refine Kept.setCell ?_ (by simp; try omega) _ | refine Kept.trans ?_ (by assumption))) PX.out)); rintro e w8 ⟨A8, c8, A9, c9, rfl, hR8, k8⟩; have R8 := hid hR8; clear hR8)
        | (go_at_call 12; (with_reducible refine (HI2.out _ _ _ ?_ ?_).mono ?_); (focus exact sp_to HSZ.out (Kept.pcs (w := w6) (by repeat (first | exact Kept.refl _ | assumption | refine Kept.alloc ?_ _ | refine Kept.drew ?_ | refine Kept.drewN ?_ _ | refine Kept.setCell ?_ (by simp; try omega) _ | refine Kept.trans ?_ (by assumption))) PD.out)); (focus exact R8.out); rintro e w9 ⟨rfl, k9⟩)
        | (go_at_call 11; (with_reducible refine (HM.out _ _ ?_).mono ?_); (focus exact sp_to HSZ.out (Kept.pcs (w := w6) (by repeat (first | exact Kept.refl _ | assumption | refine Kept.alloc ?_ _ | refine Kept.drew ?_ | refine Kept.drewN ?_ _ | refine Kept.setCell ?_ (by simp; try omega) _ | refine Kept.trans ?_ (by assumption))) PD.out)); rintro e w7 ⟨rfl, k7⟩))
      have K69 := hid (show Kept w6 w9 from (by repeat (first | exact Kept.refl _ | assumption | refine Kept.alloc ?_ _ | refine Kept.drew ?_ | refine Kept.drewN ?_ _ | refine Kept.setCell ?_ (by simp; try omega) _ | refine Kept.trans ?_ (by assumption))))
      clear k7 k8 k9
      have bd := K69.out.cb BD.out
      have m0 := bd.cell 0 (by simp); have m1 := bd.cell 1 (by simp)
      simp only [List.getElem_cons_zero, List.getElem_cons_succ] at m0 m1
      go_wp2_with (first
        | (go_at_call 11; (with_reducible refine (HM.out _ _ ?_).mono ?_); (focus exact sp_to HSZ.out (Kept.pcs (w := w6) (K69.out.trans (by repeat (first | exact Kept.refl _ | assumption | refine Kept.alloc ?_ _ | refine Kept.drew ?_ | refine Kept.drewN ?_ _ | refine Kept.setCell ?_ (by simp; try omega) _ | refine Kept.trans ?_ (by assumption)))) PD.out)); rintro e w10 ⟨rfl, k10⟩; have x6 := (K69.out.trans (show Kept w9 w10 from (by repeat (first | exact Kept.refl _ | assumption | refine Kept.alloc ?_ _ | refine Kept.drew ?_ | refine Kept.drewN ?_ _ | refine Kept.setCell ?_ (by simp; try omega) _ | refine Kept.trans ?_ (by assumption))))).cb BY.out; have n0 := x6.cell 0 (by simp); have n1 := x6.cell 1 (by simp); simp only [List.getElem_cons_zero, List.getElem_cons_succ] at n0 n1)
        | (go_at_call 14; (with_reducible refine (none_t _).mono ?_); rintro e w11 ⟨rfl, k11⟩)
        | (go_at_call 15; (with_reducible refine (awake_any _).mono ?_); rintro e w12 ⟨rfl, k12⟩))
      go_ret
      exact ⟨rfl, KW.out.trans (K46.out.trans (K69.out.trans (by repeat (first | exact Kept.refl _ | assumption | refine Kept.alloc ?_ _ | refine Kept.drew ?_ | refine Kept.drewN ?_ _ | refine Kept.setCell ?_ (by simp; try omega) _ | refine Kept.trans ?_ (by assumption)))))⟩
    · obtain ⟨o, rfl⟩ : ∃ o : Nat, z = (o : Int) := ⟨z.toNat, by omega⟩
      have i1 : decide ((o : Int) < 0) = false := decide_eq_false hz
      by_cases hbg : 463488 - (m2 : Int) < (o : Int)
      · have HC := hid (HBI.out HV.out (by omega) hbg)
        clear HNO HBI
        go_upto_region 6 with (
          (go_at_call 10; (with_reducible refine (HC.out _ _ _ ?_ ?_).mono ?_); (focus exact sp_to HSZ.out PP.out); (focus exact DD.out); rintro e w5 ⟨rfl, k5⟩; have x5 := k5.cb BB.out; have m0 := x5.cell 0 (by simp); have m1 := x5.cell 1 (by simp); simp only [List.getElem_cons_zero, List.getElem_cons_succ] at m0 m1)
          )
        have k6 : Kept w5 (w5.alloc (.cells #[.int .i64 0, .slice none 0 0] 24)) := (Kept.refl w5).alloc _
        have b6 : CB (w5.alloc (.cells #[.int .i64 0, .slice none 0 0] 24)) w5.heap.size 24 [.int .i64 0, .slice none 0 0] := cb_new w5 24 [.int .i64 0, .slice none 0 0]
        generalize (w5.alloc (.cells #[.int .i64 0, .slice none 0 0] 24)) = w6 at *
        generalize w5.heap.size = Y at *
        have K46 := hid (k5.trans k6)
        have K56 := hid k6
        have BY := hid b6
        have BD := hid (K46.out.cb BB.out); have BX := hid (K46.out.cb B4.out)
        have PD := hid (K46.out.pcs PP.out); have PX := hid (K46.out.pcs P4.out); have DB := hid (K46.out.byts DD.out)
        have hne : ((n : Int) != (n : Int)) = false := by simp
        have HS := hid (show ∀ w', Kept w6 w' → w'.cell? ⟨w.heap.size, 0, none⟩ = some (.int .i64 s) ∧ w'.cell? ⟨w.heap.size, 1, none⟩ = some (.slice A1 n c1) ∧ w'.cell? ⟨X, 0, none⟩ = some (.int .i64 s) ∧ w'.cell? ⟨X, 1, none⟩ = some (.slice A3 n c3) from fun w' k => by
          have a1 := k.cb BD.out; have a2 := k.cb BX.out
          exact ⟨a1.cell 0 (by simp), a1.cell 1 (by simp), a2.cell 0 (by simp), a2.cell 1 (by simp)⟩)
        clear e0 e1 k5 k6 b6 m0 m1 x5
        go_region_held3 (fun w' => w'.cell? ⟨w.heap.size, 0, none⟩ = some (.int .i64 s) ∧ w'.cell? ⟨w.heap.size, 1, none⟩ = some (.slice A1 n c1) ∧ w'.cell? ⟨X, 0, none⟩ = some (.int .i64 s) ∧ w'.cell? ⟨X, 1, none⟩ = some (.slice A3 n c3))
          (first | exact HS.out _ (Kept.refl _) | (go_split_ands; exact HS.out _ (by repeat (first | exact Kept.refl _ | assumption | refine Kept.alloc ?_ _ | refine Kept.drew ?_ | refine Kept.drewN ?_ _ | refine Kept.setCell ?_ (by simp; try omega) _ | refine Kept.trans ?_ (by assumption)))) | exact HS.out _ (by repeat (first | exact Kept.refl _ | assumption | refine Kept.alloc ?_ _ | refine Kept.drew ?_ | refine Kept.drewN ?_ _ | refine Kept.setCell ?_ (by simp; try omega) _ | refine Kept.trans ?_ (by assumption))))
          (first
          | (go_at_call 13; (with_reducible refine (HO.out _ _ ?_).mono ?_); (focus exact sp_to HSZ.out (Kept.pcs (w := w6) (by repeat (first | exact Kept.refl _ | assumption | refine Kept.alloc ?_ _ | refine Kept.drew ?_ | refine Kept.drewN ?_ _ | refine Kept.setCell ?_ (by simp; try omega) _ | refine Kept.trans ?_ (by assumption))) PX.out)); rintro e w8 ⟨A8, c8, A9, c9, rfl, hR8, k8⟩; have R8 := hid hR8; clear hR8)
          | (go_at_call 12; (with_reducible refine (HI2.out _ _ _ ?_ ?_).mono ?_); (focus exact sp_to HSZ.out (Kept.pcs (w := w6) (by repeat (first | exact Kept.refl _ | assumption | refine Kept.alloc ?_ _ | refine Kept.drew ?_ | refine Kept.drewN ?_ _ | refine Kept.setCell ?_ (by simp; try omega) _ | refine Kept.trans ?_ (by assumption))) PD.out)); (focus exact R8.out); rintro e w9 ⟨rfl, k9⟩)
          | (go_at_call 11; (with_reducible refine (HM.out _ _ ?_).mono ?_); (focus exact sp_to HSZ.out (Kept.pcs (w := w6) (by repeat (first | exact Kept.refl _ | assumption | refine Kept.alloc ?_ _ | refine Kept.drew ?_ | refine Kept.drewN ?_ _ | refine Kept.setCell ?_ (by simp; try omega) _ | refine Kept.trans ?_ (by assumption))) PD.out)); rintro e w7 ⟨rfl, k7⟩))
        have K69 := hid (show Kept w6 w9 from (by repeat (first | exact Kept.refl _ | assumption | refine Kept.alloc ?_ _ | refine Kept.drew ?_ | refine Kept.drewN ?_ _ | refine Kept.setCell ?_ (by simp; try omega) _ | refine Kept.trans ?_ (by assumption))))
        clear k7 k8 k9
        have bd := K69.out.cb BD.out
        have m0 := bd.cell 0 (by simp); have m1 := bd.cell 1 (by simp)
        simp only [List.getElem_cons_zero, List.getElem_cons_succ] at m0 m1
        go_wp2_with (first
          | (go_at_call 11; (with_reducible refine (HM.out _ _ ?_).mono ?_); (focus exact sp_to HSZ.out (Kept.pcs (w := w6) (K69.out.trans (by repeat (first | exact Kept.refl _ | assumption | refine Kept.alloc ?_ _ | refine Kept.drew ?_ | refine Kept.drewN ?_ _ | refine Kept.setCell ?_ (by simp; try omega) _ | refine Kept.trans ?_ (by assumption)))) PD.out)); rintro e w10 ⟨rfl, k10⟩; have x6 := (K69.out.trans (show Kept w9 w10 from (by repeat (first | exact Kept.refl _ | assumption | refine Kept.alloc ?_ _ | refine Kept.drew ?_ | refine Kept.drewN ?_ _ | refine Kept.setCell ?_ (by simp; try omega) _ | refine Kept.trans ?_ (by assumption))))).cb BY.out; have n0 := x6.cell 0 (by simp); have n1 := x6.cell 1 (by simp); simp only [List.getElem_cons_zero, List.getElem_cons_succ] at n0 n1)
          | (go_at_call 14; (with_reducible refine (none_t _).mono ?_); rintro e w11 ⟨rfl, k11⟩)
          | (go_at_call 15; (with_reducible refine (awake_any _).mono ?_); rintro e w12 ⟨rfl, k12⟩))
        go_ret
        exact ⟨rfl, KW.out.trans (K46.out.trans (K69.out.trans (by repeat (first | exact Kept.refl _ | assumption | refine Kept.alloc ?_ _ | refine Kept.drew ?_ | refine Kept.drewN ?_ _ | refine Kept.setCell ?_ (by simp; try omega) _ | refine Kept.trans ?_ (by assumption)))))⟩
      · have i2 : decide (463488 - (m2 : Int) < (o : Int)) = false := decide_eq_false hbg
        have hfit : o + d.length ≤ 463488 := by rw [HDL.out]; omega
        clear HNO HBI
        obtain ⟨g2, hg2⟩ : ∃ g2, wrF g (o : Int) d = g2 := ⟨_, rfl⟩
        obtain ⟨s2, hs2⟩ : ∃ s2, g2.size = s2 := ⟨_, rfl⟩
        obtain ⟨n2, hn2⟩ : ∃ n2, g2.L.length = n2 := ⟨_, rfl⟩
        obtain ⟨N, hN⟩ : ∃ N, wrL (o : Int) d = N := ⟨_, rfl⟩
        obtain ⟨q, hq⟩ : ∃ q, N.length = q := ⟨_, rfl⟩
        have HC := hid (fun (u ub : Value) (w' : World) (k : Sp w' u g) (kb : Byts w' ub d) => write_to o g o d u ub w' k kb rfl HV.out (by omega) g2 hg2 s2 hs2 n2 hn2 N hN q hq)
        have HRC := hid (fun (u ub : Value) (w' : World) (k : Rf w' u (flB g) (flT g)) (kb : Byts w' ub d) => rwrite_to o g o d rfl hfit HV.out u ub w' k kb q (by rw [hN]; exact hq))
        rw [hN] at HRC
        have hrl := rsz_le HV.out o d hfit
        have hneed := needI_le (show ((rsz (flB g).length o d : Nat) : Int) ≤ 463488 by omega)
        have HI1 := hid (fun (u v : Value) (w' : World) (k : Sp w' u g2) (k2 : Rf w' v (rwB (flB g) o d) (rwT (flT g) (needI (rsz (flB g).length o d : Nat)).toNat o d)) => is_t g2 _ _ u v w' k k2 (by rw [rwB_len]; omega) (by rw [rwB_len, rwT_len]; omega) (by rw [← hg2]; exact wr_is2 HV.out o d hfit))
        have HSA := hid (fun (u v : Value) (w' : World) (k : Ints w' u N) (k2 : Ints w' v N) => same_t u v N N w' k k2 rfl)
        have HS2 := hid hs2
        clear hg2 hs2 hn2 hN hq hrl hneed hfit
        go_upto_region 6 with ((go_at_call 10; (with_reducible refine (HC.out _ _ _ ?_ ?_).mono ?_); (focus exact sp_to HSZ.out PP.out); (focus exact DD.out); rintro e w5 ⟨A5, c5, A6, c6, rfl, hP5, hI5, k5⟩; have P5 := hid hP5; have I5 := hid hI5; clear hP5 hI5; have x5 := k5.cb BB.out; have m0 := x5.cell 0 (by simp); have m1 := x5.cell 1 (by simp); simp only [List.getElem_cons_zero, List.getElem_cons_succ] at m0 m1))
        have k6 : Kept w5 (w5.alloc (.cells #[.int .i64 s2, .slice A5 n2 c5] 24)) := (Kept.refl w5).alloc _
        have b6 : CB (w5.alloc (.cells #[.int .i64 s2, .slice A5 n2 c5] 24)) w5.heap.size 24 [.int .i64 s2, .slice A5 n2 c5] := cb_new w5 24 [.int .i64 s2, .slice A5 n2 c5]
        generalize (w5.alloc (.cells #[.int .i64 s2, .slice A5 n2 c5] 24)) = w6 at *
        generalize w5.heap.size = Y at *
        have K46 := hid (k5.trans k6)
        have K56 := hid k6
        have BY := hid b6
        have BD := hid (K46.out.cb BB.out); have BX := hid (K46.out.cb B4.out)
        have PD := hid (K46.out.pcs PP.out); have PX := hid (K46.out.pcs P4.out); have DB := hid (K46.out.byts DD.out)
        have hne : ((n : Int) != (n : Int)) = false := by simp
        have HS := hid (show ∀ w', Kept w6 w' → w'.cell? ⟨w.heap.size, 0, none⟩ = some (.int .i64 s) ∧ w'.cell? ⟨w.heap.size, 1, none⟩ = some (.slice A1 n c1) ∧ w'.cell? ⟨X, 0, none⟩ = some (.int .i64 s) ∧ w'.cell? ⟨X, 1, none⟩ = some (.slice A3 n c3) from fun w' k => by
          have a1 := k.cb BD.out; have a2 := k.cb BX.out
          exact ⟨a1.cell 0 (by simp), a1.cell 1 (by simp), a2.cell 0 (by simp), a2.cell 1 (by simp)⟩)
        clear e0 e1 k5 k6 b6 m0 m1 x5
        go_region_held3 (fun w' => w'.cell? ⟨w.heap.size, 0, none⟩ = some (.int .i64 s) ∧ w'.cell? ⟨w.heap.size, 1, none⟩ = some (.slice A1 n c1) ∧ w'.cell? ⟨X, 0, none⟩ = some (.int .i64 s) ∧ w'.cell? ⟨X, 1, none⟩ = some (.slice A3 n c3))
          (first | exact HS.out _ (Kept.refl _) | (go_split_ands; exact HS.out _ (by repeat (first | exact Kept.refl _ | assumption | refine Kept.alloc ?_ _ | refine Kept.drew ?_ | refine Kept.drewN ?_ _ | refine Kept.setCell ?_ (by simp; try omega) _ | refine Kept.trans ?_ (by assumption)))) | exact HS.out _ (by repeat (first | exact Kept.refl _ | assumption | refine Kept.alloc ?_ _ | refine Kept.drew ?_ | refine Kept.drewN ?_ _ | refine Kept.setCell ?_ (by simp; try omega) _ | refine Kept.trans ?_ (by assumption))))
          (first
          | (go_at_call 13; (with_reducible refine (HO.out _ _ ?_).mono ?_); (focus exact sp_to HSZ.out (Kept.pcs (w := w6) (by repeat (first | exact Kept.refl _ | assumption | refine Kept.alloc ?_ _ | refine Kept.drew ?_ | refine Kept.drewN ?_ _ | refine Kept.setCell ?_ (by simp; try omega) _ | refine Kept.trans ?_ (by assumption))) PX.out)); rintro e w8 ⟨A8, c8, A9, c9, rfl, hR8, k8⟩; have R8 := hid hR8; clear hR8)
          | (go_at_call 12; (with_reducible refine (HI2.out _ _ _ ?_ ?_).mono ?_); (focus exact sp_to HSZ.out (Kept.pcs (w := w6) (by repeat (first | exact Kept.refl _ | assumption | refine Kept.alloc ?_ _ | refine Kept.drew ?_ | refine Kept.drewN ?_ _ | refine Kept.setCell ?_ (by simp; try omega) _ | refine Kept.trans ?_ (by assumption))) PD.out)); (focus exact R8.out); rintro e w9 ⟨rfl, k9⟩)
          | (go_at_call 11; (with_reducible refine (HM.out _ _ ?_).mono ?_); (focus exact sp_to HSZ.out (Kept.pcs (w := w6) (by repeat (first | exact Kept.refl _ | assumption | refine Kept.alloc ?_ _ | refine Kept.drew ?_ | refine Kept.drewN ?_ _ | refine Kept.setCell ?_ (by simp; try omega) _ | refine Kept.trans ?_ (by assumption))) PD.out)); rintro e w7 ⟨rfl, k7⟩))
        have K69 := hid (show Kept w6 w9 from (by repeat (first | exact Kept.refl _ | assumption | refine Kept.alloc ?_ _ | refine Kept.drew ?_ | refine Kept.drewN ?_ _ | refine Kept.setCell ?_ (by simp; try omega) _ | refine Kept.trans ?_ (by assumption))))
        clear k7 k8 k9
        have bd := K69.out.cb BD.out
        have m0 := bd.cell 0 (by simp); have m1 := bd.cell 1 (by simp)
        simp only [List.getElem_cons_zero, List.getElem_cons_succ] at m0 m1
        go_upto_region 13 with (first
          | (go_at_call 11; (with_reducible refine (HM.out _ _ ?_).mono ?_); (focus exact sp_to HSZ.out (Kept.pcs (w := w6) (K69.out.trans (by repeat (first | exact Kept.refl _ | assumption | refine Kept.alloc ?_ _ | refine Kept.drew ?_ | refine Kept.drewN ?_ _ | refine Kept.setCell ?_ (by simp; try omega) _ | refine Kept.trans ?_ (by assumption)))) PD.out)); rintro e w10 ⟨rfl, k10⟩; have x6 := (K69.out.trans (show Kept w9 w10 from (by repeat (first | exact Kept.refl _ | assumption | refine Kept.alloc ?_ _ | refine Kept.drew ?_ | refine Kept.drewN ?_ _ | refine Kept.setCell ?_ (by simp; try omega) _ | refine Kept.trans ?_ (by assumption))))).cb BX.out; have n0 := x6.cell 0 (by simp); have n1 := x6.cell 1 (by simp); simp only [List.getElem_cons_zero, List.getElem_cons_succ] at n0 n1)
          | (go_at_call 13; (with_reducible refine (HO.out _ _ ?_).mono ?_); (focus exact sp_to HSZ.out (Kept.pcs (w := w6) (K69.out.trans (by repeat (first | exact Kept.refl _ | assumption | refine Kept.alloc ?_ _ | refine Kept.drew ?_ | refine Kept.drewN ?_ _ | refine Kept.setCell ?_ (by simp; try omega) _ | refine Kept.trans ?_ (by assumption)))) PX.out)); rintro e w11 ⟨A8, c8, A9, c9, rfl, hR11, k11⟩; have R11 := hid hR11; clear hR11)
          | (go_at_call 16; (with_reducible refine (HRC.out _ _ _ ?_ ?_).mono ?_); (focus exact R11.out); (focus exact Kept.byts (w := w6) (K69.out.trans (by repeat (first | exact Kept.refl _ | assumption | refine Kept.alloc ?_ _ | refine Kept.drew ?_ | refine Kept.drewN ?_ _ | refine Kept.setCell ?_ (by simp; try omega) _ | refine Kept.trans ?_ (by assumption)))) DB.out); rintro e w12 ⟨A10, c10, A11, c11, A12, c12, n10, n11, rfl, hR12, hI12, k12⟩; have R12 := hid hR12; have I12 := hid hI12; clear hR12 hI12))
        have k13 : Kept w12 (w12.alloc (.cells #[.slice A10 n10 c10, .slice A11 n11 c11] 36)) := (Kept.refl w12).alloc _
        have b13 : CB (w12.alloc (.cells #[.slice A10 n10 c10, .slice A11 n11 c11] 36)) w12.heap.size 36 [.slice A10 n10 c10, .slice A11 n11 c11] := cb_new w12 36 [.slice A10 n10 c10, .slice A11 n11 c11]
        generalize (w12.alloc (.cells #[.slice A10 n10 c10, .slice A11 n11 c11] 36)) = w13 at *
        generalize w12.heap.size = Z at *
        have K9D := hid (show Kept w9 w13 from (show Kept w9 w10 from (by repeat (first | exact Kept.refl _ | assumption | refine Kept.alloc ?_ _ | refine Kept.drew ?_ | refine Kept.drewN ?_ _ | refine Kept.setCell ?_ (by simp; try omega) _ | refine Kept.trans ?_ (by assumption)))).trans (k11.trans (k12.trans k13)))
        have K6D := hid (K69.out.trans K9D.out)
        have HS7 := hid (show ∀ w', Kept w13 w' → w'.cell? ⟨Y, 0, none⟩ = some (.int .i64 s2) ∧ w'.cell? ⟨Y, 1, none⟩ = some (.slice A5 n2 c5) ∧ w'.cell? ⟨Z, 0, none⟩ = some (.slice A10 n10 c10) ∧ w'.cell? ⟨Z, 1, none⟩ = some (.slice A11 n11 c11) from fun w' k => by
          have a3 := k.cb (K6D.out.cb BY.out); have a4 := k.cb b13
          exact ⟨a3.cell 0 (by simp), a3.cell 1 (by simp), a4.cell 0 (by simp), a4.cell 1 (by simp)⟩)
        have R13 := hid (k13.rf R12.out); have I13 := hid (k13.ints I12.out)
        have I6 := hid ((K56.out.trans K6D.out).ints I5.out); have P6 := hid ((K56.out.trans K6D.out).pcs P5.out)
        have KWD := hid (KW.out.trans (K46.out.trans K6D.out))
        clear m0 m1 n0 n1 x6 b13 k10 k11 k12 k13 R11 R12 I12 I5 P5 HS BD BX PD PX K69 K9D K6D K56 K46
        obtain ⟨q0, q1, q2, q3⟩ := HS7.out _ (Kept.refl _)
        go_wp2_with (first
          | (go_at_call 12; (with_reducible refine (HI1.out _ _ _ ?_ ?_).mono ?_); (focus exact sp_to HS2.out (Kept.pcs (w := w13) (by repeat (first | exact Kept.refl _ | assumption | refine Kept.alloc ?_ _ | refine Kept.drew ?_ | refine Kept.drewN ?_ _ | refine Kept.setCell ?_ (by simp; try omega) _ | refine Kept.trans ?_ (by assumption))) P6.out)); (focus exact Kept.rf (w := w13) (by repeat (first | exact Kept.refl _ | assumption | refine Kept.alloc ?_ _ | refine Kept.drew ?_ | refine Kept.drewN ?_ _ | refine Kept.setCell ?_ (by simp; try omega) _ | refine Kept.trans ?_ (by assumption))) R13.out); rintro e w14 ⟨rfl, k14⟩)
          | (go_at_call 17; (with_reducible refine (HSA.out _ _ _ ?_ ?_).mono ?_); (focus exact Kept.ints (w := w13) (by repeat (first | exact Kept.refl _ | assumption | refine Kept.alloc ?_ _ | refine Kept.drew ?_ | refine Kept.drewN ?_ _ | refine Kept.setCell ?_ (by simp; try omega) _ | refine Kept.trans ?_ (by assumption))) I6.out); (focus exact Kept.ints (w := w13) (by repeat (first | exact Kept.refl _ | assumption | refine Kept.alloc ?_ _ | refine Kept.drew ?_ | refine Kept.drewN ?_ _ | refine Kept.setCell ?_ (by simp; try omega) _ | refine Kept.trans ?_ (by assumption))) I13.out); rintro e w15 ⟨rfl, k15⟩)
          | (go_at_call 15; (with_reducible refine (awake_any _).mono ?_); rintro e w16 ⟨rfl, k16⟩))
        go_ret
        exact ⟨rfl, KWD.out.trans (by repeat (first | exact Kept.refl _ | assumption | refine Kept.alloc ?_ _ | refine Kept.drew ?_ | refine Kept.drewN ?_ _ | refine Kept.setCell ?_ (by simp; try omega) _ | refine Kept.trans ?_ (by assumption)))⟩
end Go.Proofs.Ytfkmhdnapmicdaa
