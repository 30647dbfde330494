/- SparseCuts: the walk. -/
import Derived.Test.Ytfkmhdnapmicdaa19AD
import Derived.Test.Ytfkmhdnapmicdaa19AE
namespace Go.Proofs.Ytfkmhdnapmicdaa
set_option linter.unusedSimpArgs false
set_option linter.unusedVariables false
open Go.RowKit

theorem few_few (f : Fl) : fewF (fewF f) = fewF f := by
  unfold fewF
  dsimp only
  congr 1
  · by_cases h : 20000 < f.size ∧ f.size ≤ 463488
    · rw [if_pos h]; rfl
    · rw [if_neg h, if_neg h]
  · rw [← List.map_take, List.take_take, List.map_map]
    show List.map _ (List.take (min 20 20) f.L) = _
    rw [Nat.min_self]
    apply List.map_congr_left
    intro p _
    show fewP (fewP p) = fewP p
    unfold fewP
    dsimp only
    rw [List.take_take, Nat.min_self]
theorem few_to (f : Fl) (v : Value) (w : World) (h : Sp w v f) (g : Fl) (hg : fewF f = g) (s : Int) (hs : g.size = s) (n : Nat) (hn : g.L.length = n) : Calls Try.prog 8 #[v] w fun e w' => ∃ A c, e = .returned (.agg #[.int .i64 s, .slice A n c]) ∧ FRow w' w.heap.size (.slice A n c) g.L ∧ Kept w w' := by
  subst hg; subst hs; subst hn
  refine (few_any f v w h).mono ?_
  rintro e w' ⟨u, rfl, hP, k⟩
  obtain ⟨A, c, rfl⟩ := hP.pcs.shape
  exact ⟨A, c, rfl, hP, k⟩
theorem of_to (g : Fl) (v : Value) (w : World) (h : Sp w v g) (hv : Valid g) (n : Nat) (hn : (flB g).length = n) (N : Nat) (hN : (flT g).length = N) : Calls Try.prog 13 #[v] w fun e w' => ∃ A c A2 c2, e = .returned (.agg #[.slice A n c, .slice A2 N c2]) ∧ Rf w' (.agg #[.slice A n c, .slice A2 N c2]) (flB g) (flT g) ∧ Kept w w' := by
  subst hn; subst hN
  refine (of_any g v w h hv).mono ?_
  rintro e w' ⟨u, rfl, ⟨vB, vT, rfl, hB, hT⟩, k⟩
  obtain ⟨A, c, rfl⟩ := hB.shape
  obtain ⟨A2, c2, rfl⟩ := hT.shape
  exact ⟨A, c, A2, c2, rfl, ⟨_, _, rfl, hB, hT⟩, k⟩
theorem flT_len {g : Fl} : (flT g).length = (needI g.size).toNat := by rw [flT]; simp
theorem fl_lim {g : Fl} (hv : Valid g) : (flB g).length ≤ 463488 ∧ ((flT g).length : Int) ≤ needI ((flB g).length : Int) ∧ (flT g).length ≤ 8000 := by
  have h0 := hv.s0; have h1 := hv.s1
  have hn := needI_le h1
  rw [flB_len, flT_len, Int.toNat_of_nonneg h0]
  omega
theorem self_is {g : Fl} (hv : Valid g) : isB g (flB g) (flT g) = true := by
  refine isB_iff.2 ⟨mayB_t hv, by rw [flB_len]; have := hv.s0; omega, fun t ht => (flT_at hv t).symm, ?_⟩
  rw [flB]
/-- the document's Cut, with its shape -/
theorem rcut_to (o : Int) (g : Fl) (S : Nat) (ho : o = (S : Int)) (hS : S ≤ 463488) (hv : Valid g) (v : Value) (w : World) (hR : Rf w v (flB g) (flT g)) (q : Nat) (hq : (cutW g S).length = q) : Calls Try.prog 19 #[v, .int .i64 o] w fun e w' => ∃ A c A2 c2 A3 c3 n N, e = .returned (.tuple #[.agg #[.slice A n c, .slice A2 N c2], .slice A3 q c3]) ∧ Rf w' (.agg #[.slice A n c, .slice A2 N c2]) (rcB (flB g) S) (rcT (flT g) (needI (S : Int)).toNat) ∧ Ints w' (.slice A3 q c3) (cutW g S) ∧ Kept w w' := by
  subst ho; subst hq
  obtain ⟨l1, l2, l3⟩ := fl_lim hv
  refine (rcut_any (flB g) (flT g) S hS (by omega) l3 v w hR).mono ?_
  rintro e w' ⟨v2, u, rfl, ⟨vB, vT, rfl, hB, hT⟩, hI, k⟩
  rw [flB_len, rcW_is hv] at hI
  obtain ⟨A, c, rfl⟩ := hB.shape
  obtain ⟨A2, c2, rfl⟩ := hT.shape
  obtain ⟨A3, c3, rfl⟩ := hI.shape
  exact ⟨A, c, A2, c2, A3, c3, _, _, rfl, ⟨_, _, rfl, hB, hT⟩, hI, k⟩
/-- the document's Is, where it is true -/
theorem is_t (f : Fl) (B : List UInt8) (T : List Bool) (v u : Value) (w : World) (h : Sp w v f) (hR : Rf w u B T) (hB : B.length ≤ 1000000) (hT : (T.length : Int) ≤ needI (B.length : Int)) (hb : isB f B T = true) : Calls Try.prog 12 #[v, u] w fun e w' => e = .returned (.bool true) ∧ Kept w w' := by
  have := is_any f B T v u w h hR hB hT
  rw [hb] at this
  exact this
theorem none_t (w : World) : Calls Try.prog 14 #[.agg #[.int .i64 0, .slice none 0 0]] w fun e w' => e = .returned (.bool true) ∧ Kept w w' := none_any ⟨0, []⟩ _ w (sp_mk (pcs_nil w))
theorem cb_two {w : World} {g : Nat} {t : TypeId} {x y u v : Value} (h : CB w g t [x, y]) : CB ((w.setCell ⟨g, 0, none⟩ u).setCell ⟨g, 1, none⟩ v) g t [u, v] := CB.set (CB.set h 0 u) 1 v
set_option maxRecDepth 100000 in
set_option maxHeartbeats 4000000 in
theorem cuts_at (f : Fl) (v : Value) (size : Int) (w : World) (h : Sp w v f) : Calls Try.prog 4 #[v, .int .i64 size] w fun e w' => e = .returned (.bool true) ∧ Kept w w' := by
  obtain ⟨g, hg⟩ : ∃ g, fewF f = g := ⟨_, rfl⟩
  obtain ⟨s, hs⟩ : ∃ s, g.size = s := ⟨_, rfl⟩
  obtain ⟨n, hn⟩ : ∃ n, g.L.length = n := ⟨_, rfl⟩
  have HF1 := hid (fun (w' : World) (k : Kept w w') => few_to f v w' (k.sp h) g hg s hs n hn)
  have HF2 := hid (fun (u : Value) (w' : World) (k : Sp w' u g) => few_to g u w' k g (by rw [← hg, few_few]) s hs n hn)
  have HM := hid (fun (u : Value) (w' : World) (k : Sp w' u g) => rmay_any g u w' k)
  have HSZ := hid hs
  obtain ⟨vl, rfl, hP⟩ := h
  obtain ⟨A, c, rfl⟩ := hP.shape
  obtain ⟨s0, L⟩ := f
  dsimp only at *
  obtain ⟨m, hm⟩ : ∃ m, L.length = m := ⟨_, rfl⟩
  rw [hm] at HF1 ⊢
  clear hm hP hg hs hn
  obtain ⟨z, hz⟩ : ∃ z, (if 30000 < size ∧ size ≤ 463488 then 30000 else size) = z := ⟨_, rfl⟩
  have HZ := hid hz
  clear hz
  go_enter Try.func4, Try.ntmps4
  go_upto_region 2 with (go_at_call 8; (with_reducible refine (HF1.out _ ?_).mono ?_); exact (by repeat (first | exact Kept.refl _ | assumption | refine Kept.alloc ?_ _ | refine Kept.drew ?_ | refine Kept.drewN ?_ _ | refine Kept.setCell ?_ (by simp; try omega) _ | refine Kept.trans ?_ (by assumption))); rintro e w1 ⟨A1, c1, rfl, hP, k1⟩; have b1 := (k1.cb (cb_new w 24 [.int .i64 s0, .slice A m c])); have d0 := b1.cell 0 (by simp); have d1 := b1.cell 1 (by simp); have f0 := b1.frozen 0; have f1 := b1.frozen 1; simp only [List.getElem_cons_zero, List.getElem_cons_succ] at d0 d1)
  have b2 : CB ((w1.setCell ⟨w.heap.size, 0, none⟩ (.int .i64 s)).setCell ⟨w.heap.size, 1, none⟩ (.slice A1 n c1)) w.heap.size 24 [.int .i64 s, .slice A1 n c1] := cb_two b1
  have k2 : Kept w ((w1.setCell ⟨w.heap.size, 0, none⟩ (.int .i64 s)).setCell ⟨w.heap.size, 1, none⟩ (.slice A1 n c1)) := (((((Kept.refl w).alloc _).trans k1).setCell (by simp) _).setCell (by simp) _)
  have p2 : Pcs ((w1.setCell ⟨w.heap.size, 0, none⟩ (.int .i64 s)).setCell ⟨w.heap.size, 1, none⟩ (.slice A1 n c1)) (.slice A1 n c1) g.L := ((hP.low (p := ⟨w.heap.size, 0, none⟩) (by simp) _).low (p := ⟨w.heap.size, 1, none⟩) (by simp) _).pcs
  generalize ((w1.setCell ⟨w.heap.size, 0, none⟩ (.int .i64 s)).setCell ⟨w.heap.size, 1, none⟩ (.slice A1 n c1)) = w2 at *
  have B2 := hid b2; have K2 := hid k2; have P2 := hid p2
  clear b1 d0 d1 f0 f1 hP k1 b2 k2 p2
  go_cut [18] (fun t wx => t = .bool (decide (30000 < size ∧ size ≤ 463488)) ∧ w2 = wx)
  case first =>
    by_cases h1 : 30000 < size
    · by_cases h2 : size ≤ 463488
      · go_wp2_with fail
        go_meet
        exact ⟨congrArg Value.bool (decide_eq_true ⟨h1, h2⟩).symm, rfl⟩
      · go_wp2_with fail
        go_meet
        exact ⟨congrArg Value.bool (decide_eq_false (by omega)).symm, rfl⟩
    · go_wp2_with fail
      go_meet
      exact ⟨congrArg Value.bool (decide_eq_false (by omega)).symm, rfl⟩
  case rest =>
  obtain ⟨rfl, rfl⟩ := hcut
  go_upto_if 18 with fail
  go_cut [1] (fun t wx => t = .int .i64 z ∧ w2 = wx)
  case first =>
    by_cases h1 : 30000 < size ∧ size ≤ 463488
    · have e1 : decide (30000 < size ∧ size ≤ 463488) = true := decide_eq_true h1
      have e2 : z = 30000 := by rw [← HZ.out, if_pos h1]
      rw [e1]
      go_wp2_with fail
      go_meet
      rw [e2]
      exact ⟨rfl, rfl⟩
    · have e1 : decide (30000 < size ∧ size ≤ 463488) = false := decide_eq_false h1
      have e2 : z = size := by rw [← HZ.out, if_neg h1]
      rw [e1]
      go_wp2_with fail
      go_meet
      rw [e2]
      exact ⟨rfl, rfl⟩
  case rest =>
  obtain ⟨rfl, rfl⟩ := hcut
  have d0 := B2.out.cell 0 (by simp); have d1 := B2.out.cell 1 (by simp)
  simp only [List.getElem_cons_zero, List.getElem_cons_succ] at d0 d1
  have HNO := hid (fun (hno : mayB g = false ∨ z < 0) (u : Value) (w' : World) (k : Sp w' u g) => cut_err g z u w' k hno)
  have HBI := hid (fun (hv : Valid g) (hb : 463488 < z) (u : Value) (w' : World) (k : Sp w' u g) => cut_big g z u w' k hv hb)
  go_upto_region 5 with (go_at_call 8; (with_reducible refine (HF2.out _ _ ?_).mono ?_); (focus exact sp_to HSZ.out P2.out); rintro e w3 ⟨A3, c3, rfl, hP3, k3⟩; have P3 := hid hP3.pcs; have K3 := hid k3; clear hP3 k3)
  have b4 : CB (w3.alloc (.cells #[.int .i64 s, .slice A3 n c3] 24)) w3.heap.size 24 [.int .i64 s, .slice A3 n c3] := cb_new w3 24 [.int .i64 s, .slice A3 n c3]
  have k4 : Kept w3 (w3.alloc (.cells #[.int .i64 s, .slice A3 n c3] 24)) := (Kept.refl w3).alloc _
  generalize (w3.alloc (.cells #[.int .i64 s, .slice A3 n c3] 24)) = w4 at *
  generalize w3.heap.size = X at *
  have B4 := hid b4; have K4 := hid (K3.out.trans k4); have P4 := hid (k4.pcs P3.out)
  have e0 := (K4.out.cb B2.out).cell 0 (by simp); have e1 := (K4.out.cb B2.out).cell 1 (by simp)
  simp only [List.getElem_cons_zero, List.getElem_cons_succ] at e0 e1
  have PP := hid (K4.out.pcs P2.out)
  have BB := hid (K4.out.cb B2.out)
  have KW := hid (K2.out.trans K4.out)
  clear b4 k4 d0 d1 P3 K3
  cases hmb : mayB g with
  | false =>
    have HC := hid (HNO.out (.inl hmb))
    rw [hmb] at HM
    clear HNO HBI hmb
    go_wp2_with (first
      | (go_at_call 18; (with_reducible refine (HC.out _ _ ?_).mono ?_); (focus exact sp_to HSZ.out PP.out); rintro e w5 ⟨rfl, k5⟩; have x5 := k5.cb BB.out; have m0 := x5.cell 0 (by simp); have m1 := x5.cell 1 (by simp); simp only [List.getElem_cons_zero, List.getElem_cons_succ] at m0 m1)
      | (go_at_call 11; (with_reducible refine (HM.out _ _ ?_).mono ?_); (focus exact sp_to HSZ.out (Kept.pcs (w := w4) (by repeat (first | exact Kept.refl _ | assumption | refine Kept.alloc ?_ _ | refine Kept.drew ?_ | refine Kept.drewN ?_ _ | refine Kept.setCell ?_ (by simp; try omega) _ | refine Kept.trans ?_ (by assumption))) PP.out)); rintro e w6 ⟨rfl, k6⟩; have x6 := k6.cb (cb_new w5 24 [.int .i64 0, .slice none 0 0]); have n0 := x6.cell 0 (by simp); have n1 := x6.cell 1 (by simp); simp only [List.getElem_cons_zero, List.getElem_cons_succ] at n0 n1)
      | (go_at_call 14; (with_reducible refine (none_t _).mono ?_); rintro e w7 ⟨rfl, k7⟩)
      | (go_at_call 15; (with_reducible refine (awake_any _).mono ?_); rintro e w8 ⟨rfl, k8⟩)
      )
    go_ret
    exact ⟨rfl, KW.out.trans (by repeat (first | exact Kept.refl _ | assumption | refine Kept.alloc ?_ _ | refine Kept.drew ?_ | refine Kept.drewN ?_ _ | refine Kept.setCell ?_ (by simp; try omega) _ | refine Kept.trans ?_ (by assumption)))⟩
  | true =>
    have HV := hid (mayB_iff.1 hmb)
    rw [hmb] at HM
    clear hmb
    by_cases hz : z < 0
    · have HC := hid (HNO.out (.inr hz))
      clear HNO HBI
      go_wp2_with (first
        | (go_at_call 18; (with_reducible refine (HC.out _ _ ?_).mono ?_); (focus exact sp_to HSZ.out PP.out); rintro e w5 ⟨rfl, k5⟩; have x5 := k5.cb BB.out; have m0 := x5.cell 0 (by simp); have m1 := x5.cell 1 (by simp); simp only [List.getElem_cons_zero, List.getElem_cons_succ] at m0 m1)
        | (go_at_call 11; (with_reducible refine (HM.out _ _ ?_).mono ?_); (focus exact sp_to HSZ.out (Kept.pcs (w := w4) (by repeat (first | exact Kept.refl _ | assumption | refine Kept.alloc ?_ _ | refine Kept.drew ?_ | refine Kept.drewN ?_ _ | refine Kept.setCell ?_ (by simp; try omega) _ | refine Kept.trans ?_ (by assumption))) PP.out)); rintro e w6 ⟨rfl, k6⟩; have x6 := k6.cb (cb_new w5 24 [.int .i64 0, .slice none 0 0]); have n0 := x6.cell 0 (by simp); have n1 := x6.cell 1 (by simp); simp only [List.getElem_cons_zero, List.getElem_cons_succ] at n0 n1)
        | (go_at_call 14; (with_reducible refine (none_t _).mono ?_); rintro e w7 ⟨rfl, k7⟩)
        | (go_at_call 15; (with_reducible refine (awake_any _).mono ?_); rintro e w8 ⟨rfl, k8⟩)
        )
      go_ret
      exact ⟨rfl, KW.out.trans (by repeat (first | exact Kept.refl _ | assumption | refine Kept.alloc ?_ _ | refine Kept.drew ?_ | refine Kept.drewN ?_ _ | refine Kept.setCell ?_ (by simp; try omega) _ | refine Kept.trans ?_ (by assumption)))⟩
    · obtain ⟨S, rfl⟩ : ∃ S : Nat, z = (S : Int) := ⟨z.toNat, by omega⟩
      have i1 : decide ((S : Int) < 0) = false := decide_eq_false hz
      by_cases hb : 463488 < (S : Int)
      · have HC := hid (HBI.out HV.out hb)
        clear HNO HBI
        go_wp2_with (first
          | (go_at_call 18; (with_reducible refine (HC.out _ _ ?_).mono ?_); (focus exact sp_to HSZ.out PP.out); rintro e w5 ⟨rfl, k5⟩; have x5 := k5.cb BB.out; have m0 := x5.cell 0 (by simp); have m1 := x5.cell 1 (by simp); simp only [List.getElem_cons_zero, List.getElem_cons_succ] at m0 m1)
          | (go_at_call 11; (with_reducible refine (HM.out _ _ ?_).mono ?_); (focus exact sp_to HSZ.out (Kept.pcs (w := w4) (by repeat (first | exact Kept.refl _ | assumption | refine Kept.alloc ?_ _ | refine Kept.drew ?_ | refine Kept.drewN ?_ _ | refine Kept.setCell ?_ (by simp; try omega) _ | refine Kept.trans ?_ (by assumption))) PP.out)); rintro e w6 ⟨rfl, k6⟩; have x6 := k6.cb (cb_new w5 24 [.int .i64 0, .slice none 0 0]); have n0 := x6.cell 0 (by simp); have n1 := x6.cell 1 (by simp); simp only [List.getElem_cons_zero, List.getElem_cons_succ] at n0 n1)
          | (go_at_call 14; (with_reducible refine (none_t _).mono ?_); rintro e w7 ⟨rfl, k7⟩)
          | (go_at_call 15; (with_reducible refine (awake_any _).mono ?_); rintro e w8 ⟨rfl, k8⟩)
          )
        go_ret
        exact ⟨rfl, KW.out.trans (by repeat (first | exact Kept.refl _ | assumption | refine Kept.alloc ?_ _ | refine Kept.drew ?_ | refine Kept.drewN ?_ _ | refine Kept.setCell ?_ (by simp; try omega) _ | refine Kept.trans ?_ (by assumption)))⟩
      · have i2 : decide (463488 < (S : Int)) = false := decide_eq_false hb
        have hS : S ≤ 463488 := by omega
        clear HNO HBI
        obtain ⟨g2, hg2⟩ : ∃ g2, cutF g (S : Int) = g2 := ⟨_, rfl⟩
        have hs2 : g2.size = (S : Int) := by rw [← hg2]; rfl
        obtain ⟨n2, hn2⟩ : ∃ n2, g2.L.length = n2 := ⟨_, rfl⟩
        obtain ⟨N, hN⟩ : ∃ N, cutW g (S : Int) = N := ⟨_, rfl⟩
        obtain ⟨q, hq⟩ : ∃ q, N.length = q := ⟨_, rfl⟩
        obtain ⟨nB, hnB⟩ : ∃ nB, (flB g).length = nB := ⟨_, rfl⟩
        obtain ⟨nT, hnT⟩ : ∃ nT, (flT g).length = nT := ⟨_, rfl⟩
        have HC := hid (fun (u : Value) (w' : World) (k : Sp w' u g) => cut_to S g S u w' k rfl HV.out hS g2 hg2 S hs2 n2 hn2 N hN q hq)
        have HO := hid (fun (u : Value) (w' : World) (k : Sp w' u g) => of_to g u w' k HV.out nB hnB nT hnT)
        have HRC := hid (fun (u : Value) (w' : World) (k : Rf w' u (flB g) (flT g)) => rcut_to S g S rfl hS HV.out u w' k q (by rw [hN]; exact hq))
        rw [hN] at HRC
        have hl := fl_lim HV.out
        have hneed := needI_le (show (S : Int) ≤ 463488 by omega)
        have HI1 := hid (fun (u v : Value) (w' : World) (k : Sp w' u g2) (k2 : Rf w' v (rcB (flB g) S) (rcT (flT g) (needI (S : Int)).toNat)) => is_t g2 _ _ u v w' k k2 (by rw [rcB]; simp; omega) (by rw [rcB, rcT]; simp; omega) (by rw [← hg2]; exact cut_is HV.out S hS _ (by omega)))
        have HI2 := hid (fun (u v : Value) (w' : World) (k : Sp w' u g) (k2 : Rf w' v (flB g) (flT g)) => is_t g _ _ u v w' k k2 (by omega) hl.2.1 (self_is HV.out))
        have HSA := hid (fun (u v : Value) (w' : World) (k : Ints w' u N) (k2 : Ints w' v N) => same_t u v N N w' k k2 rfl)
        have HS2 := hid hs2
        clear hg2 hs2 hn2 hN hq hnB hnT hl hneed
        go_upto_region 11 with (first
          | (go_at_call 18; (with_reducible refine (HC.out _ _ ?_).mono ?_); (focus exact sp_to HSZ.out PP.out); rintro e w5 ⟨A5, c5, A6, c6, rfl, hP5, hI5, k5⟩; have P5 := hid hP5; have I5 := hid hI5; have K5 := hid k5; clear hP5 hI5; have x5 := k5.cb BB.out; have m0 := x5.cell 0 (by simp); have m1 := x5.cell 1 (by simp); simp only [List.getElem_cons_zero, List.getElem_cons_succ] at m0 m1)
          | (go_at_call 11; (with_reducible refine (HM.out _ _ ?_).mono ?_); (focus exact sp_to HSZ.out (Kept.pcs (w := w4) (by repeat (first | exact Kept.refl _ | assumption | refine Kept.alloc ?_ _ | refine Kept.drew ?_ | refine Kept.drewN ?_ _ | refine Kept.setCell ?_ (by simp; try omega) _ | refine Kept.trans ?_ (by assumption))) PP.out)); rintro e w6 ⟨rfl, k6⟩; have X6 := hid (k6.cb (cb_new w5 24 [.int .i64 (S : Int), .slice A5 n2 c5])); have y6 := (show Kept w4 w6 from (by repeat (first | exact Kept.refl _ | assumption | refine Kept.alloc ?_ _ | refine Kept.drew ?_ | refine Kept.drewN ?_ _ | refine Kept.setCell ?_ (by simp; try omega) _ | refine Kept.trans ?_ (by assumption)))).cb B4.out; have n0 := y6.cell 0 (by simp); have n1 := y6.cell 1 (by simp); simp only [List.getElem_cons_zero, List.getElem_cons_succ] at n0 n1)
          | (go_at_call 13; (with_reducible refine (HO.out _ _ ?_).mono ?_); (focus exact sp_to HSZ.out (Kept.pcs (w := w4) (by repeat (first | exact Kept.refl _ | assumption | refine Kept.alloc ?_ _ | refine Kept.drew ?_ | refine Kept.drewN ?_ _ | refine Kept.setCell ?_ (by simp; try omega) _ | refine Kept.trans ?_ (by assumption))) P4.out)); rintro e w7 ⟨A7, c7, A8, c8, rfl, hR7, k7⟩; have R7 := hid hR7; clear hR7)
          | (go_at_call 19; (with_reducible refine (HRC.out _ _ ?_).mono ?_); (focus exact R7.out); rintro e w8 ⟨A9, c9, A10, c10, A11, c11, n9, n10, rfl, hR8, hI8, k8⟩; have R8 := hid hR8; have I8 := hid hI8; clear hR8 hI8)
          )
        have k9 : Kept w8 (w8.alloc (.cells #[.slice A9 n9 c9, .slice A10 n10 c10] 36)) := (Kept.refl w8).alloc _
        have b9 : CB (w8.alloc (.cells #[.slice A9 n9 c9, .slice A10 n10 c10] 36)) w8.heap.size 36 [.slice A9 n9 c9, .slice A10 n10 c10] := cb_new w8 36 [.slice A9 n9 c9, .slice A10 n10 c10]
        generalize (w8.alloc (.cells #[.slice A9 n9 c9, .slice A10 n10 c10] 36)) = w9 at *
        generalize w8.heap.size = Z at *
        generalize w5.heap.size = Y at *
        have K69 := hid (k7.trans (k8.trans k9))
        have k56 : Kept w5 w6 := ((Kept.refl w5).alloc _).trans k6
        have k46 : Kept w4 w6 := k5.trans k56
        have K49 := hid (k46.trans K69.out)
        have K59 := hid (k56.trans K69.out)
        have HS := hid (show ∀ w', Kept w9 w' → w'.cell? ⟨w.heap.size, 0, none⟩ = some (.int .i64 s) ∧ w'.cell? ⟨w.heap.size, 1, none⟩ = some (.slice A1 n c1) ∧ w'.cell? ⟨X, 0, none⟩ = some (.int .i64 s) ∧ w'.cell? ⟨X, 1, none⟩ = some (.slice A3 n c3) ∧ w'.cell? ⟨Y, 0, none⟩ = some (.int .i64 (S : Int)) ∧ w'.cell? ⟨Y, 1, none⟩ = some (.slice A5 n2 c5) ∧ w'.cell? ⟨Z, 0, none⟩ = some (.slice A9 n9 c9) ∧ w'.cell? ⟨Z, 1, none⟩ = some (.slice A10 n10 c10) from fun w' k => by
          have a1 := k.cb (K49.out.cb BB.out); have a2 := k.cb (K49.out.cb B4.out); have a3 := k.cb (K69.out.cb X6.out); have a4 := k.cb b9
          exact ⟨a1.cell 0 (by simp), a1.cell 1 (by simp), a2.cell 0 (by simp), a2.cell 1 (by simp), a3.cell 0 (by simp), a3.cell 1 (by simp), a4.cell 0 (by simp), a4.cell 1 (by simp)⟩)
        have R8b := hid (k9.rf R8.out); have I8b := hid (k9.ints I8.out)
        have I5b := hid (K59.out.ints I5.out); have P5b := hid (K59.out.pcs P5.out)
        have P4b := hid (K49.out.pcs P4.out); have PPb := hid (K49.out.pcs PP.out)
        have KW9 := hid (KW.out.trans K49.out)
        clear e0 e1 m0 m1 n0 n1 x5 y6 b9 k5 k6 k7 k8 k9 k46 k56 X6 BB B4 R7 R8 I8 I5 P5 P4 PP K69 K49 K59 K5
        go_region_held3 (fun w' => w'.cell? ⟨w.heap.size, 0, none⟩ = some (.int .i64 s) ∧ w'.cell? ⟨w.heap.size, 1, none⟩ = some (.slice A1 n c1) ∧ w'.cell? ⟨X, 0, none⟩ = some (.int .i64 s) ∧ w'.cell? ⟨X, 1, none⟩ = some (.slice A3 n c3) ∧ w'.cell? ⟨Y, 0, none⟩ = some (.int .i64 (S : Int)) ∧ w'.cell? ⟨Y, 1, none⟩ = some (.slice A5 n2 c5) ∧ w'.cell? ⟨Z, 0, none⟩ = some (.slice A9 n9 c9) ∧ w'.cell? ⟨Z, 1, none⟩ = some (.slice A10 n10 c10))
          (first | exact HS.out _ (Kept.refl _) | (go_split_ands; exact HS.out _ (by repeat (first | exact Kept.refl _ | assumption | refine Kept.alloc ?_ _ | refine Kept.drew ?_ | refine Kept.drewN ?_ _ | refine Kept.setCell ?_ (by simp; try omega) _ | refine Kept.trans ?_ (by assumption)))) | exact HS.out _ (by repeat (first | exact Kept.refl _ | assumption | refine Kept.alloc ?_ _ | refine Kept.drew ?_ | refine Kept.drewN ?_ _ | refine Kept.setCell ?_ (by simp; try omega) _ | refine Kept.trans ?_ (by assumption))))
          (first
          | (go_at_call 12; (with_reducible refine (HI1.out _ _ _ ?_ ?_).mono ?_); (focus exact sp_to HS2.out (Kept.pcs (w := w9) (by repeat (first | exact Kept.refl _ | assumption | refine Kept.alloc ?_ _ | refine Kept.drew ?_ | refine Kept.drewN ?_ _ | refine Kept.setCell ?_ (by simp; try omega) _ | refine Kept.trans ?_ (by assumption))) P5b.out)); (focus exact Kept.rf (w := w9) (by repeat (first | exact Kept.refl _ | assumption | refine Kept.alloc ?_ _ | refine Kept.drew ?_ | refine Kept.drewN ?_ _ | refine Kept.setCell ?_ (by simp; try omega) _ | refine Kept.trans ?_ (by assumption))) R8b.out); rintro e w10 ⟨rfl, k10⟩)
          | (go_at_call 17; (with_reducible refine (HSA.out _ _ _ ?_ ?_).mono ?_); (focus exact Kept.ints (w := w9) (by repeat (first | exact Kept.refl _ | assumption | refine Kept.alloc ?_ _ | refine Kept.drew ?_ | refine Kept.drewN ?_ _ | refine Kept.setCell ?_ (by simp; try omega) _ | refine Kept.trans ?_ (by assumption))) I5b.out); (focus exact Kept.ints (w := w9) (by repeat (first | exact Kept.refl _ | assumption | refine Kept.alloc ?_ _ | refine Kept.drew ?_ | refine Kept.drewN ?_ _ | refine Kept.setCell ?_ (by simp; try omega) _ | refine Kept.trans ?_ (by assumption))) I8b.out); rintro e w11 ⟨rfl, k11⟩)
          | (go_at_call 13; (with_reducible refine (HO.out _ _ ?_).mono ?_); (focus exact sp_to HSZ.out (Kept.pcs (w := w9) (by repeat (first | exact Kept.refl _ | assumption | refine Kept.alloc ?_ _ | refine Kept.drew ?_ | refine Kept.drewN ?_ _ | refine Kept.setCell ?_ (by simp; try omega) _ | refine Kept.trans ?_ (by assumption))) P4b.out)); rintro e w12 ⟨A12, c12, A13, c13, rfl, hR12, k12⟩; have R12 := hid hR12; clear hR12)
          | (go_at_call 12; (with_reducible refine (HI2.out _ _ _ ?_ ?_).mono ?_); (focus exact sp_to HSZ.out (Kept.pcs (w := w9) (by repeat (first | exact Kept.refl _ | assumption | refine Kept.alloc ?_ _ | refine Kept.drew ?_ | refine Kept.drewN ?_ _ | refine Kept.setCell ?_ (by simp; try omega) _ | refine Kept.trans ?_ (by assumption))) PPb.out)); (focus exact R12.out); rintro e w13 ⟨rfl, k13⟩)
          | (go_at_call 15; (with_reducible refine (awake_any _).mono ?_); rintro e w14 ⟨rfl, k14⟩))
        all_goals (
          go_wp2_with fail
          go_ret
          exact ⟨rfl, KW9.out.trans (by repeat (first | exact Kept.refl _ | assumption | refine Kept.alloc ?_ _ | refine Kept.drew ?_ | refine Kept.drewN ?_ _ | refine Kept.setCell ?_ (by simp; try omega) _ | refine Kept.trans ?_ (by assumption)))⟩)
end Go.Proofs.Ytfkmhdnapmicdaa
