/- SparseTwice: the walk. -/
import Derived.Test.Ytfkmhdnapmicdaa19AH
import Derived.StillTailTactics
namespace Go.Proofs.Ytfkmhdnapmicdaa
set_option linter.unusedSimpArgs false
set_option linter.unusedVariables false
open Go.RowKit

theorem few_small {f g : Fl} (hg : fewF f = g) (hv : Valid g) : g.size ≤ 20000 := by
  have h1 := hv.s1
  rw [← hg] at h1 ⊢
  unfold fewF at *
  dsimp only at *
  split at h1
  · next h => rw [if_pos h]; omega
  · next h => rw [if_neg h]; omega
theorem OPc.low {w : World} {base base' : Nat} {v : Value} {L : List Pc} (h : OPc w base v L) (hb : base' ≤ base) : OPc w base' v L := by
  obtain ⟨a, h, e⟩ := h; exact ⟨a, h.low hb, e⟩
/-- a file stored into a box that was there ahead of the call -/
theorem opc_store {w w' : World} {n : Nat} {A : Option Addr} {c : Nat} {g : Fl} {H : Nat} {x y : Value} (h : OPc w' w.heap.size (.slice A n c) g.L) (hH : H < w.heap.size) : Pcs ((w'.setCell ⟨H, 0, none⟩ x).setCell ⟨H, 1, none⟩ y) (.slice A n c) g.L :=
  ((h.setLow (p := ⟨H, 0, none⟩) hH x).setLow (p := ⟨H, 1, none⟩) hH y).pcs
theorem frow_store {w w' : World} {n : Nat} {A : Option Addr} {c : Nat} {M : List Pc} {H : Nat} {x y : Value} (h : FRow w' w.heap.size (.slice A n c) M) (hH : H < w.heap.size) : Pcs ((w'.setCell ⟨H, 0, none⟩ x).setCell ⟨H, 1, none⟩ y) (.slice A n c) M :=
  ((h.low (p := ⟨H, 0, none⟩) hH x).low (p := ⟨H, 1, none⟩) hH y).pcs
theorem same_to (f g : Fl) (v u : Value) (w : World) (h : Sp w v f) (hg : Sp w u g) (hb : sameB f g = true) : Calls Try.prog 22 #[v, u] w fun e w' => e = .returned (.bool true) ∧ Kept w w' := by
  have := ssame_any f g v u w h hg
  rw [hb] at this
  exact this
set_option maxRecDepth 100000 in
set_option maxHeartbeats 4000000 in
theorem twice_at (s0 : Int) (vl : Value) (L : List Pc) (off gap : Nat) (va : Value) (l : List UInt8) (vb : Value) (r : List UInt8) (w : World) (hP : Pcs w vl L) (ha : Byts w va l) (hb : Byts w vb r) (ho : off ≤ 65535) (hgp : gap ≤ 65535) :
    Calls Try.prog 6 #[.agg #[.int .i64 s0, vl, .int .u16 (off : Int), .int .u16 (gap : Int), va, vb]] w fun e w' => e = .returned (.bool true) ∧ Kept w w' := by
  obtain ⟨g, hg⟩ : ∃ g, fewF ⟨s0, L⟩ = g := ⟨_, rfl⟩
  obtain ⟨s, hs⟩ : ∃ s, g.size = s := ⟨_, rfl⟩
  obtain ⟨n, hn⟩ : ∃ n, g.L.length = n := ⟨_, rfl⟩
  obtain ⟨a, had⟩ : ∃ d, l.take 700 = d := ⟨_, rfl⟩
  obtain ⟨b, hbd⟩ : ∃ d, r.take 700 = d := ⟨_, rfl⟩
  obtain ⟨ma, hma⟩ : ∃ m, a.length = m := ⟨_, rfl⟩
  obtain ⟨mb, hmb⟩ : ∃ m, b.length = m := ⟨_, rfl⟩
  have hma3 : ma ≤ 700 := by rw [← hma, ← had, List.length_take]; omega
  have hmb3 : mb ≤ 700 := by rw [← hmb, ← hbd, List.length_take]; omega
  have HF1 := hid (fun (w' : World) (k : Kept w w') => few_to ⟨s0, L⟩ _ w' (k.sp (sp_mk hP)) g hg s hs n hn)
  have HOA := hid (fun (w' : World) (k : Kept w w') => octets_to l va w' (k.byts ha) a had ma hma)
  have HOB := hid (fun (w' : World) (k : Kept w w') => octets_to r vb w' (k.byts hb) b hbd mb hmb)
  have HM := hid (fun (u : Value) (w' : World) (k : Sp w' u g) => may_any g u w' k)
  have HSZ := hid hs; have HMA := hid hma; have HMB := hid hmb; have HG := hid hg
  have HHA := hid ha; have HHB := hid hb
  obtain ⟨A, c, rfl⟩ := hP.shape
  obtain ⟨Aa, ca, rfl⟩ := ha.shape
  obtain ⟨Ab, cb, rfl⟩ := hb.shape
  obtain ⟨m, hm⟩ : ∃ m, L.length = m := ⟨_, rfl⟩
  obtain ⟨la, hla⟩ : ∃ m, l.length = m := ⟨_, rfl⟩
  obtain ⟨lb, hlb⟩ : ∃ m, r.length = m := ⟨_, rfl⟩
  rw [hm] at HF1 ⊢
  rw [hla] at HOA HHA ⊢
  rw [hlb] at HOB HHB ⊢
  clear hm hP hg hs hn had hbd hma hmb hla hlb ha hb
  obtain ⟨p, hp⟩ : ∃ p, off % 3000 = p := ⟨_, rfl⟩
  obtain ⟨gq, hgq⟩ : ∃ q, gap % 400 = q := ⟨_, rfl⟩
  obtain ⟨o, hoo⟩ : ∃ o, p + ma + gq = o := ⟨_, rfl⟩
  have hp3 : p < 3000 := by omega
  have hg3 : gq < 400 := by omega
  have t1 : Int.tmod (off : Int) 3000 = (p : Int) := by rw [Int.tmod_eq_emod_of_nonneg (by omega)]; omega
  have t2 : Int.tmod (gap : Int) 400 = (gq : Int) := by rw [Int.tmod_eq_emod_of_nonneg (by omega)]; omega
  have y1 : IntKind.i64.wrap (off : Int) = (off : Int) := IntWalk.i64_in _ (by omega)
  have y2 : IntKind.i64.wrap (gap : Int) = (gap : Int) := IntWalk.i64_in _ (by omega)
  have y3 : IntKind.i64.wrap (p : Int) = (p : Int) := IntWalk.i64_in _ (by omega)
  have y4 : IntKind.i64.wrap (gq : Int) = (gq : Int) := IntWalk.i64_in _ (by omega)
  have y5 : IntKind.i64.wrap ((p : Int) + (ma : Int)) = (p : Int) + (ma : Int) := IntWalk.i64_in _ (by omega)
  have y6 : IntKind.i64.wrap ((p : Int) + (ma : Int) + (gq : Int)) = (o : Int) := by rw [IntWalk.i64_in _ (by omega)]; omega
  have HOO := hid hoo
  clear hp hgq hoo
  go_enter Try.func6, Try.ntmps6
  go_upto_region 1 with fail
  have k0 : Kept w (w.alloc (.cells #[.int .i64 s0, .slice A m c, .int .u16 (off : Int), .int .u16 (gap : Int), .slice Aa la ca, .slice Ab lb cb] 53)) := (Kept.refl w).alloc _
  have b0 : CB (w.alloc (.cells #[.int .i64 s0, .slice A m c, .int .u16 (off : Int), .int .u16 (gap : Int), .slice Aa la ca, .slice Ab lb cb] 53)) w.heap.size 53 [.int .i64 s0, .slice A m c, .int .u16 (off : Int), .int .u16 (gap : Int), .slice Aa la ca, .slice Ab lb cb] := cb_new w _ [.int .i64 s0, .slice A m c, .int .u16 (off : Int), .int .u16 (gap : Int), .slice Aa la ca, .slice Ab lb cb]
  generalize (w.alloc (.cells #[.int .i64 s0, .slice A m c, .int .u16 (off : Int), .int .u16 (gap : Int), .slice Aa la ca, .slice Ab lb cb] 53)) = w0 at *
  have K0 := hid k0; have B0 := hid b0
  generalize w.heap.size = D at *
  have HS := hid (show ∀ w', Kept w0 w' → w'.cell? ⟨D, 0, none⟩ = some (.int .i64 s0) ∧ w'.cell? ⟨D, 1, none⟩ = some (.slice A m c) ∧ w'.cell? ⟨D, 2, none⟩ = some (.int .u16 (off : Int)) ∧ w'.cell? ⟨D, 3, none⟩ = some (.int .u16 (gap : Int)) ∧ w'.cell? ⟨D, 4, none⟩ = some (.slice Aa la ca) ∧ w'.cell? ⟨D, 5, none⟩ = some (.slice Ab lb cb) from fun w' k => by
    have a1 := k.cb B0.out
    exact ⟨a1.cell 0 (by simp), a1.cell 1 (by simp), a1.cell 2 (by simp), a1.cell 3 (by simp), a1.cell 4 (by simp), a1.cell 5 (by simp)⟩)
  clear k0 b0
  go_cut [3, 4, 5, 6, 7] (fun t3 t4 t5 t6 t7 wx => ∃ (H : Nat) (A1 : Option Addr) (c1 : Nat) (A2 : Option Addr) (c2 : Nat) (A3 : Option Addr) (c3 : Nat), t3 = .pointer (some ⟨H, 0, none⟩) ∧ t4 = .int .u16 (off : Int) ∧ t5 = .int .u16 (gap : Int) ∧ t6 = .slice A2 ma c2 ∧ t7 = .slice A3 mb c3 ∧ CB wx H 24 [.int .i64 s, .slice A1 n c1] ∧ Pcs wx (.slice A1 n c1) g.L ∧ Byts wx (.slice A2 ma c2) a ∧ Byts wx (.slice A3 mb c3) b ∧ Kept w0 wx)
  case first =>
    go_region_held3 (fun w' => w'.cell? ⟨D, 0, none⟩ = some (.int .i64 s0) ∧ w'.cell? ⟨D, 1, none⟩ = some (.slice A m c) ∧ w'.cell? ⟨D, 2, none⟩ = some (.int .u16 (off : Int)) ∧ w'.cell? ⟨D, 3, none⟩ = some (.int .u16 (gap : Int)) ∧ w'.cell? ⟨D, 4, none⟩ = some (.slice Aa la ca) ∧ w'.cell? ⟨D, 5, none⟩ = some (.slice Ab lb cb))
      (first | exact HS.out _ (Kept.refl _) | (go_split_ands; exact HS.out _ (by repeat (first | exact Kept.refl _ | assumption | refine Kept.alloc ?_ _ | refine Kept.drew ?_ | refine Kept.drewN ?_ _ | refine Kept.setCell ?_ (by simp; try omega) _ | refine Kept.trans ?_ (by assumption)))) | exact HS.out _ (by repeat (first | exact Kept.refl _ | assumption | refine Kept.alloc ?_ _ | refine Kept.drew ?_ | refine Kept.drewN ?_ _ | refine Kept.setCell ?_ (by simp; try omega) _ | refine Kept.trans ?_ (by assumption))))
      (first
      | (go_at_call 9; (with_reducible refine (HOA.out _ ?_).mono ?_); (focus exact K0.out.trans (by repeat (first | exact Kept.refl _ | assumption | refine Kept.alloc ?_ _ | refine Kept.drew ?_ | refine Kept.drewN ?_ _ | refine Kept.setCell ?_ (by simp; try omega) _ | refine Kept.trans ?_ (by assumption)))); rintro e w3 ⟨A2, c2, rfl, hA2, rfl⟩)
      | (go_at_call 9; (with_reducible refine (HOB.out _ ?_).mono ?_); (focus exact K0.out.trans (by repeat (first | exact Kept.refl _ | assumption | refine Kept.alloc ?_ _ | refine Kept.drew ?_ | refine Kept.drewN ?_ _ | refine Kept.setCell ?_ (by simp; try omega) _ | refine Kept.trans ?_ (by assumption)))); rintro e w4 ⟨A3, c3, rfl, hA3, rfl⟩)
      | (go_at_call 8; (with_reducible refine (HF1.out _ ?_).mono ?_); (focus exact K0.out.trans (by repeat (first | exact Kept.refl _ | assumption | refine Kept.alloc ?_ _ | refine Kept.drew ?_ | refine Kept.drewN ?_ _ | refine Kept.setCell ?_ (by simp; try omega) _ | refine Kept.trans ?_ (by assumption)))); rintro e w2 ⟨A1, c1, rfl, hF, k2⟩; have xc := k2.cb (cb_made w0.drew 24 w0.heap.size rfl); have x0 := xc.cell 0 (by simp); have x1 := xc.cell 1 (by simp); have y0 := xc.frozen 0; have y1 := xc.frozen 1; simp only [List.getElem_cons_zero, List.getElem_cons_succ] at x0 x1)
      | (go_at_call 8; (with_reducible refine (HF1.out _ ?_).mono ?_); (focus exact K0.out.trans (by repeat (first | exact Kept.refl _ | assumption | refine Kept.alloc ?_ _ | refine Kept.drew ?_ | refine Kept.drewN ?_ _ | refine Kept.setCell ?_ (by simp; try omega) _ | refine Kept.trans ?_ (by assumption)))); rintro e w2 ⟨A1, c1, rfl, hF, k2⟩))
    all_goals (
      go_wp2_with fail
      go_meet
      refine ⟨_, A1, c1, A2, c2, A3, c3, rfl, rfl, rfl, rfl, rfl, ?_, ?_, ?_, ?_, ?_⟩
      · first | exact cb_new w2 24 [.int .i64 s, .slice A1 n c1] | exact cb_two xc
      · first | exact ((Kept.refl w2).alloc _).pcs hF.pcs | exact frow_store hF (by simp)
      · exact hA2 _ ((K0.out.trans (by repeat (first | exact Kept.refl _ | assumption | refine Kept.alloc ?_ _ | refine Kept.drew ?_ | refine Kept.drewN ?_ _ | refine Kept.setCell ?_ (by simp; try omega) _ | refine Kept.trans ?_ (by assumption)))).byts HHA.out)
      · exact hA3 _ ((K0.out.trans (by repeat (first | exact Kept.refl _ | assumption | refine Kept.alloc ?_ _ | refine Kept.drew ?_ | refine Kept.drewN ?_ _ | refine Kept.setCell ?_ (by simp; try omega) _ | refine Kept.trans ?_ (by assumption)))).byts HHB.out)
      · exact (by repeat (first | exact Kept.refl _ | assumption | refine Kept.alloc ?_ _ | refine Kept.drew ?_ | refine Kept.drewN ?_ _ | refine Kept.setCell ?_ (by simp; try omega) _ | refine Kept.trans ?_ (by assumption))))
  case rest =>
    obtain ⟨H, A1, c1, A2, c2, A3, c3, rfl, rfl, rfl, rfl, rfl, hb, hp, ha2, hb2, hk⟩ := hcut
    have KW := hid (K0.out.trans hk)
    have BF := hid hb; have PF := hid hp; have BA := hid ha2; have BB := hid hb2
    have d0 := hb.cell 0 (by simp); have d1 := hb.cell 1 (by simp)
    simp only [List.getElem_cons_zero, List.getElem_cons_succ] at d0 d1
    clear hb hp ha2 hb2 hk HS B0 K0 HF1 HOA HOB HHA HHB
    rename_i w1
    cases hmb : mayB g with
    | false =>
      rw [hmb] at HM
      clear hmb
      go_wp2_with (first
        | (go_at_call 21; (with_reducible refine (HM.out _ _ ?_).mono ?_); (focus exact sp_to HSZ.out PF.out); rintro e w2 ⟨rfl, k2⟩)
        | (go_at_call 15; (with_reducible refine (awake_any _).mono ?_); rintro e w3 ⟨rfl, k3⟩))
      go_ret
      exact ⟨rfl, KW.out.trans (by repeat (first | exact Kept.refl _ | assumption | refine Kept.alloc ?_ _ | refine Kept.drew ?_ | refine Kept.drewN ?_ _ | refine Kept.setCell ?_ (by simp; try omega) _ | refine Kept.trans ?_ (by assumption)))⟩
    | true =>
      have HV := hid (mayB_iff.1 hmb)
      rw [hmb] at HM
      clear hmb
      go_upto_region 6 with (go_at_call 21; (with_reducible refine (HM.out _ _ ?_).mono ?_); (focus exact sp_to HSZ.out PF.out); rintro e w2 ⟨rfl, k2⟩; have f0 := k2.keeps d0; have f1 := k2.keeps d1)
      have hab : p + a.length ≤ o ∧ o + b.length ≤ 463488 := by rw [HMA.out, HMB.out]; have := HOO.out; omega
      obtain ⟨v1, v2, v3, v4, hsame⟩ := twice_a HV.out p o a b hab.1 hab.2
      obtain ⟨x, hx⟩ : ∃ g2, wrF g (p : Int) a = g2 := ⟨_, rfl⟩
      obtain ⟨sx, hsx⟩ : ∃ s, x.size = s := ⟨_, rfl⟩
      obtain ⟨nx, hnx⟩ : ∃ n, x.L.length = n := ⟨_, rfl⟩
      obtain ⟨x2, hx2⟩ : ∃ g2, wrF x (o : Int) b = g2 := ⟨_, rfl⟩
      obtain ⟨sx2, hsx2⟩ : ∃ s, x2.size = s := ⟨_, rfl⟩
      obtain ⟨nx2, hnx2⟩ : ∃ n, x2.L.length = n := ⟨_, rfl⟩
      obtain ⟨y, hy⟩ : ∃ g2, wrF g (o : Int) b = g2 := ⟨_, rfl⟩
      obtain ⟨sy, hsy⟩ : ∃ s, y.size = s := ⟨_, rfl⟩
      obtain ⟨ny, hny⟩ : ∃ n, y.L.length = n := ⟨_, rfl⟩
      obtain ⟨y2, hy2⟩ : ∃ g2, wrF y (p : Int) a = g2 := ⟨_, rfl⟩
      obtain ⟨sy2, hsy2⟩ : ∃ s, y2.size = s := ⟨_, rfl⟩
      obtain ⟨ny2, hny2⟩ : ∃ n, y2.L.length = n := ⟨_, rfl⟩
      rw [hx] at v1 v2 hsame
      rw [hx2] at v2 hsame
      rw [hy] at v3 v4 hsame
      rw [hy2] at v4 hsame
      obtain ⟨qx, hqx⟩ : ∃ q, (wrL ((p : Nat) : Int) a).length = q := ⟨_, rfl⟩
      have HX1 := hid (fun (u ub : Value) (w' : World) (k : Sp w' u g) (kb : Byts w' ub a) => write_own (p : Int) g (p) a u ub w' k kb rfl HV.out (by omega) x hx sx hsx nx hnx qx hqx)
      obtain ⟨qx2, hqx2⟩ : ∃ q, (wrL ((o : Nat) : Int) b).length = q := ⟨_, rfl⟩
      have HX2 := hid (fun (u ub : Value) (w' : World) (k : Sp w' u x) (kb : Byts w' ub b) => write_own (o : Int) x (o) b u ub w' k kb rfl v1 (by omega) x2 hx2 sx2 hsx2 nx2 hnx2 qx2 hqx2)
      obtain ⟨qy, hqy⟩ : ∃ q, (wrL ((o : Nat) : Int) b).length = q := ⟨_, rfl⟩
      have HY1 := hid (fun (u ub : Value) (w' : World) (k : Sp w' u g) (kb : Byts w' ub b) => write_own (o : Int) g (o) b u ub w' k kb rfl HV.out (by omega) y hy sy hsy ny hny qy hqy)
      obtain ⟨qy2, hqy2⟩ : ∃ q, (wrL ((p : Nat) : Int) a).length = q := ⟨_, rfl⟩
      have HY2 := hid (fun (u ub : Value) (w' : World) (k : Sp w' u y) (kb : Byts w' ub a) => write_own (p : Int) y (p) a u ub w' k kb rfl v3 (by omega) y2 hy2 sy2 hsy2 ny2 hny2 qy2 hqy2)
      have HSM := hid (fun (u v : Value) (w' : World) (k : Sp w' u x2) (k2 : Sp w' v y2) => same_to x2 y2 u v w' k k2 hsame)
      have HSX := hid hsx; have HSX2 := hid hsx2; have HSY := hid hsy; have HSY2 := hid hsy2
      clear hab v1 v2 v3 v4 hsame hx hsx hnx hx2 hsx2 hnx2 hy hsy hny hy2 hsy2 hny2 hqx hqx2 hqy hqy2
      have BF2 := hid (k2.cb BF.out); have PF2 := hid (k2.pcs PF.out); have BA2 := hid (k2.byts BA.out); have BB2 := hid (k2.byts BB.out); have KW2 := hid (KW.out.trans k2)
      clear d0 d1 k2 BF PF BA BB KW
      go_upto_region 7 with (go_at_call 10; (with_reducible refine (HX1.out _ _ _ ?_ ?_).mono ?_); (focus exact sp_to HSZ.out PF2.out); (focus exact BA2.out); rintro e w3 ⟨A4, c4, A5, c5, rfl, hO, -, k3⟩)
      have k4 : Kept w3 (w3.alloc (.cells #[.int .i64 sx, .slice A4 nx c4] 24)) := (Kept.refl w3).alloc _
      have b4 : CB (w3.alloc (.cells #[.int .i64 sx, .slice A4 nx c4] 24)) w3.heap.size 24 [.int .i64 sx, .slice A4 nx c4] := cb_new w3 24 [.int .i64 sx, .slice A4 nx c4]
      have hX2 : w2.heap.size ≤ w3.heap.size := k3.size
      generalize (w3.alloc (.cells #[.int .i64 sx, .slice A4 nx c4] 24)) = w4 at *
      generalize w3.heap.size = X at *
      have K24 := hid (k3.trans k4); have P4 := hid (k4.pcs hO.pcs)
      have B4 := hid b4
      have m0 := b4.cell 0 (by simp); have m1 := b4.cell 1 (by simp)
      simp only [List.getElem_cons_zero, List.getElem_cons_succ] at m0 m1
      clear f0 f1 k3 k4 b4 hO
      go_upto_region 8 with (go_at_call 10; (with_reducible refine (HX2.out _ _ _ ?_ ?_).mono ?_); (focus exact sp_to HSX.out P4.out); (focus exact K24.out.byts BB2.out); rintro e w5 ⟨A6, c6, A7, c7, rfl, hO, -, k5⟩; have x5 := k5.cb B4.out; have m2 := x5.cell 0 (by simp); have m3 := x5.cell 1 (by simp); have m4 := x5.frozen 0; have m5 := x5.frozen 1; simp only [List.getElem_cons_zero, List.getElem_cons_succ] at m2 m3)
      have k6 : Kept w2 ((w5.setCell ⟨X, 0, none⟩ (.int .i64 sx2)).setCell ⟨X, 1, none⟩ (.slice A6 nx2 c6)) := ((K24.out.trans k5).setCell hX2 _).setCell hX2 _
      have b6 : CB ((w5.setCell ⟨X, 0, none⟩ (.int .i64 sx2)).setCell ⟨X, 1, none⟩ (.slice A6 nx2 c6)) X 24 [.int .i64 sx2, .slice A6 nx2 c6] := cb_two x5
      have p6 : Pcs ((w5.setCell ⟨X, 0, none⟩ (.int .i64 sx2)).setCell ⟨X, 1, none⟩ (.slice A6 nx2 c6)) (.slice A6 nx2 c6) x2.L := opc_store hO B4.out.lt
      generalize ((w5.setCell ⟨X, 0, none⟩ (.int .i64 sx2)).setCell ⟨X, 1, none⟩ (.slice A6 nx2 c6)) = w6 at *
      have B6 := hid b6; have P6 := hid p6; have K26 := hid k6
      have bf6 := k6.cb BF2.out
      have f0 := bf6.cell 0 (by simp); have f1 := bf6.cell 1 (by simp)
      simp only [List.getElem_cons_zero, List.getElem_cons_succ] at f0 f1
      clear m0 m1 m2 m3 m4 m5 x5 k5 k6 b6 p6 bf6 hO P4 B4 K24
      go_upto_region 9 with (go_at_call 10; (with_reducible refine (HY1.out _ _ _ ?_ ?_).mono ?_); (focus exact sp_to HSZ.out (K26.out.pcs PF2.out)); (focus exact K26.out.byts BB2.out); rintro e w7 ⟨A8, c8, A9, c9, rfl, hO, -, k7⟩)
      have k8 : Kept w7 (w7.alloc (.cells #[.int .i64 sy, .slice A8 ny c8] 24)) := (Kept.refl w7).alloc _
      have b8 : CB (w7.alloc (.cells #[.int .i64 sy, .slice A8 ny c8] 24)) w7.heap.size 24 [.int .i64 sy, .slice A8 ny c8] := cb_new w7 24 [.int .i64 sy, .slice A8 ny c8]
      have hY2 : w6.heap.size ≤ w7.heap.size := k7.size
      generalize (w7.alloc (.cells #[.int .i64 sy, .slice A8 ny c8] 24)) = w8 at *
      generalize w7.heap.size = Y at *
      have K68 := hid (k7.trans k8); have P8 := hid (k8.pcs hO.pcs)
      have B8 := hid b8
      have m0 := b8.cell 0 (by simp); have m1 := b8.cell 1 (by simp)
      simp only [List.getElem_cons_zero, List.getElem_cons_succ] at m0 m1
      clear f0 f1 k7 k8 b8 hO
      go_upto_region 10 with (go_at_call 10; (with_reducible refine (HY2.out _ _ _ ?_ ?_).mono ?_); (focus exact sp_to HSY.out P8.out); (focus exact (K26.out.trans K68.out).byts BA2.out); rintro e w9 ⟨A10, c10, A11, c11, rfl, hO, -, k9⟩; have x5 := k9.cb B8.out; have m2 := x5.cell 0 (by simp); have m3 := x5.cell 1 (by simp); have m4 := x5.frozen 0; have m5 := x5.frozen 1; simp only [List.getElem_cons_zero, List.getElem_cons_succ] at m2 m3)
      have k10 : Kept w6 ((w9.setCell ⟨Y, 0, none⟩ (.int .i64 sy2)).setCell ⟨Y, 1, none⟩ (.slice A10 ny2 c10)) := ((K68.out.trans k9).setCell hY2 _).setCell hY2 _
      have b10 : CB ((w9.setCell ⟨Y, 0, none⟩ (.int .i64 sy2)).setCell ⟨Y, 1, none⟩ (.slice A10 ny2 c10)) Y 24 [.int .i64 sy2, .slice A10 ny2 c10] := cb_two x5
      have p10 : Pcs ((w9.setCell ⟨Y, 0, none⟩ (.int .i64 sy2)).setCell ⟨Y, 1, none⟩ (.slice A10 ny2 c10)) (.slice A10 ny2 c10) y2.L := opc_store hO B8.out.lt
      generalize ((w9.setCell ⟨Y, 0, none⟩ (.int .i64 sy2)).setCell ⟨Y, 1, none⟩ (.slice A10 ny2 c10)) = w10 at *
      have P10 := hid p10; have K6A := hid k10
      have bx := k10.cb B6.out
      have f0 := bx.cell 0 (by simp); have f1 := bx.cell 1 (by simp); have f2 := b10.cell 0 (by simp); have f3 := b10.cell 1 (by simp)
      simp only [List.getElem_cons_zero, List.getElem_cons_succ] at f0 f1 f2 f3
      have PX := hid (k10.pcs P6.out)
      have K2A := hid (K26.out.trans k10)
      clear m0 m1 m2 m3 m4 m5 x5 k9 k10 b10 p10 bx hO P8 B8 K68
      clear HX1 HX2 HY1 HY2 HM
      go_upto_region 12 with (go_at_call 22; (with_reducible refine (HSM.out _ _ _ ?_ ?_).mono ?_); (focus exact sp_to HSX2.out PX.out); (focus exact sp_to HSY2.out P10.out); rintro e w11 ⟨rfl, k11⟩)
      have K2B := hid (K2A.out.trans k11)
      have BFB := hid (K2B.out.cb BF2.out); have PFB := hid (K2B.out.pcs PF2.out); have BAB := hid (K2B.out.byts BA2.out)
      have KWB := hid (KW2.out.trans K2B.out)
      obtain ⟨kk, hkk⟩ : ∃ kk, ma / 2 = kk := ⟨_, rfl⟩
      have hkm : kk ≤ ma := by omega
      have hfit2 : p + a.length ≤ 463488 := by rw [HMA.out]; omega
      obtain ⟨v1, v2, v3, hsame⟩ := twice_b HV.out p a kk (by rw [HMA.out]; exact hkm) hfit2
      have t3 : Int.tdiv (ma : Int) 2 = (kk : Int) := by rw [Int.tdiv_eq_ediv_of_nonneg (by omega)]; omega
      have y7 : IntKind.i64.wrap (kk : Int) = (kk : Int) := IntWalk.i64_in _ (by omega)
      have y8 : IntKind.i64.wrap ((p : Int) + (kk : Int)) = ((p + kk : Nat) : Int) := by rw [IntWalk.i64_in _ (by omega)]; omega
      obtain ⟨-, hc2, -, -, -⟩ := BAB.out.open_
      have ltake : (a.take kk).length = kk := by rw [List.length_take, HMA.out]; omega
      have ldrop : (a.drop kk).length = ma - kk := by rw [List.length_drop, HMA.out]
      obtain ⟨at2, hat2⟩ : ∃ at2, p + kk = at2 := ⟨_, rfl⟩
      rw [hat2] at v2 hsame y8
      obtain ⟨z, hz⟩ : ∃ g2, wrF g (p : Int) (a.take kk) = g2 := ⟨_, rfl⟩
      obtain ⟨sz, hsz⟩ : ∃ s, z.size = s := ⟨_, rfl⟩
      obtain ⟨nz, hnz⟩ : ∃ n, z.L.length = n := ⟨_, rfl⟩
      obtain ⟨z2, hz2⟩ : ∃ g2, wrF z (at2 : Int) (a.drop kk) = g2 := ⟨_, rfl⟩
      obtain ⟨sz2, hsz2⟩ : ∃ s, z2.size = s := ⟨_, rfl⟩
      obtain ⟨nz2, hnz2⟩ : ∃ n, z2.L.length = n := ⟨_, rfl⟩
      obtain ⟨v, hv⟩ : ∃ g2, wrF g (p : Int) a = g2 := ⟨_, rfl⟩
      obtain ⟨sv, hsv⟩ : ∃ s, v.size = s := ⟨_, rfl⟩
      obtain ⟨nv, hnv⟩ : ∃ n, v.L.length = n := ⟨_, rfl⟩
      rw [hz] at v1 v2 hsame
      rw [hz2] at v2 hsame
      rw [hv] at v3 hsame
      obtain ⟨qz, hqz⟩ : ∃ q, (wrL ((p : Nat) : Int) (a.take kk)).length = q := ⟨_, rfl⟩
      have HZ1 := hid (fun (u ub : Value) (w' : World) (k : Sp w' u g) (kb : Byts w' ub (a.take kk)) => write_own (p : Int) g (p) (a.take kk) u ub w' k kb rfl HV.out (by rw [ltake]; omega) z hz sz hsz nz hnz qz hqz)
      obtain ⟨qz2, hqz2⟩ : ∃ q, (wrL ((at2 : Nat) : Int) (a.drop kk)).length = q := ⟨_, rfl⟩
      have HZ2 := hid (fun (u ub : Value) (w' : World) (k : Sp w' u z) (kb : Byts w' ub (a.drop kk)) => write_own (at2 : Int) z (at2) (a.drop kk) u ub w' k kb rfl v1 (by rw [ldrop]; omega) z2 hz2 sz2 hsz2 nz2 hnz2 qz2 hqz2)
      obtain ⟨qv, hqv⟩ : ∃ q, (wrL ((p : Nat) : Int) a).length = q := ⟨_, rfl⟩
      have HV1 := hid (fun (u ub : Value) (w' : World) (k : Sp w' u g) (kb : Byts w' ub a) => write_own (p : Int) g (p) a u ub w' k kb rfl HV.out (by omega) v hv sv hsv nv hnv qv hqv)
      have HSM2 := hid (fun (u v0 : Value) (w' : World) (k : Sp w' u z2) (k2 : Sp w' v0 v) => same_to z2 v u v0 w' k k2 hsame)
      have HSZ1 := hid hsz; have HSZ2 := hid hsz2; have HSV := hid hsv
      have hct := byts_cutTo (A := A2) (n := ma) (c := c2) kk hkm hc2
      have hcd := byts_cut (A := A2) (n := ma) (c := c2) kk hkm
      have HTK := hid (show ∀ W, Byts W (.slice A2 ma c2) a → Byts W (.slice A2 kk c2) (a.take kk) from fun W h => h.take kk hkm)
      have HDR := hid (show ∀ W, Byts W (.slice A2 ma c2) a → Byts W (.slice (restA A2 c2 kk 1) (ma - kk) (c2 - kk)) (a.drop kk) from fun W h => h.drop kk hkm)
      have HKM := hid hkm
      clear v1 v2 v3 hsame hz hsz hnz hz2 hsz2 hnz2 hv hsv hnv hqz hqz2 hqv hfit2 ltake ldrop hkk hat2 hkm
      clear f0 f1 f2 f3 HSM PX P10 P6 B6 K26 K6A K2A k11 HOO
      go_upto_region 13 with fail
      have HS := hid (show ∀ w', Kept w11 w' → w'.cell? ⟨H, 0, none⟩ = some (.int .i64 s) ∧ w'.cell? ⟨H, 1, none⟩ = some (.slice A1 n c1) from fun w' k => by
        have a1 := k.cb BFB.out
        exact ⟨a1.cell 0 (by simp), a1.cell 1 (by simp)⟩)
      go_cut [21, 23] (fun t21 t23 wx => ∃ (Z : Nat) (A12 : Option Addr) (c12 : Nat), t21 = .pointer (some ⟨Z, 0, none⟩) ∧ t23 = .int .i64 0 ∧ CB wx Z 24 [.int .i64 sz, .slice A12 nz c12] ∧ Pcs wx (.slice A12 nz c12) z.L ∧ w11.heap.size ≤ Z ∧ Kept w11 wx)
      case first =>
        go_region_held3 (fun w' => w'.cell? ⟨H, 0, none⟩ = some (.int .i64 s) ∧ w'.cell? ⟨H, 1, none⟩ = some (.slice A1 n c1))
          (first | exact HS.out _ (Kept.refl _) | (go_split_ands; exact HS.out _ (by repeat (first | exact Kept.refl _ | assumption | refine Kept.alloc ?_ _ | refine Kept.drew ?_ | refine Kept.drewN ?_ _ | refine Kept.setCell ?_ (by simp; try omega) _ | refine Kept.trans ?_ (by assumption)))) | exact HS.out _ (by repeat (first | exact Kept.refl _ | assumption | refine Kept.alloc ?_ _ | refine Kept.drew ?_ | refine Kept.drewN ?_ _ | refine Kept.setCell ?_ (by simp; try omega) _ | refine Kept.trans ?_ (by assumption))))
          (first
          | (go_at_call 10; (with_reducible refine (HZ1.out _ _ _ ?_ ?_).mono ?_); (focus exact sp_to HSZ.out (Kept.pcs (w := w11) (by repeat (first | exact Kept.refl _ | assumption | refine Kept.alloc ?_ _ | refine Kept.drew ?_ | refine Kept.drewN ?_ _ | refine Kept.setCell ?_ (by simp; try omega) _ | refine Kept.trans ?_ (by assumption))) PFB.out)); (focus exact HTK.out _ (Kept.byts (w := w11) (by repeat (first | exact Kept.refl _ | assumption | refine Kept.alloc ?_ _ | refine Kept.drew ?_ | refine Kept.drewN ?_ _ | refine Kept.setCell ?_ (by simp; try omega) _ | refine Kept.trans ?_ (by assumption))) BAB.out)); rintro e w12 ⟨A12, c12, A13, c13, rfl, hO, -, k12⟩; have xc := k12.cb (cb_made w11.drew 24 w11.heap.size rfl); have x0 := xc.cell 0 (by simp); have x1 := xc.cell 1 (by simp); have z0 := xc.frozen 0; have z1 := xc.frozen 1; simp only [List.getElem_cons_zero, List.getElem_cons_succ] at x0 x1)
          | (go_at_call 10; (with_reducible refine (HZ1.out _ _ _ ?_ ?_).mono ?_); (focus exact sp_to HSZ.out (Kept.pcs (w := w11) (by repeat (first | exact Kept.refl _ | assumption | refine Kept.alloc ?_ _ | refine Kept.drew ?_ | refine Kept.drewN ?_ _ | refine Kept.setCell ?_ (by simp; try omega) _ | refine Kept.trans ?_ (by assumption))) PFB.out)); (focus exact HTK.out _ (Kept.byts (w := w11) (by repeat (first | exact Kept.refl _ | assumption | refine Kept.alloc ?_ _ | refine Kept.drew ?_ | refine Kept.drewN ?_ _ | refine Kept.setCell ?_ (by simp; try omega) _ | refine Kept.trans ?_ (by assumption))) BAB.out)); rintro e w12 ⟨A12, c12, A13, c13, rfl, hO, -, k12⟩))
        all_goals (
          go_wp2_with fail
          go_meet
          refine ⟨_, A12, c12, rfl, rfl, ?_, ?_, ?_, ?_⟩
          · first | exact cb_new w12 24 [.int .i64 sz, .slice A12 nz c12] | exact cb_two xc
          · first | exact ((Kept.refl w12).alloc _).pcs hO.pcs | exact opc_store hO (by simp)
          · first | exact Nat.le_refl _ | exact Kept.size (show Kept w11 w12 from (by repeat (first | exact Kept.refl _ | assumption | refine Kept.alloc ?_ _ | refine Kept.drew ?_ | refine Kept.drewN ?_ _ | refine Kept.setCell ?_ (by simp; try omega) _ | refine Kept.trans ?_ (by assumption))))
          · exact (by repeat (first | exact Kept.refl _ | assumption | refine Kept.alloc ?_ _ | refine Kept.drew ?_ | refine Kept.drewN ?_ _ | refine Kept.setCell ?_ (by simp; try omega) _ | refine Kept.trans ?_ (by assumption))))
      case rest =>
        obtain ⟨Z, A12, c12, rfl, rfl, hbz, hpz, hz11, hkz⟩ := hcut
        have HZ11 := hid hz11
        have P13 := hid hpz
        have m0 := hbz.cell 0 (by simp); have m1 := hbz.cell 1 (by simp); have B13 := hid hbz; have K13 := hid hkz
        simp only [List.getElem_cons_zero, List.getElem_cons_succ] at m0 m1
        have BA13 := hid (hkz.byts BAB.out)
        clear hbz hpz hkz HS
        go_upto_region 14 with fail
        go_cut [24, 25] (fun t24 t25 wx => ∃ (A14 : Option Addr) (c14 : Nat), t25 = .int .i64 0 ∧ CB wx Z 24 [.int .i64 sz2, .slice A14 nz2 c14] ∧ Pcs wx (.slice A14 nz2 c14) z2.L ∧ Kept w11 wx)
        case first =>
          go_region_with (go_at_call 10; (with_reducible refine (HZ2.out _ _ _ ?_ ?_).mono ?_); (focus exact sp_to HSZ1.out P13.out); (focus exact HDR.out _ BA13.out); rintro e w14 ⟨A14, c14, A15, c15, rfl, hO, -, k14⟩; have x5 := k14.cb B13.out; have m2 := x5.cell 0 (by simp); have m3 := x5.cell 1 (by simp); have m4 := x5.frozen 0; have m5 := x5.frozen 1; simp only [List.getElem_cons_zero, List.getElem_cons_succ] at m2 m3)
          all_goals (
            go_wp2_with fail
            go_meet
            exact ⟨A14, c14, rfl, cb_two x5, opc_store hO B13.out.lt, ((K13.out.trans ((Kept.refl _).drew.trans k14)).setCell HZ11.out _).setCell HZ11.out _⟩)
        case rest =>
          obtain ⟨A14, c14, rfl, hbz, hpz, hkz⟩ := hcut
          have B15 := hid hbz; have P15 := hid hpz; have K15 := hid hkz
          have bf := hkz.cb BFB.out
          have f0 := bf.cell 0 (by simp); have f1 := bf.cell 1 (by simp)
          simp only [List.getElem_cons_zero, List.getElem_cons_succ] at f0 f1
          clear hbz hpz hkz m0 m1 B13 K13 BA13 P13 bf
          go_wp2_with (first
            | (go_at_call 10; (with_reducible refine (HV1.out _ _ _ ?_ ?_).mono ?_); (focus exact sp_to HSZ.out (K15.out.pcs PFB.out)); (focus exact K15.out.byts BAB.out); rintro e w16 ⟨A16, c16, A17, c17, rfl, hO, -, k16⟩; have bz := k16.cb B15.out; have m0 := bz.cell 0 (by simp); have m1 := bz.cell 1 (by simp); simp only [List.getElem_cons_zero, List.getElem_cons_succ] at m0 m1)
            | (go_at_call 22; (with_reducible refine (HSM2.out _ _ _ ?_ ?_).mono ?_); (focus exact sp_to HSZ2.out ((k16.alloc _).pcs P15.out)); (focus exact sp_to HSV.out (((Kept.refl w16).alloc _).pcs hO.pcs)); rintro e w17 ⟨rfl, k17⟩)
            | (go_at_call 15; (with_reducible refine (awake_any _).mono ?_); rintro e w18 ⟨rfl, k18⟩))
          go_ret
          exact ⟨rfl, (KWB.out.trans (K15.out.trans k16)).trans ((((Kept.refl w16).alloc _).trans k17).trans k18)⟩
end Go.Proofs.Ytfkmhdnapmicdaa
