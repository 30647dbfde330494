/- SparseBack: the walk. -/
import Derived.Test.Ytfkmhdnapmicdaa19AI
namespace Go.Proofs.Ytfkmhdnapmicdaa
set_option linter.unusedSimpArgs false
set_option linter.unusedVariables false
open Go.RowKit

theorem bstr_app (a b : List UInt8) : bstr a ++ bstr b = bstr (a ++ b) := by
  apply ByteArray.ext
  simp [bstr]
theorem str_add (a b : List UInt8) (h : a.length + b.length ≤ 1000000) : Op.stringOp .add (bstr a) (bstr b) = pure (.string (bstr (a ++ b))) := by
  unfold Op.stringOp
  dsimp only
  rw [if_neg (by rw [bstr_size, bstr_size]; have : IntKind.i64.max = 9223372036854775807 := by decide
                 omega), bstr_app]
theorem bstr_at (l : List UInt8) (o : Nat) (h : o < (bstr l).size) : (((bstr l)[o]'h).toNat : Int) = ((l.getD o 0).toNat : Int) := by
  rw [bstr_size] at h
  rw [List.getD_eq_getElem?_getD, List.getElem?_eq_getElem h]
  rfl
def strLen : Value → Nat
  | .string b => b.size
  | _ => 0
set_option maxRecDepth 100000 in
set_option maxHeartbeats 4000000 in
theorem back_at (s0 : Int) (vl : Value) (L : List Pc) (off : Nat) (va : Value) (l : List UInt8) (size : Nat) (w : World) (hP : Pcs w vl L) (ha : Byts w va l) (ho : off ≤ 65535) (hsz : size ≤ 65535) :
    Calls Try.prog 5 #[.agg #[.int .i64 s0, vl, .int .u16 (off : Int), va, .int .u16 (size : Int)]] w fun e w' => e = .returned (.bool true) ∧ Kept w w' := by
  obtain ⟨g, hg⟩ : ∃ g, fewF ⟨s0, L⟩ = g := ⟨_, rfl⟩
  obtain ⟨s, hs⟩ : ∃ s, g.size = s := ⟨_, rfl⟩
  obtain ⟨n, hn⟩ : ∃ n, g.L.length = n := ⟨_, rfl⟩
  obtain ⟨a, had⟩ : ∃ d, l.take 700 = d := ⟨_, rfl⟩
  obtain ⟨ma, hma⟩ : ∃ m, a.length = m := ⟨_, rfl⟩
  have hma3 : ma ≤ 700 := by rw [← hma, ← had, List.length_take]; omega
  have HF1 := hid (fun (w' : World) (k : Kept w w') => few_to ⟨s0, L⟩ _ w' (k.sp (sp_mk hP)) g hg s hs n hn)
  have HOA := hid (fun (w' : World) (k : Kept w w') => octets_to l va w' (k.byts ha) a had ma hma)
  have HM := hid (fun (u : Value) (w' : World) (k : Sp w' u g) => may_any g u w' k)
  have HSZ := hid hs; have HMA := hid hma; have HG := hid hg
  have HHA := hid ha
  obtain ⟨A, c, rfl⟩ := hP.shape
  obtain ⟨Aa, ca, rfl⟩ := ha.shape
  obtain ⟨m, hm⟩ : ∃ m, L.length = m := ⟨_, rfl⟩
  obtain ⟨la, hla⟩ : ∃ m, l.length = m := ⟨_, rfl⟩
  rw [hm] at HF1 ⊢
  rw [hla] at HOA HHA ⊢
  clear hm hP hg hs hn had hma hla ha
  obtain ⟨p, hp⟩ : ∃ p, off % 3000 = p := ⟨_, rfl⟩
  obtain ⟨q, hq⟩ : ∃ q, size % 4000 = q := ⟨_, rfl⟩
  obtain ⟨o, hoo⟩ : ∃ o, p + ma = o := ⟨_, rfl⟩
  obtain ⟨q3, hq3⟩ : ∃ q3, q + 300 = q3 := ⟨_, rfl⟩
  have hp3 : p < 3000 := by omega
  have hq4 : q < 4000 := by omega
  have t1 : Int.tmod (off : Int) 3000 = (p : Int) := by rw [Int.tmod_eq_emod_of_nonneg (by omega)]; omega
  have t2 : Int.tmod (size : Int) 4000 = (q : Int) := by rw [Int.tmod_eq_emod_of_nonneg (by omega)]; omega
  have y1 : IntKind.i64.wrap (off : Int) = (off : Int) := IntWalk.i64_in _ (by omega)
  have y2 : IntKind.i64.wrap (size : Int) = (size : Int) := IntWalk.i64_in _ (by omega)
  have y3 : IntKind.i64.wrap (p : Int) = (p : Int) := IntWalk.i64_in _ (by omega)
  have y4 : IntKind.i64.wrap (q : Int) = (q : Int) := IntWalk.i64_in _ (by omega)
  have y5 : IntKind.i64.wrap ((p : Int) + (ma : Int)) = (o : Int) := by rw [IntWalk.i64_in _ (by omega)]; omega
  have y6 : IntKind.i64.wrap ((q : Int) + 300) = (q3 : Int) := by rw [IntWalk.i64_in _ (by omega)]; omega
  have HOO := hid hoo; have HQ3 := hid hq3
  clear hp hq hoo hq3
  go_enter Try.func5, Try.ntmps5
  go_upto_region 1 with fail
  have k0 : Kept w (w.alloc (.cells #[.int .i64 s0, .slice A m c, .int .u16 (off : Int), .slice Aa la ca, .int .u16 (size : Int)] 48)) := (Kept.refl w).alloc _
  have b0 : CB (w.alloc (.cells #[.int .i64 s0, .slice A m c, .int .u16 (off : Int), .slice Aa la ca, .int .u16 (size : Int)] 48)) w.heap.size 48 [.int .i64 s0, .slice A m c, .int .u16 (off : Int), .slice Aa la ca, .int .u16 (size : Int)] := cb_new w _ [.int .i64 s0, .slice A m c, .int .u16 (off : Int), .slice Aa la ca, .int .u16 (size : Int)]
  generalize (w.alloc (.cells #[.int .i64 s0, .slice A m c, .int .u16 (off : Int), .slice Aa la ca, .int .u16 (size : Int)] 48)) = w0 at *
  have K0 := hid k0; have B0 := hid b0
  generalize w.heap.size = D at *
  have HS := hid (show ∀ w', Kept w0 w' → w'.cell? ⟨D, 0, none⟩ = some (.int .i64 s0) ∧ w'.cell? ⟨D, 1, none⟩ = some (.slice A m c) ∧ w'.cell? ⟨D, 2, none⟩ = some (.int .u16 (off : Int)) ∧ w'.cell? ⟨D, 3, none⟩ = some (.slice Aa la ca) ∧ w'.cell? ⟨D, 4, none⟩ = some (.int .u16 (size : Int)) from fun w' k => by
    have a1 := k.cb B0.out
    exact ⟨a1.cell 0 (by simp), a1.cell 1 (by simp), a1.cell 2 (by simp), a1.cell 3 (by simp), a1.cell 4 (by simp)⟩)
  clear k0 b0
  go_cut [3, 4, 5, 6] (fun t3 t4 t5 t6 wx => ∃ (H : Nat) (A1 : Option Addr) (c1 : Nat) (A2 : Option Addr) (c2 : Nat), t3 = .pointer (some ⟨H, 0, none⟩) ∧ t4 = .int .u16 (off : Int) ∧ t5 = .slice A2 ma c2 ∧ t6 = .int .u16 (size : Int) ∧ CB wx H 24 [.int .i64 s, .slice A1 n c1] ∧ Pcs wx (.slice A1 n c1) g.L ∧ Byts wx (.slice A2 ma c2) a ∧ Kept w0 wx)
  case first =>
    go_region_held3 (fun w' => w'.cell? ⟨D, 0, none⟩ = some (.int .i64 s0) ∧ w'.cell? ⟨D, 1, none⟩ = some (.slice A m c) ∧ w'.cell? ⟨D, 2, none⟩ = some (.int .u16 (off : Int)) ∧ w'.cell? ⟨D, 3, none⟩ = some (.slice Aa la ca) ∧ w'.cell? ⟨D, 4, none⟩ = some (.int .u16 (size : Int)))
      (first | exact HS.out _ (Kept.refl _) | (go_split_ands; exact HS.out _ (by repeat (first | exact Kept.refl _ | assumption | refine Kept.alloc ?_ _ | refine Kept.drew ?_ | refine Kept.drewN ?_ _ | refine Kept.setCell ?_ (by simp; try omega) _ | refine Kept.trans ?_ (by assumption)))) | exact HS.out _ (by repeat (first | exact Kept.refl _ | assumption | refine Kept.alloc ?_ _ | refine Kept.drew ?_ | refine Kept.drewN ?_ _ | refine Kept.setCell ?_ (by simp; try omega) _ | refine Kept.trans ?_ (by assumption))))
      (first
      | (go_at_call 9; (with_reducible refine (HOA.out _ ?_).mono ?_); (focus exact K0.out.trans (by repeat (first | exact Kept.refl _ | assumption | refine Kept.alloc ?_ _ | refine Kept.drew ?_ | refine Kept.drewN ?_ _ | refine Kept.setCell ?_ (by simp; try omega) _ | refine Kept.trans ?_ (by assumption)))); rintro e w3 ⟨A2, c2, rfl, hA2, rfl⟩)
      | (go_at_call 8; (with_reducible refine (HF1.out _ ?_).mono ?_); (focus exact K0.out.trans (by repeat (first | exact Kept.refl _ | assumption | refine Kept.alloc ?_ _ | refine Kept.drew ?_ | refine Kept.drewN ?_ _ | refine Kept.setCell ?_ (by simp; try omega) _ | refine Kept.trans ?_ (by assumption)))); rintro e w2 ⟨A1, c1, rfl, hF, k2⟩; have xc := k2.cb (cb_made w0.drew 24 w0.heap.size rfl); have x0 := xc.cell 0 (by simp); have x1 := xc.cell 1 (by simp); have y0 := xc.frozen 0; have y1 := xc.frozen 1; simp only [List.getElem_cons_zero, List.getElem_cons_succ] at x0 x1)
      | (go_at_call 8; (with_reducible refine (HF1.out _ ?_).mono ?_); (focus exact K0.out.trans (by repeat (first | exact Kept.refl _ | assumption | refine Kept.alloc ?_ _ | refine Kept.drew ?_ | refine Kept.drewN ?_ _ | refine Kept.setCell ?_ (by simp; try omega) _ | refine Kept.trans ?_ (by assumption)))); rintro e w2 ⟨A1, c1, rfl, hF, k2⟩))
    all_goals (
      go_wp2_with fail
      go_meet
      refine ⟨_, A1, c1, A2, c2, rfl, rfl, rfl, rfl, ?_, ?_, ?_, ?_⟩
      · first | exact cb_new w2 24 [.int .i64 s, .slice A1 n c1] | exact cb_two xc
      · first | exact ((Kept.refl w2).alloc _).pcs hF.pcs | exact frow_store hF (by simp)
      · exact hA2 _ ((K0.out.trans (by repeat (first | exact Kept.refl _ | assumption | refine Kept.alloc ?_ _ | refine Kept.drew ?_ | refine Kept.drewN ?_ _ | refine Kept.setCell ?_ (by simp; try omega) _ | refine Kept.trans ?_ (by assumption)))).byts HHA.out)
      · exact (by repeat (first | exact Kept.refl _ | assumption | refine Kept.alloc ?_ _ | refine Kept.drew ?_ | refine Kept.drewN ?_ _ | refine Kept.setCell ?_ (by simp; try omega) _ | refine Kept.trans ?_ (by assumption))))
  case rest =>
    obtain ⟨H, A1, c1, A2, c2, rfl, rfl, rfl, rfl, hb, hp, ha2, hk⟩ := hcut
    have KW := hid (K0.out.trans hk)
    have BF := hid hb; have PF := hid hp; have BA := hid ha2
    have d0 := hb.cell 0 (by simp); have d1 := hb.cell 1 (by simp)
    simp only [List.getElem_cons_zero, List.getElem_cons_succ] at d0 d1
    clear hb hp ha2 hk HS B0 K0 HF1 HOA HHA
    cases hmb : mayB g with
    | false =>
      have HRE := hid (fun (o n : Int) (u : Value) (w' : World) (k : Sp w' u g) (h1 : o ≤ 9223372036854775807) (h2 : n ≤ 9223372036854775807) => read_err g o n u w' k h1 h2 (.inl hmb))
      have HWE := hid (fun (o : Int) (u ub : Value) (w' : World) (k : Sp w' u g) (kb : Byts w' ub a) => write_err g o a u ub w' k kb (.inl hmb))
      rw [hmb] at HM
      clear hmb
      go_wp2_with (first
        | (go_at_call 20; (with_reducible refine (HRE.out 0 _ _ _ ?_ ?_ ?_).mono ?_); (focus exact sp_to HSZ.out (Kept.pcs (w := wc) (by repeat (first | exact Kept.refl _ | assumption | refine Kept.alloc ?_ _ | refine Kept.drew ?_ | refine Kept.drewN ?_ _ | refine Kept.setCell ?_ (by simp; try omega) _ | refine Kept.trans ?_ (by assumption))) PF.out)); (focus omega); (focus omega); rintro e w2 ⟨rfl, k2⟩; have e0 := k2.keeps d0; have e1 := k2.keeps d1)
        | (go_at_call 20; (with_reducible refine (HRE.out _ _ _ _ ?_ ?_ ?_).mono ?_); (focus exact sp_to HSZ.out (Kept.pcs (w := wc) (by repeat (first | exact Kept.refl _ | assumption | refine Kept.alloc ?_ _ | refine Kept.drew ?_ | refine Kept.drewN ?_ _ | refine Kept.setCell ?_ (by simp; try omega) _ | refine Kept.trans ?_ (by assumption))) PF.out)); (focus have := HOO.out; omega); (focus omega); rintro e w3 ⟨rfl, k3⟩; have f0 := k3.keeps e0; have f1 := k3.keeps e1)
        | (go_at_call 10; (with_reducible refine (HWE.out _ _ _ _ ?_ ?_).mono ?_); (focus exact sp_to HSZ.out (Kept.pcs (w := wc) (by repeat (first | exact Kept.refl _ | assumption | refine Kept.alloc ?_ _ | refine Kept.drew ?_ | refine Kept.drewN ?_ _ | refine Kept.setCell ?_ (by simp; try omega) _ | refine Kept.trans ?_ (by assumption))) PF.out)); (focus exact Kept.byts (w := wc) (by repeat (first | exact Kept.refl _ | assumption | refine Kept.alloc ?_ _ | refine Kept.drew ?_ | refine Kept.drewN ?_ _ | refine Kept.setCell ?_ (by simp; try omega) _ | refine Kept.trans ?_ (by assumption))) BA.out); rintro e w4 ⟨rfl, k4⟩; have g0 := k4.keeps f0; have g1 := k4.keeps f1)
        | (go_at_call 21; (with_reducible refine (HM.out _ _ ?_).mono ?_); (focus exact sp_to HSZ.out (Kept.pcs (w := wc) (by repeat (first | exact Kept.refl _ | assumption | refine Kept.alloc ?_ _ | refine Kept.drew ?_ | refine Kept.drewN ?_ _ | refine Kept.setCell ?_ (by simp; try omega) _ | refine Kept.trans ?_ (by assumption))) PF.out)); rintro e w5 ⟨rfl, k5⟩)
        | (go_at_call 15; (with_reducible refine (awake_any _).mono ?_); rintro e w6 ⟨rfl, k6⟩))
      go_ret
      exact ⟨rfl, KW.out.trans (by repeat (first | exact Kept.refl _ | assumption | refine Kept.alloc ?_ _ | refine Kept.drew ?_ | refine Kept.drewN ?_ _ | refine Kept.setCell ?_ (by simp; try omega) _ | refine Kept.trans ?_ (by assumption)))⟩
    | true =>
      have HV := hid (mayB_iff.1 hmb)
      rw [hmb] at HM
      have hg2 := few_small HG.out HV.out
      clear hmb
      have hfit : p + a.length ≤ 463488 := by rw [HMA.out]; omega
      have hx := wr_valid HV.out (p : Int) a (by omega) (by omega)
      obtain ⟨x, hxe⟩ : ∃ x, wrF g (p : Int) a = x := ⟨_, rfl⟩
      have hxs : x.size ≤ 30000 := by
        rw [← hxe, size_wr, HMA.out]; split <;> omega
      have hall : rdX x 0 30000 = wantB g p a := by rw [← hxe]; exact back_all HV.out p a hg2 (by rw [HMA.out]; omega)
      rw [hxe] at hx
      obtain ⟨v1, v2, hgl, hgot⟩ := back_got hx hxs q (by omega)
      obtain ⟨sx, hsx⟩ : ∃ s, x.size = s := ⟨_, rfl⟩
      obtain ⟨nx, hnx⟩ : ∃ n, x.L.length = n := ⟨_, rfl⟩
      obtain ⟨qx, hqx⟩ : ∃ q, (wrL ((p : Nat) : Int) a).length = q := ⟨_, rfl⟩
      have HX1 := hid (fun (u ub : Value) (w' : World) (k : Sp w' u g) (kb : Byts w' ub a) => write_own (p : Int) g p a u ub w' k kb rfl HV.out (by omega) x hxe sx hsx nx hnx qx hqx)
      obtain ⟨l1, hl1⟩ : ∃ l1, rdX g 0 p = l1 := ⟨_, rfl⟩
      obtain ⟨n1, hn1⟩ : ∃ n1, l1.length = n1 := ⟨_, rfl⟩
      obtain ⟨l4, hl4⟩ : ∃ l4, rdX g o 20000 = l4 := ⟨_, rfl⟩
      obtain ⟨n4, hn4⟩ : ∃ n4, l4.length = n4 := ⟨_, rfl⟩
      obtain ⟨ls, hls⟩ : ∃ ls, rdX x 0 30000 = ls := ⟨_, rfl⟩
      obtain ⟨ns, hns⟩ : ∃ ns, ls.length = ns := ⟨_, rfl⟩
      have hn1p : n1 ≤ p := by rw [← hn1, ← hl1, rdX_len]; omega
      have hn4p : n4 ≤ 20000 := by rw [← hn4, ← hl4, rdX_len]; omega
      have hnsp : ns ≤ 30000 := by rw [← hns, ← hls, rdX_len]; omega
      have HR1 := hid (fun (u : Value) (w' : World) (k : Sp w' u g) => read_to 0 (p : Int) g 0 p u w' k (by rfl) rfl HV.out (by omega) (by omega) l1 hl1 n1 hn1)
      have HR2 := hid (fun (u : Value) (w' : World) (k : Sp w' u g) => read_to (o : Int) 20000 g o 20000 u w' k rfl (by rfl) HV.out (by have := HOO.out; omega) (by decide) l4 hl4 n4 hn4)
      have HR3 := hid (fun (u : Value) (w' : World) (k : Sp w' u x) => read_to 0 30000 x 0 30000 u w' k (by rfl) (by rfl) hx (by omega) (by decide) ls hls ns hns)
      have HMX := hid (fun (u : Value) (w' : World) (k : Sp w' u x) => may_any x u w' k)
      rw [mayB_t hx] at HMX
      obtain ⟨y, hye⟩ : ∃ y, cutF x (q : Int) = y := ⟨_, rfl⟩
      rw [hye] at v1 v2 hgl hgot
      obtain ⟨z, hze⟩ : ∃ z, cutF y ((q + 300 : Nat) : Int) = z := ⟨_, rfl⟩
      rw [hze] at v2 hgl hgot
      obtain ⟨got, hgote⟩ : ∃ got, rdX z 0 30000 = got := ⟨_, rfl⟩
      rw [hgote] at hgl hgot
      rw [HQ3.out] at hze hgl hgot
      rw [hls] at hgot hall
      rw [hns] at hgot
      obtain ⟨sy, hsy⟩ : ∃ s, y.size = s := ⟨_, rfl⟩
      obtain ⟨ny, hny⟩ : ∃ n, y.L.length = n := ⟨_, rfl⟩
      obtain ⟨sz, hszz⟩ : ∃ s, z.size = s := ⟨_, rfl⟩
      obtain ⟨nz, hnz⟩ : ∃ n, z.L.length = n := ⟨_, rfl⟩
      obtain ⟨qy, hqy⟩ : ∃ qq, (cutW x (q : Int)).length = qq := ⟨_, rfl⟩
      obtain ⟨qz, hqz⟩ : ∃ qq, (cutW y (q3 : Int)).length = qq := ⟨_, rfl⟩
      have HC1 := hid (fun (u : Value) (w' : World) (k : Sp w' u x) => cut_to (q : Int) x q u w' k rfl hx (by omega) y hye sy hsy ny hny _ rfl qy hqy)
      have HC2 := hid (fun (u : Value) (w' : World) (k : Sp w' u y) => cut_to (q3 : Int) y q3 u w' k rfl v1 (by have := HQ3.out; omega) z hze sz hszz nz hnz _ rfl qz hqz)
      have HR4 := hid (fun (u : Value) (w' : World) (k : Sp w' u z) => read_to 0 30000 z 0 30000 u w' k (by rfl) (by rfl) v2 (by omega) (by decide) got hgote q3 hgl)
      have HSX := hid hsx; have HSY := hid hsy; have HSZZ := hid hszz
      have HN1 := hid hn1; have HN4 := hid hn4; have HNS := hid hns; have HGL := hid hgl; have HGOT := hid hgot
      obtain ⟨l2, hl2⟩ : ∃ l2, l1 ++ List.replicate (if ma = 0 then 0 else p - n1) 0 = l2 := ⟨_, rfl⟩
      have HL2 := hid hl2
      have HWANT := hid (show l2 ++ (a ++ l4) = ls from by
        rw [hall, wantB, HMA.out, hl1, hn1, HOO.out, hl4, ← hl2, List.append_assoc, List.append_assoc, List.append_assoc])
      clear hg2 hfit hx hxe hxs hall v1 v2 hgl hgot hsx hnx hqx hl1 hn1 hl4 hn4 hls hns hye hze hgote hsy hny hszz hnz hqy hqz hl2
      go_upto_region 6 with (first
        | (go_at_call 20; (with_reducible refine (HR1.out _ _ ?_).mono ?_); (focus exact sp_to HSZ.out PF.out); rintro e w2 ⟨A3, c3, rfl, hB, k2⟩; have X1 := hid hB; have K2 := hid k2; have e0 := k2.keeps d0; have e1 := k2.keeps d1)
        | (go_at_call 20; (with_reducible refine (HR2.out _ _ ?_).mono ?_); (focus exact sp_to HSZ.out (K2.out.pcs PF.out)); rintro e w3 ⟨A4, c4, rfl, hB, k3⟩; have X4 := hid hB; have K3 := hid k3; have f0 := k3.keeps e0; have f1 := k3.keeps e1)
        | (go_at_call 10; (with_reducible refine (HX1.out _ _ _ ?_ ?_).mono ?_); (focus exact sp_to HSZ.out ((K2.out.trans K3.out).pcs PF.out)); (focus exact (K2.out.trans K3.out).byts BA.out); rintro e w4 ⟨A5, c5, A6, c6, rfl, hO, -, k4⟩))
      have k5 : Kept w4 (w4.alloc (.cells #[.int .i64 sx, .slice A5 nx c5] 24)) := (Kept.refl w4).alloc _
      have b5 : CB (w4.alloc (.cells #[.int .i64 sx, .slice A5 nx c5] 24)) w4.heap.size 24 [.int .i64 sx, .slice A5 nx c5] := cb_new w4 24 [.int .i64 sx, .slice A5 nx c5]
      generalize (w4.alloc (.cells #[.int .i64 sx, .slice A5 nx c5] 24)) = w5 at *
      generalize w4.heap.size = X at *
      have P5 := hid (k5.pcs hO.pcs); have B5 := hid b5
      have K35 := hid (k4.trans k5)
      have m0 := b5.cell 0 (by simp); have m1 := b5.cell 1 (by simp)
      simp only [List.getElem_cons_zero, List.getElem_cons_succ] at m0 m1
      clear d0 d1 e0 e1 f0 f1 k2 k3 k4 k5 b5 hO HM HR1 HR2 HX1
      go_upto_region 11 with (first
        | (go_at_call 20; (with_reducible refine (HR3.out _ _ ?_).mono ?_); (focus exact sp_to HSX.out P5.out); rintro e w6 ⟨A7, c7, rfl, hB, k6⟩; have X7 := hid hB; have K6 := hid k6; have x6 := k6.cb B5.out; have m2 := x6.cell 0 (by simp); have m3 := x6.cell 1 (by simp); simp only [List.getElem_cons_zero, List.getElem_cons_succ] at m2 m3)
        | (go_at_call 21; (with_reducible refine (HMX.out _ _ ?_).mono ?_); (focus exact sp_to HSX.out (K6.out.pcs P5.out)); rintro e w7 ⟨rfl, k7⟩))
      have K37 := hid (K35.out.trans (K6.out.trans k7))
      have cv1 := conv_byts ((K3.out.trans K37.out).byts X1.out)
      have cv4 := conv_byts (K37.out.byts X4.out)
      have cvs := conv_byts (k7.byts X7.out)
      have cva := conv_byts ((K2.out.trans (K3.out.trans K37.out)).byts BA.out)
      have KW7 := hid (KW.out.trans (K2.out.trans (K3.out.trans K37.out)))
      have x7 := (K6.out.trans k7).cb B5.out
      have m4 := x7.cell 0 (by simp); have m5 := x7.cell 1 (by simp)
      simp only [List.getElem_cons_zero, List.getElem_cons_succ] at m4 m5
      have P7 := hid ((K6.out.trans k7).pcs P5.out)
      clear m0 m1 m2 m3 x6 x7 k7 hB
      go_upto_region 12 with fail
      go_cut [97] (fun t wr => t = .bool (decide (0 < ma)) ∧ w7 = wr)
      case first =>
        go_wp2_with fail
        go_meet
        exact ⟨by simp, rfl⟩
      case rest =>
      obtain ⟨rfl, rfl⟩ := hcut
      go_upto_if 97 with fail
      go_cut [17] from 29 (fun t wr => t = .string (bstr l2) ∧ w7 = wr)
      case first =>
        clear cv4 cvs cva
        by_cases h0 : ma = 0
        · have e1n : decide (0 < ma) = false := decide_eq_false (by omega)
          have e2 : l1 = l2 := by rw [← HL2.out, if_pos h0]; simp
          rw [e1n]
          clear h0 e1n
          go_wp2_with fail
          go_meet
          exact ⟨by rw [e2], rfl⟩
        · have e1 : decide (0 < ma) = true := decide_eq_true (by omega)
          rw [e1]
          have hn1q := hid hn1p
          go_wp2_with fail
          go_loopw [17] (fun t wr => ∃ k : Nat, n1 + k ≤ p ∧ t = .string (bstr (l1 ++ List.replicate k 0)) ∧ w7 = wr) (fun t _ => p - strLen t)
          case atStart => exact ⟨0, by omega, by simp, rfl⟩
          case round =>
            obtain ⟨k, hk, rfl, rfl⟩ := hrel
            obtain ⟨J, hJ⟩ : ∃ J, n1 + k = J := ⟨_, rfl⟩
            have hsz : (bstr (l1 ++ List.replicate k 0)).size = J := by rw [bstr_size, List.length_append, List.length_replicate, HN1.out, hJ]
            by_cases hlt : J < p
            · have hadd := str_add (l1 ++ List.replicate k 0) [0] (by rw [List.length_append, List.length_replicate, HN1.out]; simp; omega)
              rw [List.append_assoc, show List.replicate k (0 : UInt8) ++ [0] = List.replicate (k + 1) 0 from List.replicate_succ'.symm, show bstr [0] = ⟨#[0]⟩ from rfl] at hadd
              have hsz2 : (bstr (l1 ++ List.replicate (k + 1) 0)).size = J + 1 := by rw [bstr_size, List.length_append, List.length_replicate, HN1.out]; omega
              have e3 : (J : Int) < (p : Int) := by omega
              have HSZ1 := hid hsz; have HSZ2 := hid hsz2
              obtain ⟨ts, hts⟩ : ∃ ts, bstr (l1 ++ List.replicate k 0) = ts := ⟨_, rfl⟩
              rw [hts] at hsz hadd HSZ1 ⊢
              have HTS := hid hts
              clear hts hsz2 cv1
              go_wp2_with fail
              go_roundw
              case rel => exact ⟨k + 1, by omega, rfl, by first | rfl | trivial⟩
              case measure => show p - (bstr (l1 ++ List.replicate (k + 1) 0)).size < p - ts.size; rw [HSZ1.out, HSZ2.out]; omega
            · have e3 : decide ((J : Int) < (p : Int)) = false := decide_eq_false (by omega)
              have e3n : decide (J < p) = false := decide_eq_false (by omega)
              have HE := hid (show bstr (l1 ++ List.replicate k 0) = bstr l2 from by rw [← HL2.out, if_neg h0, show p - n1 = k by omega])
              obtain ⟨ts, hts⟩ : ∃ ts, bstr (l1 ++ List.replicate k 0) = ts := ⟨_, rfl⟩
              rw [hts] at hsz HE ⊢
              clear hts cv1 hlt hk h0 e1 hJ
              go_wp2_with fail
              go_meet
              exact ⟨by rw [HE.out], rfl⟩
      case rest =>
        obtain ⟨rfl, rfl⟩ := hcut
        have hl2 : l2.length ≤ 3000 := by
          rw [← HL2.out, List.length_append, List.length_replicate, HN1.out]; split <;> omega
        have had1 := str_add a l4 (by rw [HMA.out, HN4.out]; omega)
        have had2 := str_add l2 (a ++ l4) (by rw [List.length_append, HMA.out, HN4.out]; omega)
        rw [HWANT.out] at had2
        have HTS := hid (fun o (ho : o < ns) => (⟨by rw [bstr_size, HNS.out]; exact ho, bstr_at ls o⟩ : o < (bstr ls).size ∧ ∀ h, (((bstr ls)[o]'h).toNat : Int) = ((ls.getD o 0).toNat : Int)))
        have hss : (bstr ls).size = ns := by rw [bstr_size, HNS.out]
        generalize bstr ls = ss at *
        generalize bstr a = sa at *
        generalize bstr l4 = s4 at *
        generalize bstr (a ++ l4) = s24 at *
        generalize bstr l2 = s2 at *
        clear cv1 hl2
        go_upto_region 20 with (go_at_call 18; (with_reducible refine (HC1.out _ _ ?_).mono ?_); (focus exact sp_to HSX.out P7.out); rintro e w8 ⟨A8, c8, A9, c9, rfl, hP8, -, k8⟩)
        have k9 : Kept w8 (w8.alloc (.cells #[.int .i64 sy, .slice A8 ny c8] 24)) := (Kept.refl w8).alloc _
        have b9 : CB (w8.alloc (.cells #[.int .i64 sy, .slice A8 ny c8] 24)) w8.heap.size 24 [.int .i64 sy, .slice A8 ny c8] := cb_new w8 24 [.int .i64 sy, .slice A8 ny c8]
        generalize (w8.alloc (.cells #[.int .i64 sy, .slice A8 ny c8] 24)) = w9 at *
        generalize w8.heap.size = Y at *
        have P9 := hid (k9.pcs hP8)
        have K79 := hid (k8.trans k9)
        have m0 := b9.cell 0 (by simp); have m1 := b9.cell 1 (by simp)
        simp only [List.getElem_cons_zero, List.getElem_cons_succ] at m0 m1
        clear m4 m5 k8 k9 b9 hP8 cv4 cvs cva had1 had2
        go_upto_region 21 with (go_at_call 18; (with_reducible refine (HC2.out _ _ ?_).mono ?_); (focus exact sp_to HSY.out P9.out); rintro e w10 ⟨A10, c10, A11, c11, rfl, hP10, -, k10⟩)
        have k11 : Kept w10 (w10.alloc (.cells #[.int .i64 sz, .slice A10 nz c10] 24)) := (Kept.refl w10).alloc _
        have b11 : CB (w10.alloc (.cells #[.int .i64 sz, .slice A10 nz c10] 24)) w10.heap.size 24 [.int .i64 sz, .slice A10 nz c10] := cb_new w10 24 [.int .i64 sz, .slice A10 nz c10]
        generalize (w10.alloc (.cells #[.int .i64 sz, .slice A10 nz c10] 24)) = w11 at *
        generalize w10.heap.size = Z at *
        have P11 := hid (k11.pcs hP10)
        have K9B := hid (k10.trans k11)
        have m2 := b11.cell 0 (by simp); have m3 := b11.cell 1 (by simp)
        simp only [List.getElem_cons_zero, List.getElem_cons_succ] at m2 m3
        clear m0 m1 k10 k11 b11 hP10
        go_upto_region 24 with (go_at_call 20; (with_reducible refine (HR4.out _ _ ?_).mono ?_); (focus exact sp_to HSZZ.out P11.out); rintro e w12 ⟨A12, c12, rfl, hB, k12⟩)
        have XG := hid hB
        have KWC := hid (KW7.out.trans (K79.out.trans (K9B.out.trans k12)))
        clear m2 m3 hB k12 HC1 HC2 HR3 HR4 HMX
        go_wp2_with fail
        go_loopw [27] (fun t wr => ∃ k : Nat, k ≤ q3 ∧ t = .int .i64 k ∧ w12 = wr) (fun t _ => q3 - (intOf t).toNat)
        case atStart => exact ⟨0, by omega, rfl, rfl⟩
        case round =>
          obtain ⟨k, hk, rfl, rfl⟩ := hrel
          have hq3 := HQ3.out
          by_cases hlt : k < q3
          · have i0 : (0 : Int) ≤ (k : Int) := by omega
            have i1 : (k : Int) < (q3 : Int) := by omega
            have w4' : IntKind.i64.wrap ((k : Int) + 1) = (k : Int) + 1 := IntWalk.i64_in _ (by omega)
            obtain ⟨b5, o5, rfl, hc5⟩ := XG.out.cell k hlt
            have hgv := HGOT.out k (by omega)
            obtain ⟨ub, hub⟩ : ∃ ub : Int, ((got.getD k 0).toNat : Int) = ub := ⟨_, rfl⟩
            rw [hub] at hc5
            by_cases h1 : k < q ∧ k < ns
            · obtain ⟨h2, h3⟩ := h1
              rw [if_pos ⟨h2, h3⟩] at hgv
              obtain ⟨hs1, hs2⟩ := HTS.out k h3
              rw [← hgv, hub] at hs2
              have j1 : (k : Int) < (q : Int) := by omega
              have j2 : (k : Int) < (ns : Int) := by omega
              have hne : (ub != ub) = false := by simp
              clear hgv hub hlt hk HTS
              go_wp2_with fail
              go_roundw
              case rel => exact ⟨k + 1, by omega, by go_num, by first | rfl | trivial⟩
              case measure => simp [intOf]; omega
            · rw [if_neg h1] at hgv
              rw [hgv] at hub
              have hub : ub = 0 := by rw [← hub]; rfl
              rw [hub] at hc5
              clear hgv hub hk HTS
              rcases (by omega : ¬ k < q ∨ (k < q ∧ ¬ k < ns)) with h2 | ⟨h2, h3⟩
              · have j1 : ¬ (k : Int) < (q : Int) := by omega
                clear h1 hlt
                go_wp2_with fail
                go_roundw
                case rel => exact ⟨k + 1, by omega, by go_num, by first | rfl | trivial⟩
                case measure => simp [intOf]; omega
              · have j1 : (k : Int) < (q : Int) := by omega
                have j2 : ¬ (k : Int) < (ns : Int) := by omega
                clear h1 hlt
                go_wp2_with fail
                go_roundw
                case rel => exact ⟨k + 1, by omega, by go_num, by first | rfl | trivial⟩
                case measure => simp [intOf]; omega
          · have i1 : ¬ (k : Int) < (q3 : Int) := by omega
            clear hlt hk
            go_wp2_with (go_at_call 15; (with_reducible refine (awake_any _).mono ?_); rintro e w13 ⟨rfl, k13⟩)
            go_ret
            exact ⟨rfl, KWC.out.trans k13⟩
end Go.Proofs.Ytfkmhdnapmicdaa
