/- haymowref19.Is. -/
import Derived.Test.Ytfkmhdnapmicdaa19U
namespace Go.Proofs.Ytfkmhdnapmicdaa
set_option linter.unusedSimpArgs false
set_option linter.unusedVariables false
open Go.RowKit

/-- is a file of the program's the file of the document's? -/
noncomputable def isB (f : Fl) (B : List UInt8) (T : List Bool) : Bool := by
  classical exact decide (mayB f = true ∧ f.size = (B.length : Int) ∧ (∀ t, t < T.length → hasL f.L t = T.getD t false) ∧ rdB f.L 0 f.size.toNat = B)
theorem isB_iff {f : Fl} {B : List UInt8} {T : List Bool} : isB f B T = true ↔ (mayB f = true ∧ f.size = (B.length : Int) ∧ (∀ t, t < T.length → hasL f.L t = T.getD t false) ∧ rdB f.L 0 f.size.toNat = B) := by
  classical
  unfold isB; simp
theorem isB_f {f : Fl} {B : List UInt8} {T : List Bool} (h : ¬ (mayB f = true ∧ f.size = (B.length : Int) ∧ (∀ t, t < T.length → hasL f.L t = T.getD t false) ∧ rdB f.L 0 f.size.toNat = B)) : isB f B T = false :=
  Bool.eq_false_iff.2 (fun e => h (isB_iff.1 e))
theorem of_at (n N : Nat) (L : List Pc) (v : Value) (w : World) (h : Sp w v ⟨(n : Int), L⟩) (hv : Valid ⟨(n : Int), L⟩) (hN : needI (n : Int) = (N : Int)) : Calls Try.prog 13 #[v] w fun e w' => ∃ A3 c3 A4 c4, e = .returned (.agg #[.slice A3 n c3, .slice A4 N c4]) ∧ Byts w' (.slice A3 n c3) (rdB L 0 n) ∧ Bools w' (.slice A4 N c4) ((List.range N).map (hasL L)) ∧ Kept w w' := by
  refine (of_any _ v w h hv).mono ?_
  rintro e w' ⟨v2, rfl, ⟨vB, vT, rfl, hB, hT⟩, k⟩
  dsimp only at hB hT
  rw [Int.toNat_natCast] at hB
  rw [hN, Int.toNat_natCast] at hT
  obtain ⟨A3, c3, rfl⟩ := hB.shape
  obtain ⟨A4, c4, rfl⟩ := hT.shape
  rw [rdB_len] at hB ⊢
  rw [List.length_map, List.length_range] at hT ⊢
  exact ⟨_, _, _, _, rfl, hB, hT, k⟩
set_option maxRecDepth 100000 in
set_option maxHeartbeats 4000000 in
theorem is_any (f : Fl) (B : List UInt8) (T : List Bool) (v u : Value) (w : World) (h : Sp w v f) (hR : Rf w u B T) (hB : B.length ≤ 1000000) (hT : (T.length : Int) ≤ needI (B.length : Int)) : Calls Try.prog 12 #[v, u] w (BoolPost (isB f B T) w) := by
  have HMF := hid (fun (w' : World) (k : Kept w w') => rmay_any f v w' (k.sp h))
  obtain ⟨N, hN⟩ : ∃ N : Nat, needI (B.length : Int) = (N : Int) := ⟨(needI (B.length : Int)).toNat, by unfold needI; split <;> omega⟩
  have HOF := hid (fun (hv : mayB f = true) (hs : f.size = (B.length : Int)) (w' : World) (k : Kept w w') => of_at B.length N f.L v w' (by rw [← hs]; exact k.sp h) (by rw [← hs]; exact mayB_iff.1 hv) hN)
  have HIF := hid (fun hn => isB_f (f := f) (B := B) (T := T) hn)
  have HIT := hid (fun hn => (isB_iff (f := f) (B := B) (T := T)).2 hn)
  obtain ⟨vl, rfl, hP⟩ := h
  obtain ⟨A, c, rfl⟩ := hP.shape
  obtain ⟨vB, vT, rfl, hyB, hyT⟩ := hR
  obtain ⟨A1, c1, rfl⟩ := hyB.shape
  obtain ⟨A2, c2, rfl⟩ := hyT.shape
  obtain ⟨s, L⟩ := f
  dsimp only at *
  obtain ⟨m, hm⟩ : ∃ m, L.length = m := ⟨_, rfl⟩
  obtain ⟨n, hn⟩ : ∃ n, B.length = n := ⟨_, rfl⟩
  obtain ⟨q, hq⟩ : ∃ q, T.length = q := ⟨_, rfl⟩
  rw [hm] at HMF HOF hP ⊢
  rw [hn] at hyB hB hT HIF HIT HOF ⊢
  rw [hq] at hyT hT HIF HIT ⊢
  have HYB := hid hyB; have HYT := hid hyT; have HN := hid hn; have HQ := hid hq
  rw [hn] at hN
  rw [hN] at hT
  have HT := hid hT
  have hq9 : q ≤ 8000 := by unfold needI at hN; split at hN <;> omega
  clear hyB hyT hP hm hn hq hT hN
  generalize hib : isB ⟨s, L⟩ B T = r at *
  clear hib
  cases hmb : mayB ⟨s, L⟩ with
  | false =>
    rw [hmb] at HMF
    obtain rfl := HIF.out (fun hh => by rw [hmb] at hh; exact absurd hh.1 (by simp))
    clear hmb
    go_enter Try.func12, Try.ntmps12
    go_wp2_with (go_at_call 11; (with_reducible refine (HMF.out _ ?_).mono ?_); exact (by repeat (first | exact Kept.refl _ | assumption | refine Kept.alloc ?_ _ | refine Kept.drew ?_ | refine Kept.drewN ?_ _ | refine Kept.setCell ?_ (by simp; try omega) _ | refine Kept.trans ?_ (by assumption))); rintro e w1 ⟨rfl, k1⟩)
    go_ret
    exact ⟨rfl, (by repeat (first | exact Kept.refl _ | assumption | refine Kept.alloc ?_ _ | refine Kept.drew ?_ | refine Kept.drewN ?_ _ | refine Kept.setCell ?_ (by simp; try omega) _ | refine Kept.trans ?_ (by assumption)))⟩
  | true =>
  rw [hmb] at HMF
  have HMB := hid hmb
  clear hmb
  by_cases hs : s = (n : Int)
  · have HOF2 := hid (HOF.out HMB.out hs)
    subst hs
    clear HOF
    have he : ((n : Int) != (n : Int)) = false := by simp
    go_enter Try.func12, Try.ntmps12
    go_wp2_with (first
      | (go_at_call 11; (with_reducible refine (HMF.out _ ?_).mono ?_); exact (by repeat (first | exact Kept.refl _ | assumption | refine Kept.alloc ?_ _ | refine Kept.drew ?_ | refine Kept.drewN ?_ _ | refine Kept.setCell ?_ (by simp; try omega) _ | refine Kept.trans ?_ (by assumption))); rintro e w1 ⟨rfl, k1⟩; have K1 := hid (show Kept w w1 from (by repeat (first | exact Kept.refl _ | assumption | refine Kept.alloc ?_ _ | refine Kept.drew ?_ | refine Kept.drewN ?_ _ | refine Kept.setCell ?_ (by simp; try omega) _ | refine Kept.trans ?_ (by assumption)))); have d0 := k1.keeps (b := w.heap.size) (o := 0) (s := none) (v := .int .i64 (n : Int)) (by simp [go_sem]); have d1 := k1.keeps (b := w.heap.size) (o := 1) (s := none) (v := .slice A m c) (by simp [go_sem]); have x0 := k1.keeps (b := w.heap.size + 1) (o := 0) (s := none) (v := .slice A1 n c1) (by simp [go_sem]); have x1 := k1.keeps (b := w.heap.size + 1) (o := 1) (s := none) (v := .slice A2 q c2) (by simp [go_sem]))
      | (go_at_call 13; (with_reducible refine (HOF2.out _ ?_).mono ?_); exact (by repeat (first | exact Kept.refl _ | assumption | refine Kept.alloc ?_ _ | refine Kept.drew ?_ | refine Kept.drewN ?_ _ | refine Kept.setCell ?_ (by simp; try omega) _ | refine Kept.trans ?_ (by assumption))); rintro e w2 ⟨A3, c3, A4, c4, rfl, hyB2, hyT2, k2⟩; have YB2 := hid hyB2; have YT2 := hid hyT2; have K2 := hid k2; have y0 := k2.keeps x0; have y1 := k2.keeps x1; clear hyB2 hyT2 k2))
    have K3 := hid (K2.out.alloc (.cells #[.slice A3 n c3, .slice A4 N c4] 36))
    have K4 := hid ((Kept.refl w2).alloc (.cells #[.slice A3 n c3, .slice A4 N c4] 36))
    have z0 : (w2.alloc (.cells #[.slice A3 n c3, .slice A4 N c4] 36)).cell? ⟨w2.heap.size, 0, none⟩ = some (.slice A3 n c3) := by simp [go_sem]
    have z1 : (w2.alloc (.cells #[.slice A3 n c3, .slice A4 N c4] 36)).cell? ⟨w2.heap.size, 1, none⟩ = some (.slice A4 N c4) := by simp [go_sem]
    have y0 := K4.out.keeps y0; have y1 := K4.out.keeps y1
    generalize (w2.alloc (.cells #[.slice A3 n c3, .slice A4 N c4] 36)) = w3 at *
    have Y0 := hid y0; have Y1 := hid y1; have Z0 := hid z0; have Z1 := hid z1
    generalize w2.heap.size = X at *
    have KW := hid (K1.out.trans K3.out)
    clear y0 y1 z0 z1 x0 x1 d0 d1 k1
    go_loopw [6] (fun t wr => ∃ k : Nat, k ≤ q ∧ t = .int .i64 k ∧ (∀ i : Nat, i < k → hasL L i = T.getD i false) ∧ Kept w3 wr) (fun t _ => q - (intOf t).toNat)
    case atStart => exact ⟨0, by omega, rfl, fun i hi => by omega, Kept.refl _⟩
    case round =>
      obtain ⟨k, hk, rfl, hzz, hkw⟩ := hrel
      have HZZ := hid hzz; have HK := hid hkw
      have y0 := hkw.keeps Y0.out; have y1 := hkw.keeps Y1.out; have z0 := hkw.keeps Z0.out; have z1 := hkw.keeps Z1.out
      clear hzz hkw
      by_cases hlt : k < q
      · have i0 : (0 : Int) ≤ (k : Int) := by omega
        have i1 : (k : Int) < (q : Int) := by omega
        have i2 : (k : Int) < (N : Int) := by have := HT.out; omega
        obtain ⟨b2, o2, rfl, hc2⟩ := HYT.out.cell k hlt
        obtain ⟨b4, o4, rfl, hc4⟩ := YT2.out.cell k (by omega)
        have c2' := (KW.out.trans HK.out).keeps hc2
        have c4' := (K4.out.trans HK.out).keeps hc4
        have hx : ((List.range N).map (hasL L)).getD k false = hasL L k := by simp [List.getD_eq_getElem?_getD, show k < N by omega]
        rw [hx] at c4'
        obtain ⟨x, hxe⟩ : ∃ x, hasL L k = x := ⟨_, rfl⟩
        obtain ⟨y, hye⟩ : ∃ y, T.getD k false = y := ⟨_, rfl⟩
        rw [hxe] at c4'
        rw [hye] at c2'
        have HXE := hid hxe; have HYE := hid hye
        clear hxe hye hx hc2 hc4
        have HST := hid (show x = y → ∀ i : Nat, i < k + 1 → hasL L i = T.getD i false from fun e i hi => by
          rcases Nat.lt_or_ge i k with h' | h'
          · exact HZZ.out i h'
          · obtain rfl : i = k := by omega
            rw [HXE.out, HYE.out, e])
        have HNO := hid (show x ≠ y → r = false from fun e => HIF.out (fun hh => e (by rw [← HXE.out, ← HYE.out]; exact hh.2.2.1 k hlt)))
        clear HXE HYE HIF HIT
        cases x <;> cases y
        case false.false =>
          go_wp2_with fail
          go_quiet (fail)
          go_wp2
          go_roundw
          case rel => exact ⟨k + 1, by omega, by go_num, HST.out (by trivial), HK.out.drewN _⟩
          case measure => simp [intOf]; omega
        case true.true =>
          go_wp2_with fail
          go_quiet (fail)
          go_wp2
          go_roundw
          case rel => exact ⟨k + 1, by omega, by go_num, HST.out (by trivial), HK.out.drewN _⟩
          case measure => simp [intOf]; omega
        case false.true =>
          obtain rfl := HNO.out (by decide)
          go_wp2_with fail
          go_quiet (fail)
          go_wp2
          go_ret
          exact ⟨rfl, (KW.out.trans HK.out).drewN _⟩
        case true.false =>
          obtain rfl := HNO.out (by decide)
          go_wp2_with fail
          go_quiet (fail)
          go_wp2
          go_ret
          exact ⟨rfl, (KW.out.trans HK.out).drewN _⟩
      · have HE := hid (show k = q by omega)
        have i3 : ¬ (k : Int) < (q : Int) := by omega
        have hcv := conv_byts ((K4.out.trans HK.out).byts YB2.out)
        have hcw := conv_byts ((KW.out.trans HK.out).byts HYB.out)
        have hall := hid (show ∀ t : Nat, t < q → hasL L t = T.getD t false from fun t ht => HZZ.out t (by rw [HE.out]; exact ht))
        by_cases hbb : rdB L 0 n = B
        · obtain rfl := HIT.out ⟨HMB.out, by first | trivial | rfl, hall.out, by first | exact hbb | (rw [Int.toNat_natCast]; exact hbb)⟩
          rw [hbb] at hcv
          obtain ⟨cs, hcs⟩ : ∃ cs, bstr B = cs := ⟨_, rfl⟩
          rw [hcs] at hcv hcw
          clear hbb hcs
          go_wp2
          go_ret
          exact ⟨rfl, KW.out.trans HK.out⟩
        · obtain rfl := HIF.out (fun hh => hbb (by have := hh.2.2.2; first | exact this | (rw [Int.toNat_natCast] at this; exact this)))
          have hne := bstr_ne hbb
          generalize bstr B = cs at *
          generalize bstr (rdB L 0 n) = ds at *
          clear hbb
          go_wp2
          go_ret
          exact ⟨rfl, KW.out.trans HK.out⟩
  · obtain rfl := HIF.out (fun hh => hs hh.2.1)
    have he : (s != (n : Int)) = true := by simpa using hs
    clear hs
    go_enter Try.func12, Try.ntmps12
    go_wp2_with (first
      | (go_at_call 11; (with_reducible refine (HMF.out _ ?_).mono ?_); exact (by repeat (first | exact Kept.refl _ | assumption | refine Kept.alloc ?_ _ | refine Kept.drew ?_ | refine Kept.drewN ?_ _ | refine Kept.setCell ?_ (by simp; try omega) _ | refine Kept.trans ?_ (by assumption))); rintro e w1 ⟨rfl, k1⟩; have d0 := k1.keeps (b := w.heap.size) (o := 0) (s := none) (v := .int .i64 s) (by simp [go_sem]); have x0 := k1.keeps (b := w.heap.size + 1) (o := 0) (s := none) (v := .slice A1 n c1) (by simp [go_sem])))
    go_ret
    exact ⟨rfl, (by repeat (first | exact Kept.refl _ | assumption | refine Kept.alloc ?_ _ | refine Kept.drew ?_ | refine Kept.drewN ?_ _ | refine Kept.setCell ?_ (by simp; try omega) _ | refine Kept.trans ?_ (by assumption)))⟩
end Go.Proofs.Ytfkmhdnapmicdaa
