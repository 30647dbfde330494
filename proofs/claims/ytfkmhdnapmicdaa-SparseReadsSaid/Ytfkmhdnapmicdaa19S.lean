/- haymowref19: need, May. -/
import Derived.Test.Ytfkmhdnapmicdaa19R
namespace Go.Proofs.Ytfkmhdnapmicdaa
set_option linter.unusedSimpArgs false
set_option linter.unusedVariables false
open Go.RowKit

theorem needI_split {s : Int} (k : Nat) : (128 * (k : Int) < s → (k : Int) + 1 ≤ needI s) ∧ (¬ 128 * (k : Int) < s → needI s ≤ (k : Int)) := by
  unfold needI
  constructor
  · intro h; split <;> omega
  · intro h; split <;> omega
set_option maxHeartbeats 1000000 in
theorem need_any (s : Int) (hs : s ≤ 1000000) (w : World) : Calls Try.prog 28 #[.int .i64 s] w fun e w' => e = .returned (.int .i64 (needI s)) ∧ w = w' := by
  have hn : 0 ≤ needI s ∧ needI s ≤ 8000 := by unfold needI; split <;> omega
  obtain ⟨N, hN⟩ : ∃ N : Nat, needI s = (N : Int) := ⟨(needI s).toNat, by omega⟩
  have HN := hid hN
  have hN2 : N ≤ 8000 := by omega
  rw [hN]
  clear hn hN
  go_enter Try.func28, Try.ntmps28
  go_wp2
  go_loopw [3] (fun t wr => ∃ k : Nat, k ≤ N ∧ t = .int .i64 k ∧ wr = w) (fun t _ => N - (intOf t).toNat)
  case atStart => exact ⟨0, by omega, rfl, rfl⟩
  case round =>
    obtain ⟨k, hk, rfl, rfl⟩ := hrel
    have hs2 := needI_split (s := s) k
    rw [HN.out] at hs2
    by_cases hlt : 128 * (k : Int) < s
    · have h1 := hs2.1 hlt
      clear hs2
      go_wp2
      go_roundw
      case rel => exact ⟨k + 1, by omega, by go_num, trivial⟩
      case measure => simp [intOf]; omega
    · have h1 := hs2.2 hlt
      obtain rfl : k = N := by omega
      clear hs2
      go_wp2
      go_ret
      exact ⟨rfl, rfl⟩
def ZP (f : Fl) (k : Nat) : Prop := ∀ (i : Nat) (p : Pc), i < k → f.L[i]? = some p → ∀ j : Nat, j < 128 → f.size ≤ 128 * p.n + j → p.b.getD j 0 = 0
set_option maxRecDepth 100000 in
set_option maxHeartbeats 4000000 in
theorem rmay_any (f : Fl) (v : Value) (w : World) (h : Sp w v f) : Calls Try.prog 11 #[v] w (BoolPost (mayB f) w) := by
  obtain ⟨vl, rfl, hP⟩ := h
  obtain ⟨A, c, rfl⟩ := hP.shape
  obtain ⟨h0, h1, h2, -, -⟩ := hP.open_
  have HVT := hid (fun hv => mayB_t (f := f) hv)
  have HVF := hid (fun hv => mayB_f (f := f) hv)
  obtain ⟨s, L⟩ := f
  dsimp only at *
  generalize hmb : mayB ⟨s, L⟩ = mb at *
  obtain ⟨m, hm⟩ : ∃ m, L.length = m := ⟨_, rfl⟩
  rw [hm] at hP h1 ⊢
  have HP := hid hP; have HM := hid hm
  clear hP h0 hm hmb
  by_cases hs0 : s < 0
  · obtain rfl := HVF.out (fun hv => by have := hv.s0; dsimp only at this; omega)
    go_enter Try.func11, Try.ntmps11
    go_wp2
    go_ret
    exact ⟨rfl, (by repeat (first | exact Kept.refl _ | assumption | refine Kept.alloc ?_ _ | refine Kept.drew ?_ | refine Kept.drewN ?_ _ | refine Kept.setCell ?_ (by simp; try omega) _ | refine Kept.trans ?_ (by assumption)))⟩
  by_cases hs1 : 463488 < s
  · obtain rfl := HVF.out (fun hv => by have := hv.s1; dsimp only at this; omega)
    go_enter Try.func11, Try.ntmps11
    go_wp2
    go_ret
    exact ⟨rfl, (by repeat (first | exact Kept.refl _ | assumption | refine Kept.alloc ?_ _ | refine Kept.drew ?_ | refine Kept.drewN ?_ _ | refine Kept.setCell ?_ (by simp; try omega) _ | refine Kept.trans ?_ (by assumption)))⟩
  have hn := needI_le (show s ≤ 463488 by omega)
  obtain ⟨cnt, hcnt⟩ : ∃ cnt, needI s = cnt := ⟨_, rfl⟩
  rw [hcnt] at hn
  have HC := hid hcnt
  have HSZ := hid (fun w => need_any s (by omega) w)
  rw [hcnt] at HSZ
  clear hcnt
  go_enter Try.func11, Try.ntmps11
  go_wp2_with (go_at_call 28; (with_reducible refine (HSZ.out _).mono ?_); rintro e w1 ⟨rfl, rfl⟩)
  have hk0 : Kept w (w.alloc (.cells #[.int .i64 s, .slice A m c] 24)) := (Kept.refl w).alloc _
  have b0 : (w.alloc (.cells #[.int .i64 s, .slice A m c] 24)).cell? ⟨w.heap.size, 0, none⟩ = some (.int .i64 s) := by simp [go_sem]
  have b1 : (w.alloc (.cells #[.int .i64 s, .slice A m c] 24)).cell? ⟨w.heap.size, 1, none⟩ = some (.slice A m c) := by simp [go_sem]
  generalize (w.alloc (.cells #[.int .i64 s, .slice A m c] 24)) = W at *
  generalize w.heap.size = bx at *
  have HK0 := hid hk0; have B0 := hid b0; have B1 := hid b1
  clear hk0 b0 b1
  go_loopw [4] (fun t wr => ∃ (k : Nat) (last : Int), k ≤ m ∧ t = .int .i64 k ∧ Good L cnt k last ∧ ZP ⟨s, L⟩ k ∧ Kept W wr) (fun t _ => m - (intOf t).toNat)
  case atStart => exact ⟨0, -1, by omega, rfl, good_0 _ _, fun i p hi => by omega, Kept.refl _⟩
  case round =>
    obtain ⟨k, last, hk, rfl, hg, hz, hkw⟩ := hrel
    have HG := hid hg; have HK := hid hkw; have HZP := hid hz
    have hlo := hg.lo; have hhi := hg.hi
    clear hg hkw hz
    have d0 := HK.out.keeps B0.out; have d1 := HK.out.keeps B1.out
    by_cases hlt : k < m
    · obtain ⟨b, o, p, rfl, hp, hc1, vb, hc2, hby⟩ := HP.out.at_ k hlt
      have k0 : (0 : Int) ≤ (k : Int) := by omega
      have k1 : (k : Int) < (m : Int) := by omega
      have c1 := (HK0.out.trans HK.out).keeps hc1; have c2 := (HK0.out.trans HK.out).keeps hc2
      have HPI := hid hp
      obtain ⟨A1, c3, rfl⟩ := hby.shape
      have HBD := hid (fun hb => HVF.out (Good.bad (f := ⟨s, L⟩) (k := k) (last := last) (by rw [HC.out]; exact HG.out) (p := p) hp hb))
      have HST := hid (fun x1 x2 x3 => HG.out.step hp x1 x2 x3 (by omega))
      have HZB := hid (show ∀ j : Nat, j < 128 → s ≤ 128 * p.n + j → p.b.getD j 0 ≠ 0 → mb = false from fun j hj hs hne => HVF.out fun hv => hne ((hv.pc p (List.mem_of_getElem? hp)).2.2.2 j hj hs))
      have HZN := hid (show (∀ j : Nat, j < 128 → s ≤ 128 * p.n + j → p.b.getD j 0 = 0) → ZP ⟨s, L⟩ (k + 1) from fun hh i q hi hq => by
        rcases Nat.lt_or_ge i k with h' | h'
        · exact HZP.out i q h' hq
        · obtain rfl : i = k := by omega
          have hq : L[i]? = some q := hq
          rw [hp] at hq; cases hq; exact hh)
      have HLST := hid (show ∀ (j : Nat) (q : Pc), k = j + 1 → L[j]? = some q → q.n = last from fun j q hj hq => HG.out.l q (by omega) (by rw [hj, Nat.add_sub_cancel]; exact hq))
      have HBY := hid hby
      obtain ⟨pn, pb⟩ := p
      dsimp only at *
      rw [HC.out] at HBD
      obtain ⟨q, hq⟩ : ∃ q, pb.length = q := ⟨_, rfl⟩
      rw [hq] at c2 HBD HST HBY
      clear hp hc1 hc2 hby hq
      go_wp2_with fail
      have HWB := hid ((Kept.refl wr).alloc (.cells #[.int .i64 pn, .slice A1 q c3] 62))
      have e0 : (wr.alloc (.cells #[.int .i64 pn, .slice A1 q c3] 62)).cell? ⟨wr.heap.size, 0, none⟩ = some (.int .i64 pn) := by simp [go_sem]
      have e1 : (wr.alloc (.cells #[.int .i64 pn, .slice A1 q c3] 62)).cell? ⟨wr.heap.size, 1, none⟩ = some (.slice A1 q c3) := by simp [go_sem]
      have g0 := HWB.out.keeps d0; have g1 := HWB.out.keeps d1
      have K2 := hid (HK0.out.trans (HK.out.trans HWB.out)); have K3 := hid (HK.out.trans HWB.out)
      clear d0 d1 c1 c2
      generalize (wr.alloc (.cells #[.int .i64 pn, .slice A1 q c3] 62)) = wb at *
      generalize wr.heap.size = bp at *
      clear HWB
      by_cases q1 : pn < 0
      · have t1 : decide (pn < 0) = true := decide_eq_true q1
        obtain rfl := HBD.out (.inl (by omega))
        go_quiet (fail)
        go_wp2
        go_ret
        exact ⟨rfl, K2.out.trans (by repeat (first | exact Kept.refl _ | assumption | refine Kept.alloc ?_ _ | refine Kept.drew ?_ | refine Kept.drewN ?_ _ | refine Kept.setCell ?_ (by simp; try omega) _ | refine Kept.trans ?_ (by assumption)))⟩
      have t1 : decide (pn < 0) = false := decide_eq_false q1
      by_cases q2 : cnt ≤ pn
      · have t2 : decide (cnt ≤ pn) = true := decide_eq_true q2
        obtain rfl := HBD.out (.inr (.inl q2))
        go_quiet (fail)
        go_wp2
        go_ret
        exact ⟨rfl, K2.out.trans (by repeat (first | exact Kept.refl _ | assumption | refine Kept.alloc ?_ _ | refine Kept.drew ?_ | refine Kept.drewN ?_ _ | refine Kept.setCell ?_ (by simp; try omega) _ | refine Kept.trans ?_ (by assumption)))⟩
      have t2 : decide (cnt ≤ pn) = false := decide_eq_false q2
      have hfin : ∀ (W' : World), Kept wb W' → W'.cell? ⟨bx, 0, none⟩ = some (.int .i64 s) ∧ W'.cell? ⟨bx, 1, none⟩ = some (.slice (some ⟨b, o, none⟩) m c) ∧ W'.cell? ⟨bp, 0, none⟩ = some (.int .i64 pn) ∧ W'.cell? ⟨bp, 1, none⟩ = some (.slice A1 q c3) := fun W' k => ⟨k.keeps g0, k.keeps g1, k.keeps e0, k.keeps e1⟩
      have HFC := hid hfin
      clear hfin
      rcases (by omega : k = 0 ∨ 0 < k) with hk0' | hk0'
      · have t3 : decide (0 < k) = false := decide_eq_false (by omega)
        have hg3 : ¬ pn ≤ last := by have := HG.out.z hk0'; omega
        clear hk0'
        by_cases q5 : q = 128
        · have t5 : ((q : Int) != 128) = false := by simp; omega
          go_quiet (fail)
          go_wp2_with fail
          have Q5 := hid q5
          have hpnb : pn ≤ 4000 := by omega
          clear t1 t2 t3 t5 e0 e1 g0 g1 q5
          go_loopw [6] (fun t wr => ∃ j : Nat, j ≤ 128 ∧ t = .int .i64 j ∧ (∀ i : Nat, i < j → s ≤ 128 * pn + i → pb.getD i 0 = 0) ∧ Kept wb wr) (fun t _ => 128 - (intOf t).toNat)
          case atStart => exact ⟨0, by omega, rfl, fun i hi => by omega, (by repeat (first | exact Kept.refl _ | assumption | refine Kept.alloc ?_ _ | refine Kept.drew ?_ | refine Kept.drewN ?_ _ | refine Kept.setCell ?_ (by simp; try omega) _ | refine Kept.trans ?_ (by assumption)))⟩
          case round =>
            obtain ⟨j, hj, rfl, hzz, hkj⟩ := hrel
            have HZZ := hid hzz; have HKJ := hid hkj
            clear hzz hkj
            have hjq : j < 128 → (j : Int) < (q : Int) := fun h => by have := Q5.out; omega
            obtain ⟨x0, x1, x2, x3⟩ := HFC.out _ HKJ.out
            by_cases hlj : j < 128
            · have j0 : (0 : Int) ≤ (j : Int) := by omega
              have j1 := hjq hlj
              have j2 : (j : Int) < 128 := by omega
              clear hjq
              by_cases hge : s ≤ 128 * pn + (j : Int)
              · obtain ⟨b5, o5, rfl, hc5⟩ := HBY.out.cell j (by have := Q5.out; omega)
                have c5 := (K2.out.trans HKJ.out).keeps hc5
                obtain ⟨z, hz⟩ : ∃ z, ((pb.getD j 0).toNat : Int) = z := ⟨_, rfl⟩
                rw [hz] at c5
                have HZQ := hid hz
                clear hz hc5
                by_cases hz0 : z = 0
                · subst hz0
                  go_wp2
                  go_roundw
                  case rel => exact ⟨j + 1, by omega, by go_num, fun i hi hs => by
                    rcases Nat.lt_or_ge i j with h' | h'
                    · exact HZZ.out i h' hs
                    · obtain rfl : i = j := by omega
                      have := HZQ.out
                      exact UInt8.toNat_inj.1 (by simpa using this), HKJ.out⟩
                  case measure => simp [intOf]; omega
                · have hzn : (z != 0) = true := by simpa using hz0
                  obtain rfl := HZB.out j hlj hge (fun e => by
                    have := HZQ.out
                    rw [e] at this
                    exact hz0 (by rw [← this]; rfl))
                  clear hz0
                  go_wp2
                  go_ret
                  exact ⟨rfl, K2.out.trans HKJ.out⟩
              · go_wp2
                go_roundw
                case rel => exact ⟨j + 1, by omega, by go_num, fun i hi hs => by
                  rcases Nat.lt_or_ge i j with h' | h'
                  · exact HZZ.out i h' hs
                  · exfalso; omega, HKJ.out⟩
                case measure => simp [intOf]; omega
            · have j2 : ¬ (j : Int) < 128 := by omega
              have hj128 : 128 ≤ j := by omega
              have HJ := hid hj128
              clear hjq hj128
              go_wp2
              go_roundw
              case rel => exact ⟨k + 1, pn, by omega, by go_num, HST.out (by omega) (by omega) Q5.out, HZN.out (fun i hi hs => HZZ.out i (by have := HJ.out; omega) hs), K3.out.trans HKJ.out⟩
              case measure => simp [intOf]; omega
        · have t5 : ((q : Int) != 128) = true := by simp; omega
          obtain rfl := HBD.out (.inr (.inr q5))
          go_quiet (fail)
          go_wp2
          go_ret
          exact ⟨rfl, K2.out.trans (by repeat (first | exact Kept.refl _ | assumption | refine Kept.alloc ?_ _ | refine Kept.drew ?_ | refine Kept.drewN ?_ _ | refine Kept.setCell ?_ (by simp; try omega) _ | refine Kept.trans ?_ (by assumption)))⟩
      · have t3 : decide (0 < k) = true := decide_eq_true (by omega)
        obtain ⟨b', o', p', hA', hp', hc', -⟩ := HP.out.at_ (k - 1) (by omega)
        obtain ⟨rfl, rfl⟩ : b' = b ∧ o' = o := by simp at hA'; exact ⟨hA'.1.symm, hA'.2.symm⟩
        rw [HLST.out (k - 1) p' (by omega) hp'] at hc'
        have e3 := K2.out.keeps hc'
        have hk2 : (0 : Int) ≤ (k : Int) - 1 := by omega
        have hk3 : (k : Int) - 1 < (m : Int) := by omega
        have hkn : ((k : Int) - 1).toNat = k - 1 := by omega
        have hkw : IntKind.i64.wrap ((k : Int) - 1) = (k : Int) - 1 := IntWalk.i64_in _ (by omega)
        clear hp' hc' hA'
        by_cases q4 : pn ≤ last
        · have t4 : decide (pn ≤ last) = true := decide_eq_true q4
          obtain rfl := HBD.out (.inl q4)
          clear hk0'
          go_quiet (fail)
          go_wp2
          go_ret
          exact ⟨rfl, K2.out.trans (by repeat (first | exact Kept.refl _ | assumption | refine Kept.alloc ?_ _ | refine Kept.drew ?_ | refine Kept.drewN ?_ _ | refine Kept.setCell ?_ (by simp; try omega) _ | refine Kept.trans ?_ (by assumption)))⟩
        · have t4 : decide (pn ≤ last) = false := decide_eq_false q4
          have hg3 := q4
          clear hk0'
          by_cases q5 : q = 128
          · have t5 : ((q : Int) != 128) = false := by simp; omega
            go_quiet (fail)
            go_wp2_with fail
            have Q5 := hid q5
            have hpnb : pn ≤ 4000 := by omega
            clear t1 t2 t3 t5 e0 e1 g0 g1 q5
            go_loopw [6] (fun t wr => ∃ j : Nat, j ≤ 128 ∧ t = .int .i64 j ∧ (∀ i : Nat, i < j → s ≤ 128 * pn + i → pb.getD i 0 = 0) ∧ Kept wb wr) (fun t _ => 128 - (intOf t).toNat)
            case atStart => exact ⟨0, by omega, rfl, fun i hi => by omega, (by repeat (first | exact Kept.refl _ | assumption | refine Kept.alloc ?_ _ | refine Kept.drew ?_ | refine Kept.drewN ?_ _ | refine Kept.setCell ?_ (by simp; try omega) _ | refine Kept.trans ?_ (by assumption)))⟩
            case round =>
              obtain ⟨j, hj, rfl, hzz, hkj⟩ := hrel
              have HZZ := hid hzz; have HKJ := hid hkj
              clear hzz hkj
              have hjq : j < 128 → (j : Int) < (q : Int) := fun h => by have := Q5.out; omega
              obtain ⟨x0, x1, x2, x3⟩ := HFC.out _ HKJ.out
              by_cases hlj : j < 128
              · have j0 : (0 : Int) ≤ (j : Int) := by omega
                have j1 := hjq hlj
                have j2 : (j : Int) < 128 := by omega
                clear hjq
                by_cases hge : s ≤ 128 * pn + (j : Int)
                · obtain ⟨b5, o5, rfl, hc5⟩ := HBY.out.cell j (by have := Q5.out; omega)
                  have c5 := (K2.out.trans HKJ.out).keeps hc5
                  obtain ⟨z, hz⟩ : ∃ z, ((pb.getD j 0).toNat : Int) = z := ⟨_, rfl⟩
                  rw [hz] at c5
                  have HZQ := hid hz
                  clear hz hc5
                  by_cases hz0 : z = 0
                  · subst hz0
                    go_wp2
                    go_roundw
                    case rel => exact ⟨j + 1, by omega, by go_num, fun i hi hs => by
                      rcases Nat.lt_or_ge i j with h' | h'
                      · exact HZZ.out i h' hs
                      · obtain rfl : i = j := by omega
                        have := HZQ.out
                        exact UInt8.toNat_inj.1 (by simpa using this), HKJ.out⟩
                    case measure => simp [intOf]; omega
                  · have hzn : (z != 0) = true := by simpa using hz0
                    obtain rfl := HZB.out j hlj hge (fun e => by
                      have := HZQ.out
                      rw [e] at this
                      exact hz0 (by rw [← this]; rfl))
                    clear hz0
                    go_wp2
                    go_ret
                    exact ⟨rfl, K2.out.trans HKJ.out⟩
                · go_wp2
                  go_roundw
                  case rel => exact ⟨j + 1, by omega, by go_num, fun i hi hs => by
                    rcases Nat.lt_or_ge i j with h' | h'
                    · exact HZZ.out i h' hs
                    · exfalso; omega, HKJ.out⟩
                  case measure => simp [intOf]; omega
              · have j2 : ¬ (j : Int) < 128 := by omega
                have hj128 : 128 ≤ j := by omega
                have HJ := hid hj128
                clear hjq hj128
                go_wp2
                go_roundw
                case rel => exact ⟨k + 1, pn, by omega, by go_num, HST.out (by omega) (by omega) Q5.out, HZN.out (fun i hi hs => HZZ.out i (by have := HJ.out; omega) hs), K3.out.trans HKJ.out⟩
                case measure => simp [intOf]; omega
          · have t5 : ((q : Int) != 128) = true := by simp; omega
            obtain rfl := HBD.out (.inr (.inr q5))
            go_quiet (fail)
            go_wp2
            go_ret
            exact ⟨rfl, K2.out.trans (by repeat (first | exact Kept.refl _ | assumption | refine Kept.alloc ?_ _ | refine Kept.drew ?_ | refine Kept.drewN ?_ _ | refine Kept.setCell ?_ (by simp; try omega) _ | refine Kept.trans ?_ (by assumption)))⟩
    · obtain rfl : k = m := by omega
      have hok : Valid ⟨s, L⟩ := Good.ok (f := ⟨s, L⟩) (last := last) (by rw [HC.out]; show Good L cnt L.length last; rw [HM.out]; exact HG.out) (by omega) (by omega) (fun p hp j hj hh => by
        have hl : 0 < L.length := by
          rcases Nat.eq_zero_or_pos L.length with e | e
          · have hp : L[L.length - 1]? = some p := hp
            rw [List.eq_nil_of_length_eq_zero e] at hp; cases hp
          · exact e
        exact HZP.out (L.length - 1) p (by rw [← HM.out]; omega) hp j hj hh)
      obtain rfl := HVT.out hok
      clear hok
      go_wp2
      go_ret
      exact ⟨rfl, HK0.out.trans HK.out⟩
end Go.Proofs.Ytfkmhdnapmicdaa
