/- TablePlays: the walk. -/
import Derived.Test.Ythbnkoaigeffnaa20R2
import Derived.Test.YthbnkoaigeffnaaSame
import Derived.Deep.RegionHeld3
import Derived.Deep.DrawnRows
namespace Go.Proofs.Ythbnkoaigeffnaa
set_option linter.unusedSimpArgs false
set_option linter.unusedVariables false
open Go.RowKit
attribute [local go_sem ↓] Go.wp_at_zero Go.wp_at_succ

theorem quiet_l {P : Program} {f : FuncId} {args : Array Value} {w : World} {n : Nat} {v : Value}
    (h : Calls P f args (w.drewN n) fun e w' => e = .returned v ∧ w.drewN n = w') : Calls P f args (w.drewN n) fun e w'' => e = .returned v ∧ ∃ m, w'' = w.drewN m :=
  h.mono fun _ _ ⟨he, hm⟩ => ⟨he, n, hm.symm⟩
theorem tabR0 (w : World) (t : TypeId) : TabR (w.alloc (.cells #[.int .i64 0, .int .i64 0, .int .i64 0, .int .i64 0, .int .i64 0, .int .i64 0, .int .i64 0, .int .i64 0, .int .i64 0, .int .i64 0, .int .i64 0, .int .i64 0, .int .i64 0, .int .i64 0, .int .i64 0, .int .i64 0, .int .i64 0, .int .i64 0, .int .i64 0, .int .i64 0, .int .i64 0, .int .i64 0, .int .i64 0, .int .i64 0] t)) w.heap.size S0 := by
  refine ⟨_, t, heap_alloc_new w _, rfl, fun j hj => ?_⟩
  have e : refV S0 j = .int .i64 0 := by unfold refV S0; split <;> (try split) <;> rfl
  rw [e, show (#[.int .i64 0, .int .i64 0, .int .i64 0, .int .i64 0, .int .i64 0, .int .i64 0, .int .i64 0, .int .i64 0, .int .i64 0, .int .i64 0, .int .i64 0, .int .i64 0, .int .i64 0, .int .i64 0, .int .i64 0, .int .i64 0, .int .i64 0, .int .i64 0, .int .i64 0, .int .i64 0, .int .i64 0, .int .i64 0, .int .i64 0, .int .i64 0] : Array Value) = Array.replicate 24 (.int .i64 0) from rfl, Array.getElem?_replicate, if_pos hj]
theorem rget_eq (S : Tb) (hok : Ok S) (fd i m p x : Int) (h : gI S fd = i ∧ gM S fd = m ∧ gP S fd = p ∧ gE S fd = x) (b : Nat) (w : World) (hS : TabR w b S) :
    Calls Try.prog 16 #[.pointer (some ⟨b, 0, none⟩), .int .i64 fd] w fun e w' => e = .returned (.tuple #[.agg #[.int .i64 i, .int .i64 m, .int .i64 p], .int .i64 x]) ∧ Kept w w' := by
  have := rget_any S hok b fd w hS
  rwa [h.1, h.2.1, h.2.2.1, h.2.2.2] at this
theorem But.tabR {a b : Nat} {w w1 : World} {S : Tb} (hk : But a w w1) (h : TabR w b S) (hne : b ≠ a) : TabR w1 b S := hk.blk h hne
theorem But.tabP {a b : Nat} {w w1 : World} {S : Tb} (hk : But b w w1) (h : TabP w a S) (hne : a ≠ b) : TabP w1 a S := hk.blk h hne

set_option maxRecDepth 100000 in
set_option maxHeartbeats 4000000 in
theorem plays_walk (A : Option Addr) (n c : Nat) (d x m : Nat → Int) (w : World) (hA : Acts w A n c d x m) :
    Calls Try.prog 4 #[.slice A n c] w fun e w' => e = .returned (.bool true) ∧ Kept w w' := by
  obtain ⟨hnc, hc63, hcells⟩ := hA
  have HCL := hid hcells; clear hcells
  have hn63 : (n : Int) ≤ 9223372036854775807 := by omega
  clear hnc hc63
  go_enter Try.func4, Try.ntmps4
  go_wp2_with (go_at_call 6; refine (new_any _).mono ?_; rintro e w1 ⟨a, rfl, ha, hb, k1⟩; have T1 := hid (show TabP w1 a S0 from hb); have K1 := hid k1; have HAA := hid ha; have hab : a < w1.heap.size := hb.lt; have HAB := hid hab; have h1w := k1.size; have HBB := hid h1w; clear hb k1 ha hab h1w)
  go_loopw [5] (fun t wr => ∃ (i : Nat) (S : Tb), i ≤ n ∧ i ≤ 60 ∧ t = .int .i64 i ∧ Ok S ∧ TabP wr a S ∧ TabR wr w1.heap.size S ∧ Kept w wr) (fun t _ => (60 - intOf t).toNat)
  case atStart => exact ⟨0, S0, by omega, by omega, rfl, ok0, Blk.alloc T1.out _, tabR0 w1 _, K1.out.alloc _⟩
  case round =>
    obtain ⟨i, S, hin, hi60, rfl, hok, hT, hR, hkr⟩ := hrel
    have T := hid hT; have R := hid hR; have K := hid hkr; have HOK := hid hok
    clear hT hR hkr hok
    have hne : a ≠ w1.heap.size := by have := HAB.out; omega
    have HNE := hid hne; clear hne
    by_cases hlt : i < n
    · by_cases h60 : i < 60
      · obtain ⟨b2, o2, rfl, hcl⟩ := HCL.out (by omega)
        obtain ⟨hc0, hc1, hc2⟩ := hcl i hlt
        have hc0 := K.out.keeps hc0
        have hc1 := K.out.keeps hc1
        have hc2 := K.out.keeps hc2
        clear hcl
        generalize d i = dd at *
        generalize x i = xx at *
        generalize m i = mm at *
        have T0 := hid (show TabP _ a S from Blk.alloc T.out (.cells #[.int .i64 dd, .int .i64 xx, .int .i64 mm] 26))
        have R0 := hid (show TabR _ w1.heap.size S from Blk.alloc R.out (.cells #[.int .i64 dd, .int .i64 xx, .int .i64 mm] 26))
        have K0 := hid (K.out.alloc (.cells #[.int .i64 dd, .int .i64 xx, .int .i64 mm] 26))
        have hna : wr.heap.size ≠ a := by have := T.out.lt; omega
        have hnb : wr.heap.size ≠ w1.heap.size := by have := Blk.lt R.out; omega
        have HNA := hid hna; have HNB := hid hnb; clear hna hnb
        have z0 : (wr.alloc (.cells #[.int .i64 dd, .int .i64 xx, .int .i64 mm] 26)).cell? ⟨wr.heap.size, 0, none⟩ = some (.int .i64 dd) := by simp [go_sem]
        have z1 : (wr.alloc (.cells #[.int .i64 dd, .int .i64 xx, .int .i64 mm] 26)).cell? ⟨wr.heap.size, 1, none⟩ = some (.int .i64 xx) := by simp [go_sem]
        have z2 : (wr.alloc (.cells #[.int .i64 dd, .int .i64 xx, .int .i64 mm] 26)).cell? ⟨wr.heap.size, 2, none⟩ = some (.int .i64 mm) := by simp [go_sem]
        by_cases hd0 : dd = 0
        · subst hd0
          have HO := hid (open_any S a xx mm)
          have HRO := hid (ropen_any S HOK.out w1.heap.size xx mm)
          have OKF := hid (HOK.out.opn xx mm)
          have HM := hid (mode_any mm)
          have HRM := hid (rmode_any mm)
          obtain ⟨S', hS'⟩ : ∃ S', oS S xx mm = S' := ⟨_, rfl⟩
          rw [hS'] at HO HRO OKF
          clear hS'
          generalize oF S xx mm = f0 at *
          generalize oE S xx mm = e0 at *
          generalize modeB mm = mb at *
          have hf0 : (f0 != f0) = false := by simp
          have he0 : (e0 != e0) = false := by simp
          have hmb : (mb != mb) = false := by simp
          go_wp2_with (first
            | (go_at_call 11; refine (HO.out _ T0.out).mono ?_; rintro e w5 ⟨rfl, hb, k⟩; have z0 := k.keeps z0 HNA.out; have z1 := k.keeps z1 HNA.out; have z2 := k.keeps z2 HNA.out; have T5 := hid hb; have R5 := hid (k.tabR R0.out HNE.out.symm); have K5 := hid (K0.out.turned k HAA.out); clear hb k)
            | (go_at_call 13; refine (HRO.out _ R5.out).mono ?_; rintro e w6 ⟨rfl, hb, k⟩; have z0 := k.keeps z0 HNB.out; have z1 := k.keeps z1 HNB.out; have z2 := k.keeps z2 HNB.out; have T6 := hid (k.tabP T5.out HNE.out); have R6 := hid hb; have K6 := hid (K5.out.turned k HBB.out); clear hb k))
          go_quiet (first | (go_at_call 14; exact quiet_l (HM.out _)) | (go_at_call 15; exact quiet_l (HRM.out _)))
          have TF := hid (show TabP (w6.drewN nq) a S' from Blk.drewN T6.out nq)
          have RF := hid (show TabR (w6.drewN nq) w1.heap.size S' from Blk.drewN R6.out nq)
          have KF := hid (K6.out.drewN nq)
          clear z0 z1 z2
          have HL := hid (fun w hS => list_any S' a w hS)
          have HRL := hid (fun w hS => rlist_any S' OKF.out w1.heap.size w hS)
          go_wp2_with (first
            | (go_at_call 7; refine (HL.out _ TF.out).mono ?_; rintro e wl ⟨vl, rfl, gl, kl⟩; have GL := hid gl; have RL := hid (kl.tabR RF.out); have KL := hid kl; clear gl kl)
            | (go_at_call 24; refine (HRL.out _ RL.out).mono ?_; rintro e wm ⟨vm, rfl, gm, km⟩; have GM := hid gm; have KM := hid (KL.out.trans km); have GL2 := hid (km.ints GL.out); clear gm km)
            | (go_at_call 23; refine (same_t vl vm _ _ _ GL2.out GM.out rfl).mono ?_; rintro e wo ⟨rfl, ko⟩; have KO := hid (KM.out.trans ko); clear ko))
          have hneq := neq_fd
          have hneg := neq_fd_guard
          have TO := hid (show TabP wo a S' from KO.out.blk TF.out)
          have RO := hid (show TabR wo w1.heap.size S' from KO.out.tabR RF.out)
          have KK := hid (KF.out.trans KO.out)
          clear GL GL2 GM HL HRL
          go_loopw [19] (fun t wp => ∃ f : Nat, f ≤ 8 ∧ t = .int .i64 f ∧ Kept wo wp) (fun t _ => (8 - intOf t).toNat)
          case atStart => exact ⟨0, by omega, rfl, Kept.refl _⟩
          case round =>
            obtain ⟨f, hf8, rfl, hkf⟩ := hrel
            by_cases hfl : f < 8
            · obtain ⟨i1, hi1⟩ : ∃ z, gI S' f = z := ⟨_, rfl⟩
              obtain ⟨m1, hm1⟩ : ∃ z, gM S' f = z := ⟨_, rfl⟩
              obtain ⟨p1, hp1⟩ : ∃ z, gP S' f = z := ⟨_, rfl⟩
              obtain ⟨e1, he1⟩ : ∃ z, gE S' f = z := ⟨_, rfl⟩
              have HG := hid (get_eq S' f i1 m1 p1 e1 ⟨hi1, hm1, hp1, he1⟩ a)
              have HRG := hid (rget_eq S' OKF.out f i1 m1 p1 e1 ⟨hi1, hm1, hp1, he1⟩ w1.heap.size)
              clear hi1 hm1 hp1 he1
              have hee : (e1 != e1) = false := by simp
              go_wp2_with (first
                | (go_at_call 9; refine (HG.out _ (show TabP _ a S' from hkf.blk TO.out)).mono ?_; rintro e wq ⟨rfl, kq⟩; have KQ := hid ((hkf.trans kq).alloc (.cells #[.int .i64 i1, .int .i64 m1, .int .i64 p1] 33)); clear kq)
                | (go_at_call 16; refine (HRG.out _ (show TabR _ w1.heap.size S' from KQ.out.tabR RO.out)).mono ?_; rintro e ws ⟨rfl, ks⟩; have qk0 := ks.keeps (b := wq.heap.size) (o := 0) (s := none) (v := .int .i64 i1) (by simp [go_sem]); have qk1 := ks.keeps (b := wq.heap.size) (o := 1) (s := none) (v := .int .i64 m1) (by simp [go_sem]); have qk2 := ks.keeps (b := wq.heap.size) (o := 2) (s := none) (v := .int .i64 p1) (by simp [go_sem]); have KS := hid ((KQ.out.trans ks).alloc (.cells #[.int .i64 i1, .int .i64 m1, .int .i64 p1] 33)); clear ks))
              go_roundw
              case rel => exact ⟨f + 1, by omega, by go_num, KS.out⟩
              case measure => simp [intOf]; omega
            · obtain rfl : f = 8 := by omega
              go_wp2
              go_roundw
              case rel => exact ⟨i + 1, S', by omega, by omega, by go_num, OKF.out, hkf.blk TO.out, hkf.tabR RO.out, KK.out.trans hkf⟩
              case measure => simp [intOf]; omega
        · by_cases hd1 : dd = 1
          · subst hd1
            clear hd0
            obtain ⟨i1, hi1⟩ : ∃ z, gI S xx = z := ⟨_, rfl⟩
            obtain ⟨m1, hm1⟩ : ∃ z, gM S xx = z := ⟨_, rfl⟩
            obtain ⟨p1, hp1⟩ : ∃ z, gP S xx = z := ⟨_, rfl⟩
            obtain ⟨e1, he1⟩ : ∃ z, gE S xx = z := ⟨_, rfl⟩
            have HG := hid (get_eq S xx i1 m1 p1 e1 ⟨hi1, hm1, hp1, he1⟩ a)
            have HRG := hid (rget_eq S HOK.out xx i1 m1 p1 e1 ⟨hi1, hm1, hp1, he1⟩ w1.heap.size)
            clear hi1 hm1 hp1 he1
            have hee : (e1 != e1) = false := by simp
            have hneq := neq_fd
            have hneg := neq_fd_guard
            go_wp2_with (first
              | (go_at_call 9; refine (HG.out _ T0.out).mono ?_; rintro e wq ⟨rfl, kq⟩; have z0 := kq.keeps z0; have z1 := kq.keeps z1; have z2 := kq.keeps z2; have KQ := hid (kq.alloc (.cells #[.int .i64 i1, .int .i64 m1, .int .i64 p1] 33)); clear kq)
              | (go_at_call 16; refine (HRG.out _ (show TabR _ w1.heap.size S from KQ.out.tabR R0.out)).mono ?_; rintro e ws ⟨rfl, ks⟩; have qk0 := ks.keeps (b := wq.heap.size) (o := 0) (s := none) (v := .int .i64 i1) (by simp [go_sem]); have qk1 := ks.keeps (b := wq.heap.size) (o := 1) (s := none) (v := .int .i64 m1) (by simp [go_sem]); have qk2 := ks.keeps (b := wq.heap.size) (o := 2) (s := none) (v := .int .i64 p1) (by simp [go_sem]); have KS := hid ((KQ.out.trans ks).alloc (.cells #[.int .i64 i1, .int .i64 m1, .int .i64 p1] 33)); clear ks))
            obtain ⟨S', hS'⟩ : ∃ S', S = S' := ⟨_, rfl⟩
            subst hS'
            have TF := hid (show TabP _ a S from KS.out.blk T0.out)
            have RF := hid (show TabR _ w1.heap.size S from KS.out.tabR R0.out)
            have KF := hid (K0.out.trans KS.out)
            have OKF := HOK
            clear z0 z1 z2 hneq hneg hee
            have HL := hid (fun w hS => list_any S a w hS)
            have HRL := hid (fun w hS => rlist_any S OKF.out w1.heap.size w hS)
            go_wp2_with (first
              | (go_at_call 7; refine (HL.out _ TF.out).mono ?_; rintro e wl ⟨vl, rfl, gl, kl⟩; have GL := hid gl; have RL := hid (kl.tabR RF.out); have KL := hid kl; clear gl kl)
              | (go_at_call 24; refine (HRL.out _ RL.out).mono ?_; rintro e wm ⟨vm, rfl, gm, km⟩; have GM := hid gm; have KM := hid (KL.out.trans km); have GL2 := hid (km.ints GL.out); clear gm km)
              | (go_at_call 23; refine (same_t vl vm _ _ _ GL2.out GM.out rfl).mono ?_; rintro e wo ⟨rfl, ko⟩; have KO := hid (KM.out.trans ko); clear ko))
            have hneq := neq_fd
            have hneg := neq_fd_guard
            have TO := hid (show TabP wo a S from KO.out.blk TF.out)
            have RO := hid (show TabR wo w1.heap.size S from KO.out.tabR RF.out)
            have KK := hid (KF.out.trans KO.out)
            clear GL GL2 GM HL HRL
            go_loopw [19] (fun t wp => ∃ f : Nat, f ≤ 8 ∧ t = .int .i64 f ∧ Kept wo wp) (fun t _ => (8 - intOf t).toNat)
            case atStart => exact ⟨0, by omega, rfl, Kept.refl _⟩
            case round =>
              obtain ⟨f, hf8, rfl, hkf⟩ := hrel
              by_cases hfl : f < 8
              · obtain ⟨i1, hi1⟩ : ∃ z, gI S f = z := ⟨_, rfl⟩
                obtain ⟨m1, hm1⟩ : ∃ z, gM S f = z := ⟨_, rfl⟩
                obtain ⟨p1, hp1⟩ : ∃ z, gP S f = z := ⟨_, rfl⟩
                obtain ⟨e1, he1⟩ : ∃ z, gE S f = z := ⟨_, rfl⟩
                have HG := hid (get_eq S f i1 m1 p1 e1 ⟨hi1, hm1, hp1, he1⟩ a)
                have HRG := hid (rget_eq S OKF.out f i1 m1 p1 e1 ⟨hi1, hm1, hp1, he1⟩ w1.heap.size)
                clear hi1 hm1 hp1 he1
                have hee2 : (e1 != e1) = false := by simp
                go_wp2_with (first
                  | (go_at_call 9; refine (HG.out _ (show TabP _ a S from hkf.blk TO.out)).mono ?_; rintro e wq ⟨rfl, kq⟩; have KQ := hid ((hkf.trans kq).alloc (.cells #[.int .i64 i1, .int .i64 m1, .int .i64 p1] 33)); clear kq)
                  | (go_at_call 16; refine (HRG.out _ (show TabR _ w1.heap.size S from KQ.out.tabR RO.out)).mono ?_; rintro e ws ⟨rfl, ks⟩; have qk0 := ks.keeps (b := wq.heap.size) (o := 0) (s := none) (v := .int .i64 i1) (by simp [go_sem]); have qk1 := ks.keeps (b := wq.heap.size) (o := 1) (s := none) (v := .int .i64 m1) (by simp [go_sem]); have qk2 := ks.keeps (b := wq.heap.size) (o := 2) (s := none) (v := .int .i64 p1) (by simp [go_sem]); have KS := hid ((KQ.out.trans ks).alloc (.cells #[.int .i64 i1, .int .i64 m1, .int .i64 p1] 33)); clear ks))
                go_roundw
                case rel => exact ⟨f + 1, by omega, by go_num, KS.out⟩
                case measure => simp [intOf]; omega
              · obtain rfl : f = 8 := by omega
                go_wp2
                go_roundw
                case rel => exact ⟨i + 1, S, by omega, by omega, by go_num, OKF.out, hkf.blk TO.out, hkf.tabR RO.out, KK.out.trans hkf⟩
                case measure => simp [intOf]; omega
          · by_cases hd2 : dd = 2
            · subst hd2
              clear hd0 hd1
              obtain ⟨i1, hi1⟩ : ∃ z, fI S xx mm = z := ⟨_, rfl⟩
              obtain ⟨m1, hm1⟩ : ∃ z, fM S xx mm = z := ⟨_, rfl⟩
              obtain ⟨p1, hp1⟩ : ∃ z, fP S xx mm = z := ⟨_, rfl⟩
              obtain ⟨e1, he1⟩ : ∃ z, fE S xx mm = z := ⟨_, rfl⟩
              have HG := hid (fun w hS => File_any S HOK.out a xx mm w hS)
              have HRG := hid (fun w hS => rFile_any S HOK.out w1.heap.size xx mm w hS)
              rw [hi1, hm1, hp1, he1] at HG HRG
              clear hi1 hm1 hp1 he1
              have hee : (e1 != e1) = false := by simp
              have hneq := neq_fd
              have hneg := neq_fd_guard
              go_wp2_with (first
                | (go_at_call 17; refine (HG.out _ T0.out).mono ?_; rintro e wq ⟨rfl, kq⟩; have z0 := kq.keeps z0; have z1 := kq.keeps z1; have z2 := kq.keeps z2; have KQ := hid (kq.alloc (.cells #[.int .i64 i1, .int .i64 m1, .int .i64 p1] 33)); clear kq)
                | (go_at_call 18; refine (HRG.out _ (show TabR _ w1.heap.size S from KQ.out.tabR R0.out)).mono ?_; rintro e ws ⟨rfl, ks⟩; have qk0 := ks.keeps (b := wq.heap.size) (o := 0) (s := none) (v := .int .i64 i1) (by simp [go_sem]); have qk1 := ks.keeps (b := wq.heap.size) (o := 1) (s := none) (v := .int .i64 m1) (by simp [go_sem]); have qk2 := ks.keeps (b := wq.heap.size) (o := 2) (s := none) (v := .int .i64 p1) (by simp [go_sem]); have KS := hid ((KQ.out.trans ks).alloc (.cells #[.int .i64 i1, .int .i64 m1, .int .i64 p1] 33)); clear ks))
              obtain ⟨S', hS'⟩ : ∃ S', S = S' := ⟨_, rfl⟩
              subst hS'
              have TF := hid (show TabP _ a S from KS.out.blk T0.out)
              have RF := hid (show TabR _ w1.heap.size S from KS.out.tabR R0.out)
              have KF := hid (K0.out.trans KS.out)
              have OKF := HOK
              clear z0 z1 z2 hneq hneg hee
              have HL := hid (fun w hS => list_any S a w hS)
              have HRL := hid (fun w hS => rlist_any S OKF.out w1.heap.size w hS)
              go_wp2_with (first
                | (go_at_call 7; refine (HL.out _ TF.out).mono ?_; rintro e wl ⟨vl, rfl, gl, kl⟩; have GL := hid gl; have RL := hid (kl.tabR RF.out); have KL := hid kl; clear gl kl)
                | (go_at_call 24; refine (HRL.out _ RL.out).mono ?_; rintro e wm ⟨vm, rfl, gm, km⟩; have GM := hid gm; have KM := hid (KL.out.trans km); have GL2 := hid (km.ints GL.out); clear gm km)
                | (go_at_call 23; refine (same_t vl vm _ _ _ GL2.out GM.out rfl).mono ?_; rintro e wo ⟨rfl, ko⟩; have KO := hid (KM.out.trans ko); clear ko))
              have hneq := neq_fd
              have hneg := neq_fd_guard
              have TO := hid (show TabP wo a S from KO.out.blk TF.out)
              have RO := hid (show TabR wo w1.heap.size S from KO.out.tabR RF.out)
              have KK := hid (KF.out.trans KO.out)
              clear GL GL2 GM HL HRL
              go_loopw [19] (fun t wp => ∃ f : Nat, f ≤ 8 ∧ t = .int .i64 f ∧ Kept wo wp) (fun t _ => (8 - intOf t).toNat)
              case atStart => exact ⟨0, by omega, rfl, Kept.refl _⟩
              case round =>
                obtain ⟨f, hf8, rfl, hkf⟩ := hrel
                by_cases hfl : f < 8
                · obtain ⟨i1, hi1⟩ : ∃ z, gI S f = z := ⟨_, rfl⟩
                  obtain ⟨m1, hm1⟩ : ∃ z, gM S f = z := ⟨_, rfl⟩
                  obtain ⟨p1, hp1⟩ : ∃ z, gP S f = z := ⟨_, rfl⟩
                  obtain ⟨e1, he1⟩ : ∃ z, gE S f = z := ⟨_, rfl⟩
                  have HG := hid (get_eq S f i1 m1 p1 e1 ⟨hi1, hm1, hp1, he1⟩ a)
                  have HRG := hid (rget_eq S OKF.out f i1 m1 p1 e1 ⟨hi1, hm1, hp1, he1⟩ w1.heap.size)
                  clear hi1 hm1 hp1 he1
                  have hee2 : (e1 != e1) = false := by simp
                  go_wp2_with (first
                    | (go_at_call 9; refine (HG.out _ (show TabP _ a S from hkf.blk TO.out)).mono ?_; rintro e wq ⟨rfl, kq⟩; have KQ := hid ((hkf.trans kq).alloc (.cells #[.int .i64 i1, .int .i64 m1, .int .i64 p1] 33)); clear kq)
                    | (go_at_call 16; refine (HRG.out _ (show TabR _ w1.heap.size S from KQ.out.tabR RO.out)).mono ?_; rintro e ws ⟨rfl, ks⟩; have qk0 := ks.keeps (b := wq.heap.size) (o := 0) (s := none) (v := .int .i64 i1) (by simp [go_sem]); have qk1 := ks.keeps (b := wq.heap.size) (o := 1) (s := none) (v := .int .i64 m1) (by simp [go_sem]); have qk2 := ks.keeps (b := wq.heap.size) (o := 2) (s := none) (v := .int .i64 p1) (by simp [go_sem]); have KS := hid ((KQ.out.trans ks).alloc (.cells #[.int .i64 i1, .int .i64 m1, .int .i64 p1] 33)); clear ks))
                  go_roundw
                  case rel => exact ⟨f + 1, by omega, by go_num, KS.out⟩
                  case measure => simp [intOf]; omega
                · obtain rfl : f = 8 := by omega
                  go_wp2
                  go_roundw
                  case rel => exact ⟨i + 1, S, by omega, by omega, by go_num, OKF.out, hkf.blk TO.out, hkf.tabR RO.out, KK.out.trans hkf⟩
                  case measure => simp [intOf]; omega
            · by_cases hd3 : dd = 3
              · subst hd3
                clear hd0 hd1 hd2
                have HSP := hid (seek_any S a xx mm)
                have HSR := hid (rseek_any S HOK.out w1.heap.size xx mm)
                have OKF := hid (HOK.out.sk xx mm)
                obtain ⟨S', hS'⟩ : ∃ S', sS S xx mm = S' := ⟨_, rfl⟩
                rw [hS'] at HSP HSR OKF
                clear hS'
                generalize sE S xx mm = e0 at *
                have he0 : (e0 != e0) = false := by simp
                go_wp2_with (fail)
                have T0d := hid (show TabP _ a S from Blk.drew T0.out)
                have R0d := hid (show TabR _ w1.heap.size S from Blk.drew R0.out)
                have K0d := hid (Kept.drew K0.out)
                go_region_held3 (fun w' => w'.cell? ⟨wr.heap.size, 1, none⟩ = some (.int .i64 xx) ∧ w'.cell? ⟨wr.heap.size, 2, none⟩ = some (.int .i64 mm))
                  (first | exact ⟨by assumption, by assumption⟩ | exact ⟨by simpa using z1, by simpa using z2⟩)
                  (first
                    | (go_at_call 19; (try go_split_ands); refine (HSP.out _ (by first | exact T0d.out | exact kR.tabP T0d.out HNE.out)).mono ?_; rintro e wP ⟨rfl, hbP, kP⟩; have y1 := kP.keeps (b := wr.heap.size) (o := 1) (s := none) (v := .int .i64 xx) (by assumption) HNA.out; have y2 := kP.keeps (b := wr.heap.size) (o := 2) (s := none) (v := .int .i64 mm) (by assumption) HNA.out)
                    | (go_at_call 20; (try go_split_ands); refine (HSR.out _ (by first | exact R0d.out | exact kP.tabR R0d.out HNE.out.symm)).mono ?_; rintro e wR ⟨rfl, hbR, kR⟩; have y1 := kR.keeps (b := wr.heap.size) (o := 1) (s := none) (v := .int .i64 xx) (by assumption) HNB.out; have y2 := kR.keeps (b := wr.heap.size) (o := 2) (s := none) (v := .int .i64 mm) (by assumption) HNB.out))
                all_goals
                  first
                    | (have TF := hid (show TabP wR a S' from kR.tabP hbP HNE.out); have RF := hid hbR; have KF := hid ((K0d.out.turned kP HAA.out).turned kR HBB.out))
                    | (have TF := hid hbP; have RF := hid (show TabR wP w1.heap.size S' from kP.tabR hbR HNE.out.symm); have KF := hid ((K0d.out.turned kR HBB.out).turned kP HAA.out))
                  have HL := hid (fun w hS => list_any S' a w hS)
                  have HRL := hid (fun w hS => rlist_any S' OKF.out w1.heap.size w hS)
                  go_wp2_with (first
                    | (go_at_call 7; refine (HL.out _ TF.out).mono ?_; rintro e wl ⟨vl, rfl, gl, kl⟩; have GL := hid gl; have RL := hid (kl.tabR RF.out); have KL := hid kl; clear gl kl)
                    | (go_at_call 24; refine (HRL.out _ RL.out).mono ?_; rintro e wm ⟨vm, rfl, gm, km⟩; have GM := hid gm; have KM := hid (KL.out.trans km); have GL2 := hid (km.ints GL.out); clear gm km)
                    | (go_at_call 23; refine (same_t vl vm _ _ _ GL2.out GM.out rfl).mono ?_; rintro e wo ⟨rfl, ko⟩; have KO := hid (KM.out.trans ko); clear ko))
                  have hneq := neq_fd
                  have hneg := neq_fd_guard
                  have TO := hid (show TabP wo a S' from KO.out.blk TF.out)
                  have RO := hid (show TabR wo w1.heap.size S' from KO.out.tabR RF.out)
                  have KK := hid (KF.out.trans KO.out)
                  clear GL GL2 GM HL HRL
                  go_loopw [19] (fun t wp => ∃ f : Nat, f ≤ 8 ∧ t = .int .i64 f ∧ Kept wo wp) (fun t _ => (8 - intOf t).toNat)
                  case atStart => exact ⟨0, by omega, rfl, Kept.refl _⟩
                  case round =>
                    obtain ⟨f, hf8, rfl, hkf⟩ := hrel
                    by_cases hfl : f < 8
                    · obtain ⟨i1, hi1⟩ : ∃ z, gI S' f = z := ⟨_, rfl⟩
                      obtain ⟨m1, hm1⟩ : ∃ z, gM S' f = z := ⟨_, rfl⟩
                      obtain ⟨p1, hp1⟩ : ∃ z, gP S' f = z := ⟨_, rfl⟩
                      obtain ⟨e1, he1⟩ : ∃ z, gE S' f = z := ⟨_, rfl⟩
                      have HG := hid (get_eq S' f i1 m1 p1 e1 ⟨hi1, hm1, hp1, he1⟩ a)
                      have HRG := hid (rget_eq S' OKF.out f i1 m1 p1 e1 ⟨hi1, hm1, hp1, he1⟩ w1.heap.size)
                      clear hi1 hm1 hp1 he1
                      have hee : (e1 != e1) = false := by simp
                      go_wp2_with (first
                        | (go_at_call 9; refine (HG.out _ (show TabP _ a S' from hkf.blk TO.out)).mono ?_; rintro e wq ⟨rfl, kq⟩; have KQ := hid ((hkf.trans kq).alloc (.cells #[.int .i64 i1, .int .i64 m1, .int .i64 p1] 33)); clear kq)
                        | (go_at_call 16; refine (HRG.out _ (show TabR _ w1.heap.size S' from KQ.out.tabR RO.out)).mono ?_; rintro e ws ⟨rfl, ks⟩; have qk0 := ks.keeps (b := wq.heap.size) (o := 0) (s := none) (v := .int .i64 i1) (by simp [go_sem]); have qk1 := ks.keeps (b := wq.heap.size) (o := 1) (s := none) (v := .int .i64 m1) (by simp [go_sem]); have qk2 := ks.keeps (b := wq.heap.size) (o := 2) (s := none) (v := .int .i64 p1) (by simp [go_sem]); have KS := hid ((KQ.out.trans ks).alloc (.cells #[.int .i64 i1, .int .i64 m1, .int .i64 p1] 33)); clear ks))
                      go_roundw
                      case rel => exact ⟨f + 1, by omega, by go_num, KS.out⟩
                      case measure => simp [intOf]; omega
                    · obtain rfl : f = 8 := by omega
                      go_wp2
                      go_roundw
                      case rel => exact ⟨i + 1, S', by omega, by omega, by go_num, OKF.out, hkf.blk TO.out, hkf.tabR RO.out, KK.out.trans hkf⟩
                      case measure => simp [intOf]; omega
              · by_cases hd4 : dd = 4
                · subst hd4
                  clear hd0 hd1 hd2 hd3
                  have HSP := hid (close_any S a xx)
                  have HSR := hid (rclose_any S HOK.out w1.heap.size xx)
                  have OKF := hid (HOK.out.cl xx)
                  obtain ⟨S', hS'⟩ : ∃ S', cS S xx = S' := ⟨_, rfl⟩
                  rw [hS'] at HSP HSR OKF
                  clear hS'
                  generalize cE S xx = e0 at *
                  have he0 : (e0 != e0) = false := by simp
                  go_wp2_with (fail)
                  have T0d := hid (show TabP _ a S from Blk.drew T0.out)
                  have R0d := hid (show TabR _ w1.heap.size S from Blk.drew R0.out)
                  have K0d := hid (Kept.drew K0.out)
                  go_region_held3 (fun w' => w'.cell? ⟨wr.heap.size, 1, none⟩ = some (.int .i64 xx) ∧ w'.cell? ⟨wr.heap.size, 2, none⟩ = some (.int .i64 mm))
                    (first | exact ⟨by assumption, by assumption⟩ | exact ⟨by simpa using z1, by simpa using z2⟩)
                    (first
                      | (go_at_call 8; (try go_split_ands); refine (HSP.out _ (by first | exact T0d.out | exact kR.tabP T0d.out HNE.out)).mono ?_; rintro e wP ⟨rfl, hbP, kP⟩; have y1 := kP.keeps (b := wr.heap.size) (o := 1) (s := none) (v := .int .i64 xx) (by assumption) HNA.out; have y2 := kP.keeps (b := wr.heap.size) (o := 2) (s := none) (v := .int .i64 mm) (by assumption) HNA.out)
                      | (go_at_call 21; (try go_split_ands); refine (HSR.out _ (by first | exact R0d.out | exact kP.tabR R0d.out HNE.out.symm)).mono ?_; rintro e wR ⟨rfl, hbR, kR⟩; have y1 := kR.keeps (b := wr.heap.size) (o := 1) (s := none) (v := .int .i64 xx) (by assumption) HNB.out; have y2 := kR.keeps (b := wr.heap.size) (o := 2) (s := none) (v := .int .i64 mm) (by assumption) HNB.out))
                  all_goals
                    first
                      | (have TF := hid (show TabP wR a S' from kR.tabP hbP HNE.out); have RF := hid hbR; have KF := hid ((K0d.out.turned kP HAA.out).turned kR HBB.out))
                      | (have TF := hid hbP; have RF := hid (show TabR wP w1.heap.size S' from kP.tabR hbR HNE.out.symm); have KF := hid ((K0d.out.turned kR HBB.out).turned kP HAA.out))
                    have HL := hid (fun w hS => list_any S' a w hS)
                    have HRL := hid (fun w hS => rlist_any S' OKF.out w1.heap.size w hS)
                    go_wp2_with (first
                      | (go_at_call 7; refine (HL.out _ TF.out).mono ?_; rintro e wl ⟨vl, rfl, gl, kl⟩; have GL := hid gl; have RL := hid (kl.tabR RF.out); have KL := hid kl; clear gl kl)
                      | (go_at_call 24; refine (HRL.out _ RL.out).mono ?_; rintro e wm ⟨vm, rfl, gm, km⟩; have GM := hid gm; have KM := hid (KL.out.trans km); have GL2 := hid (km.ints GL.out); clear gm km)
                      | (go_at_call 23; refine (same_t vl vm _ _ _ GL2.out GM.out rfl).mono ?_; rintro e wo ⟨rfl, ko⟩; have KO := hid (KM.out.trans ko); clear ko))
                    have hneq := neq_fd
                    have hneg := neq_fd_guard
                    have TO := hid (show TabP wo a S' from KO.out.blk TF.out)
                    have RO := hid (show TabR wo w1.heap.size S' from KO.out.tabR RF.out)
                    have KK := hid (KF.out.trans KO.out)
                    clear GL GL2 GM HL HRL
                    go_loopw [19] (fun t wp => ∃ f : Nat, f ≤ 8 ∧ t = .int .i64 f ∧ Kept wo wp) (fun t _ => (8 - intOf t).toNat)
                    case atStart => exact ⟨0, by omega, rfl, Kept.refl _⟩
                    case round =>
                      obtain ⟨f, hf8, rfl, hkf⟩ := hrel
                      by_cases hfl : f < 8
                      · obtain ⟨i1, hi1⟩ : ∃ z, gI S' f = z := ⟨_, rfl⟩
                        obtain ⟨m1, hm1⟩ : ∃ z, gM S' f = z := ⟨_, rfl⟩
                        obtain ⟨p1, hp1⟩ : ∃ z, gP S' f = z := ⟨_, rfl⟩
                        obtain ⟨e1, he1⟩ : ∃ z, gE S' f = z := ⟨_, rfl⟩
                        have HG := hid (get_eq S' f i1 m1 p1 e1 ⟨hi1, hm1, hp1, he1⟩ a)
                        have HRG := hid (rget_eq S' OKF.out f i1 m1 p1 e1 ⟨hi1, hm1, hp1, he1⟩ w1.heap.size)
                        clear hi1 hm1 hp1 he1
                        have hee : (e1 != e1) = false := by simp
                        go_wp2_with (first
                          | (go_at_call 9; refine (HG.out _ (show TabP _ a S' from hkf.blk TO.out)).mono ?_; rintro e wq ⟨rfl, kq⟩; have KQ := hid ((hkf.trans kq).alloc (.cells #[.int .i64 i1, .int .i64 m1, .int .i64 p1] 33)); clear kq)
                          | (go_at_call 16; refine (HRG.out _ (show TabR _ w1.heap.size S' from KQ.out.tabR RO.out)).mono ?_; rintro e ws ⟨rfl, ks⟩; have qk0 := ks.keeps (b := wq.heap.size) (o := 0) (s := none) (v := .int .i64 i1) (by simp [go_sem]); have qk1 := ks.keeps (b := wq.heap.size) (o := 1) (s := none) (v := .int .i64 m1) (by simp [go_sem]); have qk2 := ks.keeps (b := wq.heap.size) (o := 2) (s := none) (v := .int .i64 p1) (by simp [go_sem]); have KS := hid ((KQ.out.trans ks).alloc (.cells #[.int .i64 i1, .int .i64 m1, .int .i64 p1] 33)); clear ks))
                        go_roundw
                        case rel => exact ⟨f + 1, by omega, by go_num, KS.out⟩
                        case measure => simp [intOf]; omega
                      · obtain rfl : f = 8 := by omega
                        go_wp2
                        go_roundw
                        case rel => exact ⟨i + 1, S', by omega, by omega, by go_num, OKF.out, hkf.blk TO.out, hkf.tabR RO.out, KK.out.trans hkf⟩
                        case measure => simp [intOf]; omega
                · have q0 : (dd == 0) = false := by simpa using hd0
                  have q1 : (dd == 1) = false := by simpa using hd1
                  have q2 : (dd == 2) = false := by simpa using hd2
                  have q3 : (dd == 3) = false := by simpa using hd3
                  have q4 : (dd == 4) = false := by simpa using hd4
                  clear hd0 hd1 hd2 hd3 hd4
                  have HSP := hid (opens_any S a xx)
                  have HSR := hid (ropens_any S HOK.out w1.heap.size xx)
                  generalize cntTo S xx 8 = e0 at *
                  have he0 : ((e0 : Int) != (e0 : Int)) = false := by simp
                  go_wp2_with (fail)
                  have T0d := hid (show TabP _ a S from Blk.drew T0.out)
                  have R0d := hid (show TabR _ w1.heap.size S from Blk.drew R0.out)
                  have K0d := hid (Kept.drew K0.out)
                  go_region_held3 (fun w' => w'.cell? ⟨wr.heap.size, 1, none⟩ = some (.int .i64 xx))
                    (first | assumption | simpa using z1)
                    (first
                      | (go_at_call 10; refine (HSP.out _ T0d.out).mono ?_; rintro e wP ⟨rfl, kP⟩; have y1 := kP.keeps (b := wr.heap.size) (o := 1) (s := none) (v := .int .i64 xx) (by assumption))
                      | (go_at_call 22; refine (HSR.out _ (by first | exact R0d.out | exact kP.tabR R0d.out)).mono ?_; rintro e wR ⟨rfl, rfl⟩))
                  all_goals
                    have TF := hid (show TabP wP a S from kP.blk T0d.out)
                    have RF := hid (show TabR wP w1.heap.size S from kP.tabR R0d.out)
                    have KF := hid (K0d.out.trans kP)
                    have OKF := HOK
                    have HL := hid (fun w hS => list_any S a w hS)
                    have HRL := hid (fun w hS => rlist_any S OKF.out w1.heap.size w hS)
                    go_wp2_with (first
                      | (go_at_call 7; refine (HL.out _ TF.out).mono ?_; rintro e wl ⟨vl, rfl, gl, kl⟩; have GL := hid gl; have RL := hid (kl.tabR RF.out); have KL := hid kl; clear gl kl)
                      | (go_at_call 24; refine (HRL.out _ RL.out).mono ?_; rintro e wm ⟨vm, rfl, gm, km⟩; have GM := hid gm; have KM := hid (KL.out.trans km); have GL2 := hid (km.ints GL.out); clear gm km)
                      | (go_at_call 23; refine (same_t vl vm _ _ _ GL2.out GM.out rfl).mono ?_; rintro e wo ⟨rfl, ko⟩; have KO := hid (KM.out.trans ko); clear ko))
                    have hneq := neq_fd
                    have hneg := neq_fd_guard
                    have TO := hid (show TabP wo a S from KO.out.blk TF.out)
                    have RO := hid (show TabR wo w1.heap.size S from KO.out.tabR RF.out)
                    have KK := hid (KF.out.trans KO.out)
                    clear GL GL2 GM HL HRL
                    go_loopw [19] (fun t wp => ∃ f : Nat, f ≤ 8 ∧ t = .int .i64 f ∧ Kept wo wp) (fun t _ => (8 - intOf t).toNat)
                    case atStart => exact ⟨0, by omega, rfl, Kept.refl _⟩
                    case round =>
                      obtain ⟨f, hf8, rfl, hkf⟩ := hrel
                      by_cases hfl : f < 8
                      · obtain ⟨i1, hi1⟩ : ∃ z, gI S f = z := ⟨_, rfl⟩
                        obtain ⟨m1, hm1⟩ : ∃ z, gM S f = z := ⟨_, rfl⟩
                        obtain ⟨p1, hp1⟩ : ∃ z, gP S f = z := ⟨_, rfl⟩
                        obtain ⟨e1, he1⟩ : ∃ z, gE S f = z := ⟨_, rfl⟩
                        have HG := hid (get_eq S f i1 m1 p1 e1 ⟨hi1, hm1, hp1, he1⟩ a)
                        have HRG := hid (rget_eq S OKF.out f i1 m1 p1 e1 ⟨hi1, hm1, hp1, he1⟩ w1.heap.size)
                        clear hi1 hm1 hp1 he1
                        have hee : (e1 != e1) = false := by simp
                        go_wp2_with (first
                          | (go_at_call 9; refine (HG.out _ (show TabP _ a S from hkf.blk TO.out)).mono ?_; rintro e wq ⟨rfl, kq⟩; have KQ := hid ((hkf.trans kq).alloc (.cells #[.int .i64 i1, .int .i64 m1, .int .i64 p1] 33)); clear kq)
                          | (go_at_call 16; refine (HRG.out _ (show TabR _ w1.heap.size S from KQ.out.tabR RO.out)).mono ?_; rintro e ws ⟨rfl, ks⟩; have qk0 := ks.keeps (b := wq.heap.size) (o := 0) (s := none) (v := .int .i64 i1) (by simp [go_sem]); have qk1 := ks.keeps (b := wq.heap.size) (o := 1) (s := none) (v := .int .i64 m1) (by simp [go_sem]); have qk2 := ks.keeps (b := wq.heap.size) (o := 2) (s := none) (v := .int .i64 p1) (by simp [go_sem]); have KS := hid ((KQ.out.trans ks).alloc (.cells #[.int .i64 i1, .int .i64 m1, .int .i64 p1] 33)); clear ks))
                        go_roundw
                        case rel => exact ⟨f + 1, by omega, by go_num, KS.out⟩
                        case measure => simp [intOf]; omega
                      · obtain rfl : f = 8 := by omega
                        go_wp2
                        go_roundw
                        case rel => exact ⟨i + 1, S, by omega, by omega, by go_num, OKF.out, hkf.blk TO.out, hkf.tabR RO.out, KK.out.trans hkf⟩
                        case measure => simp [intOf]; omega
      · obtain rfl : i = 60 := by omega
        go_wp2_with (go_at_call 12; refine (awake_any _).mono ?_; rintro e w9 ⟨rfl, k9⟩)
        go_ret
        exact ⟨rfl, K.out.trans k9⟩
    · obtain rfl : i = n := by omega
      go_wp2_with (go_at_call 12; refine (awake_any _).mono ?_; rintro e w9 ⟨rfl, k9⟩)
      go_ret
      exact ⟨rfl, K.out.trans k9⟩
end Go.Proofs.Ythbnkoaigeffnaa
