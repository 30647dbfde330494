/- TableLeast: the walk. -/
import Derived.Test.Ythbnkoaigeffnaa20H
import Derived.Deep.QuietTactic
import Derived.BigQuiet
namespace Go.Proofs.Ythbnkoaigeffnaa
set_option linter.unusedSimpArgs false
set_option linter.unusedVariables false
open Go.RowKit

theorem list_full (S : Tb) (L : List Int) (l : Nat) (hL : upsTo S 8 = L ∧ L.length = l) (a : Nat) (w : World) (hS : TabP w a S) :
    Calls Try.prog 7 #[.pointer (some ⟨a, 0, none⟩)] w fun e w' => ∃ A cp, e = .returned (.slice A l cp) ∧ Ints w' (.slice A l cp) L ∧ Kept w w' := by
  refine (list_any S a w hS).mono fun e w' ⟨v, he, hi, hk⟩ => ?_
  rw [hL.1] at hi
  obtain ⟨A, cp, rfl⟩ := hi.shape
  rw [hL.2] at he hi
  exact ⟨A, cp, he, hi, hk⟩
theorem okO_new (N : Int) (h1 : 1 ≤ N) (h2 : N ≤ 39) : okO N 1 = true := by simp [okO, modeB, h1, h2]
theorem open_new (S : Tb) (q : Nat) (hq : lst S = q) (h8 : q < 8) (N : Int) (h1 : 1 ≤ N) (h2 : N ≤ 39) (a : Nat) (w : World) (hS : TabP w a S) :
    Calls Try.prog 11 #[.pointer (some ⟨a, 0, none⟩), .int .i64 N, .int .i64 1] w fun e w' => e = .returned (.tuple #[.int .i64 q, .int .i64 0]) ∧ TabP w' a (upd S q (.file N 1 0)) ∧ But a w w' := by
  have := open_any S a N 1 w hS
  unfold oF oE oS at this
  simp only [okO_new N h1 h2, hq, h8, and_self, if_true] at this
  exact this
theorem open_none (S : Tb) (hq : lst S = 8) (N : Int) (h1 : 1 ≤ N) (h2 : N ≤ 39) (a : Nat) (w : World) (hS : TabP w a S) :
    Calls Try.prog 11 #[.pointer (some ⟨a, 0, none⟩), .int .i64 N, .int .i64 1] w fun e w' => e = .returned (.tuple #[.int .i64 0, .int .i64 8]) ∧ TabP w' a S ∧ But a w w' := by
  have := open_any S a N 1 w hS
  unfold oF oE oS at this
  simp only [okO_new N h1 h2, hq] at this
  exact this
theorem info_fd : (Try.prog.info? 33).map (fun i => (i.zero, i.size, i.bytes)) = some (some (.agg #[.int .i64 0, .int .i64 0, .int .i64 0]), 3, 24) := by kernel_rfl
/-- what was told of one descriptor is appended -/
theorem wpList_pushFd {ops : Array Oper} {rest : List Oper} {o : Oper} {a : Act} {Q : Exit → Act → World → Prop} {W w : World} (hgd : o.guard = none) (s x : Operand)
    (ho : o.op = .call { callee := .builtin .append, args := #[s, x], argTypes := #[31, 31] })
    (v : Value) (n : Nat) (xs : List Value) (i m p : Int) (c H : Nat) (hs : a.eval s = v) (hown : w.ownsRow W.heap.size 33 3 v n xs) (hx : a.eval x = .slice (some ⟨H, 0, none⟩) 1 c) (hH : w.heap.size = H)
    (hn : (n + 1) * 24 ≤ 140737488355328) (hk : Kept W w)
    (h : ∀ v' w', w'.ownsRow W.heap.size 33 3 v' (n + 1) (xs ++ [.int .i64 i, .int .i64 m, .int .i64 p]) → Kept W w' → wpList Try.prog ops Q rest (a.put o.dst v') w') :
    wpList Try.prog ops Q (o :: rest) a (w.alloc (.cells #[.int .i64 i, .int .i64 m, .int .i64 p] 33)) := by
  subst hH
  refine wpList_push (W := W) (cs := [.int .i64 i, .int .i64 m, .int .i64 p]) hgd s x 31 ho 33 _ 3 24 Try.underlying31 info_fd rfl (by decide) (by decide) v n _ c hs hown hx rfl (by simp [Value.oneCell']) hn hk ?_
  intro v' w' h1 h2
  exact h v' w' h1 h2
theorem get_told (S : Tb) (j : Nat) (i m p : Int) (hj : j < 8) (hu : (S j).up = true) (h : (S j).ino = i ∧ (S j).mode = m ∧ (S j).pos = p) (a : Nat) (w : World) (hS : TabP w a S) :
    Calls Try.prog 9 #[.pointer (some ⟨a, 0, none⟩), .int .i64 j] w fun e w' => e = .returned (.tuple #[.agg #[.int .i64 i, .int .i64 m, .int .i64 p], .int .i64 0]) ∧ Kept w w' := by
  have := get_yes S a j (by omega) hu w hS
  rwa [h.1, h.2.1, h.2.2] at this

set_option maxRecDepth 100000 in
set_option maxHeartbeats 4000000 in
theorem least_walk (A : Option Addr) (n c : Nat) (d x m : Nat → Int) (u : Int) (hu : 0 ≤ u ∧ u ≤ 255) (w : World) (hA : Acts w A n c d x m) :
    Calls Try.prog 3 #[.slice A n c, .int .u8 u] w fun e w' => e = .returned (.bool true) ∧ Kept w w' := by
  obtain ⟨hnc, hc63, hcells⟩ := hA
  have HCL := hid hcells; clear hcells
  have hn63 : (n : Int) ≤ 9223372036854775807 := by omega
  clear hnc hc63
  obtain ⟨hu0, hu1⟩ := hu
  obtain ⟨N0, hN0⟩ : ∃ N0, u % 39 = N0 := ⟨_, rfl⟩
  have hN1 : 0 ≤ N0 := by omega
  have hN2 : N0 ≤ 38 := by omega
  go_enter Try.func3, Try.ntmps3
  go_wp2_with (go_at_call 6; refine (new_any _).mono ?_; rintro e w1 ⟨a, rfl, ha, hb, k1⟩; have T1 := hid (show TabP w1 a S0 from hb); have K1 := hid k1; have HAA := hid ha; clear hb k1 ha)
  go_loopw [6] (fun t wr => ∃ (i : Nat) (S : Tb), i ≤ n ∧ i ≤ 40 ∧ t = .int .i64 i ∧ Ok S ∧ TabP wr a S ∧ Kept w wr) (fun t _ => (40 - intOf t).toNat)
  case atStart => exact ⟨0, S0, by omega, by omega, rfl, ok0, T1.out, K1.out⟩
  case round =>
    obtain ⟨i, S, hin, hi40, rfl, hok, hT, hkr⟩ := hrel
    have T := hid hT; have K := hid hkr; have HOK := hid hok
    clear hT hkr hok
    by_cases hlt : i < n
    · by_cases h40 : i < 40
      · obtain ⟨b, o, rfl, hcl⟩ := HCL.out (by omega)
        obtain ⟨hc0, hc1, hc2⟩ := hcl i hlt
        have hc0 := K.out.keeps hc0
        have hc1 := K.out.keeps hc1
        have hc2 := K.out.keeps hc2
        clear hcl
        generalize d i = dd at *
        generalize x i = xx at *
        generalize m i = mm at *
        obtain ⟨L, hL⟩ : ∃ L, upsTo S 8 = L := ⟨_, rfl⟩
        obtain ⟨l, hl⟩ : ∃ l, L.length = l := ⟨_, rfl⟩
        have HL := hid (list_full S L l ⟨hL, hl⟩ a)
        have HLL := hid (And.intro hL hl)
        have hl8 : l ≤ 8 := by rw [← hl, ← hL]; exact ups_len S 8
        by_cases h2 : dd.tmod 2 = 0
        · clear hL hl
          have HC := hid (close_any S a xx)
          have HCK := hid (HOK.out.cl xx)
          go_wp2_with (first
            | (go_at_call 7; refine (HL.out _ (show TabP _ a S from Blk.alloc T.out _)).mono ?_; rintro e w2 ⟨A2, cp2, rfl, g2, k2⟩; have bk0 := k2.keeps (b := wr.heap.size) (o := 0) (s := none) (v := .int .i64 dd) (by simp [go_sem]); have bk1 := k2.keeps (b := wr.heap.size) (o := 1) (s := none) (v := .int .i64 xx) (by simp [go_sem]); have bk2 := k2.keeps (b := wr.heap.size) (o := 2) (s := none) (v := .int .i64 mm) (by simp [go_sem]); have T2 := hid (show TabP w2 a S from k2.blk (Blk.alloc T.out _)); have K2 := hid ((K.out.alloc _).trans k2); clear k2 g2)
            | (go_at_call 8; refine (HC.out _ T2.out).mono ?_; rintro e w3 ⟨rfl, hb, k⟩; have T3 := hid hb; have K3 := hid (K2.out.turned k HAA.out); clear hb k))
          go_roundw
          case rel => exact ⟨i + 1, _, by omega, by omega, by go_num, HCK.out, T3.out, K3.out⟩
          case measure => simp [intOf]; omega
        · have e2 : (dd.tmod 2 == 0) = false := by simpa using h2
          have HU1 := hid (ups_lst S)
          have HU2 := hid (ups_at S)
          rw [hL, hl] at HU1
          rw [hL, hl] at HU2
          obtain ⟨q, hq⟩ : ∃ q, lst S = q := ⟨_, rfl⟩
          have hq8 : q ≤ 8 := by rw [← hq]; rcases lst_spec S with ⟨h1, -⟩ | ⟨h1, -⟩ <;> omega
          rw [hq] at HU1
          have HQ := hid hq
          have HOP := hid (opens_any S a (1 + N0))
          have hop8 := cnt_le S (1 + N0) 8
          obtain ⟨c0, hc0'⟩ : ∃ c0, cntTo S (1 + N0) 8 = c0 := ⟨_, rfl⟩
          rw [hc0'] at HOP hop8
          have HC0 := hid hc0'
          clear hL hl h2 hq hc0'
          go_wp2_with (go_at_call 7; refine (HL.out _ (show TabP _ a S from Blk.alloc T.out _)).mono ?_; rintro e w2 ⟨A2, cp2, rfl, g2, k2⟩; have bk0 := k2.keeps (b := wr.heap.size) (o := 0) (s := none) (v := .int .i64 dd) (by simp [go_sem]); have bk1 := k2.keeps (b := wr.heap.size) (o := 1) (s := none) (v := .int .i64 xx) (by simp [go_sem]); have bk2 := k2.keeps (b := wr.heap.size) (o := 2) (s := none) (v := .int .i64 mm) (by simp [go_sem]); have T2 := hid (show TabP w2 a S from k2.blk (Blk.alloc T.out _)); have K2 := hid ((K.out.alloc _).trans k2); have G2 := hid g2; clear k2 g2)
          go_loopw [9, 10] (fun hv t wl => ∃ k : Nat, k ≤ l ∧ t = .int .i64 k ∧ wl.ownsRow w2.heap.size 33 3 hv k (told3 S (L.take k)) ∧ Kept w2 wl) (fun _ t _ => (l - intOf t).toNat)
          case atStart => exact ⟨0, by omega, rfl, by simp [told3, World.ownsRow_nil], Kept.refl _⟩
          case round =>
            obtain ⟨k, hkl, rfl, hown, hkw⟩ := hrel
            by_cases hk : k < l
            · obtain ⟨b2, o2, rfl, hcl⟩ := G2.out.cells (by omega)
              have hck := hkw.keeps (hcl k hk)
              clear hcl
              obtain ⟨j, hj8, hju, hjL⟩ := HU2.out k hk
              rw [hjL] at hck
              obtain ⟨i1, hi1⟩ : ∃ z, (S j).ino = z := ⟨_, rfl⟩
              obtain ⟨m1, hm1⟩ : ∃ z, (S j).mode = z := ⟨_, rfl⟩
              obtain ⟨p1, hp1⟩ : ∃ z, (S j).pos = z := ⟨_, rfl⟩
              have HG := hid (get_told S j i1 m1 p1 hj8 hju ⟨hi1, hm1, hp1⟩ a)
              have HT3 : Hid (told3 S (L.take (k + 1)) = told3 S (L.take k) ++ [.int .i64 i1, .int .i64 m1, .int .i64 p1]) := by
                rw [Hid, show L.take (k + 1) = L.take k ++ [L.getD k 0] by
                  rw [List.take_add_one, List.getElem?_eq_getElem (by rw [HLL.out.2]; exact hk)]; simp [List.getD_eq_getElem?_getD, List.getElem?_eq_getElem (show k < L.length by rw [HLL.out.2]; exact hk)], told3_snoc, hjL, cells3, Int.toNat_natCast, hi1, hm1, hp1]
              clear hi1 hm1 hp1 hjL hju
              have T3 := hid (show TabP _ a S from hkw.blk T2.out)
              go_wp2_with (first
                | (go_at_call 9; refine (HG.out _ T3.out).mono ?_; rintro e w3 ⟨rfl, k3⟩; have hown3 := (k3.row hown).alloc (.cells #[.int .i64 i1, .int .i64 m1, .int .i64 p1] 33); clear hown)
                | (at_builtin; refine wpList_pushFd (W := w2) rfl (.tmp 64) (.tmp 66) rfl _ k (told3 S (L.take k)) i1 m1 p1 _ _ rfl hown3 rfl (by simp) (by omega) (by repeat (first | exact Kept.refl _ | assumption | refine Kept.alloc ?_ _ | refine Kept.drew ?_ | refine Kept.drewN ?_ _ | refine Kept.setCell ?_ (by simp; try omega) _ | refine Kept.trans ?_ (by assumption))) ?_; intro v4 w4 hown4 hk4))
              go_roundw
              case rel => exact ⟨k + 1, by omega, by go_num, by rw [HT3.out]; exact hown4, hk4⟩
              case measure => simp [intOf]; omega
            · obtain rfl : k = l := by omega
              rw [List.take_of_length_le (by rw [HLL.out.2]; omega)] at hown
              obtain ⟨Ah, ch, rfl⟩ := ownsRow_shape hown
              have HOWN := hid hown; have KW := hid hkw
              clear hown hkw
              have HG2 := hid (KW.out.ints G2.out)
              have T5 := hid (show TabP _ a S from KW.out.blk T2.out)
              have K5 := hid (K2.out.trans KW.out)
              have hql : q ≤ k := HU1.out.1
              go_wp2
              go_loop [13, 14] (fun p t => ∃ y : Nat, y ≤ q ∧ t = .int .i64 y ∧ p = .int .i64 y) (fun _ t => (q + 1 - intOf t).toNat)
              case atStart => exact ⟨0, by omega, rfl, rfl⟩
              case round =>
                obtain ⟨y, hyq, rfl, rfl⟩ := hrel
                by_cases hy : y < q
                · obtain ⟨b2, o2, rfl, hcl⟩ := HG2.out.cells (by omega)
                  have hcy := hcl y (by omega)
                  rw [HU1.out.2.1 y hy] at hcy
                  clear hcl
                  have hyk : y < k := by omega
                  go_wp2
                  go_round
                  case rel => exact ⟨y + 1, by omega, by go_num, by go_num⟩
                  case measure => simp [intOf]; omega
                · obtain rfl : y = q := by omega
                  by_cases hyk : y < k
                  all_goals
                    first
                      | (obtain ⟨b2, o2, rfl, hcl⟩ := HG2.out.cells (by omega); have hcy := hcl y (by omega); have hne := HU1.out.2.2 hyk; generalize L.getD y 0 = z at hcy hne; have hne2 : (z == (y : Int)) = false := (by simpa using hne); clear hcl hne)
                      | (have hnyk : ¬ y < k := hyk; clear hyk)
                    go_wp2_with (go_at_call 10; refine (HOP.out _ T5.out).mono ?_; rintro e w6 ⟨rfl, k6⟩; have T6 := hid (show TabP _ a S from k6.blk T5.out); have K6 := hid (K5.out.trans k6); have HG6 := hid (k6.ints HG2.out); have HOW6 := hid (k6.row HOWN.out); clear k6)
                    by_cases hy8 : y = 8
                  all_goals
                    first
                      | (subst hy8
                         have HN := hid (open_none S HQ.out (1 + N0) (by omega) (by omega) a)
                         go_wp2_with (go_at_call 11; refine (HN.out _ T6.out).mono ?_; rintro e w7 ⟨rfl, hb, kb⟩; have T7 := hid hb; have K7 := hid (K6.out.turned kb HAA.out); clear hb kb)
                         go_roundw
                         case rel => exact ⟨i + 1, S, by omega, by omega, by go_num, HOK.out, T7.out, K7.out⟩
                         case measure => simp [intOf]; omega)
                      | (have hy8b : ((y : Int) == 8) = false := (by simp; omega)
                         have HN := hid (open_new S y HQ.out (by omega) (1 + N0) (by omega) (by omega) a)
                         obtain ⟨S1, hS1⟩ : ∃ S1, upd S y (.file (1 + N0) 1 0) = S1 := ⟨_, rfl⟩
                         have hyn : (S y).up = false := (by have := HQ.out; rcases lst_spec S with ⟨h1, h2, h3⟩ | ⟨h1, h2⟩; rw [this] at h2; exact h2; omega)
                         have HOK1 : Hid (Ok S1) := (by rw [Hid, ← hS1]; exact HOK.out.upd y ⟨by omega, by omega, .inl rfl, by omega⟩)
                         have HC1 : Hid (cntTo S1 (1 + N0) 8 = c0 + 1) := (by rw [Hid, ← hS1, cnt_upd_new S y (1 + N0) 1 0 8 (by omega) hyn, HC0.out])
                         have HL1 : Hid ((upsTo S1 8).length = k + 1) := (by have := ups_upd_len S y (.file (1 + N0) 1 0) 8 (by omega); rw [Hid, ← hS1]; rw [hyn, HLL.out.1, HLL.out.2] at this; simp [Sl.up] at this; omega)
                         have HSA : Hid (∀ j, (S j).up = true → S1 j = S j) := (by intro j hj; rw [← hS1]; unfold upd; rw [if_neg]; rintro rfl; rw [hyn] at hj; cases hj)
                         rw [hS1] at HN
                         clear hS1 hyn hy8
                         have HOP1 := hid (opens_any S1 a (1 + N0))
                         rw [HC1.out] at HOP1
                         have HLI := hid (list_len S1 (k + 1) HL1.out)
                         go_wp2_with (go_at_call 11; refine (HN.out _ T6.out).mono ?_; rintro e w7 ⟨rfl, hb, kb⟩; have T7 := hid hb; have K7 := hid (K6.out.turned kb HAA.out); have HG7 := hid (kb.ints T6.out HG6.out); have HOW7 := hid (kb.row HOW6.out T2.out.lt); clear hb kb)
                         go_wp2_with (first
                           | (go_at_call 10; refine (HOP1.out _ T7.out).mono ?_; rintro e w8 ⟨rfl, k8⟩; have T8 := hid (show TabP w8 a S1 from k8.blk T7.out); have K8 := hid (K7.out.trans k8); have HG8 := hid (k8.ints HG7.out); have HOW8 := hid (k8.row HOW7.out); clear k8)
                           | (go_at_call 7; refine (HLI.out _ _ T8.out).mono ?_; rintro e w9 ⟨A9, cp9, rfl, k9⟩; have T9 := hid (show TabP w9 a S1 from k9.blk T8.out); have K9 := hid (K8.out.trans k9); have HG9 := hid (k9.ints HG8.out); have HOW9 := hid (k9.row HOW8.out); clear k9))
                         have hneq := neq_fd
                         have hneg := neq_fd_guard
                         go_loopw [19] (fun t wl => ∃ v : Nat, v ≤ k ∧ t = .int .i64 v ∧ Kept w9 wl) (fun t _ => (k - intOf t).toNat)
                         case atStart => exact ⟨0, by omega, rfl, Kept.refl _⟩
                         case round =>
                           obtain ⟨v, hvk, rfl, hkv⟩ := hrel
                           by_cases hv : v < k
                           · obtain ⟨b2, o2, hA2, hcl⟩ := HG9.out.cells (by omega)
                             first | subst hA2 | (cases hA2)
                             have hcv := hkv.keeps (hcl v hv)
                             clear hcl
                             obtain ⟨j, hj8, hju, hjL⟩ := HU2.out v hv
                             rw [hjL] at hcv
                             obtain ⟨gh, cph, hgv, hgb, hgl⟩ := HOW9.out.form (by omega)
                             simp only [Value.slice.injEq, true_and] at hgv
                             obtain ⟨rfl, rfl⟩ := hgv
                             obtain ⟨i1, hi1⟩ : ∃ z, (S j).ino = z := ⟨_, rfl⟩
                             obtain ⟨m1, hm1⟩ : ∃ z, (S j).mode = z := ⟨_, rfl⟩
                             obtain ⟨p1, hp1⟩ : ∃ z, (S j).pos = z := ⟨_, rfl⟩
                             have hh0 := HOW9.out.cellAt (v * 3 + 0) (by omega)
                             have hh1 := HOW9.out.cellAt (v * 3 + 1) (by omega)
                             have hh2 := HOW9.out.cellAt (v * 3 + 2) (by omega)
                             rw [told3_at S L v 0 (by rw [HLL.out.2]; exact hv) (by omega), hjL] at hh0
                             rw [told3_at S L v 1 (by rw [HLL.out.2]; exact hv) (by omega), hjL] at hh1
                             rw [told3_at S L v 2 (by rw [HLL.out.2]; exact hv) (by omega), hjL] at hh2
                             simp only [cells3, Int.toNat_natCast, hi1, hm1, hp1, Nat.add_zero] at hh0 hh1 hh2
                             have hh0 := hkv.keeps hh0
                             have hh1 := hkv.keeps hh1
                             have hh2 := hkv.keeps hh2
                             have HG := hid (get_told S1 j i1 m1 p1 hj8 (by rw [HSA.out j hju]; exact hju) (by rw [HSA.out j hju]; exact ⟨hi1, hm1, hp1⟩) a)
                             clear hi1 hm1 hp1 hjL hju
                             have T10 := hid (show TabP _ a S1 from hkv.blk T9.out)
                             go_wp2_with (go_at_call 9; refine (HG.out _ T10.out).mono ?_; rintro e w11 ⟨rfl, k11⟩; have hh0 := k11.keeps hh0; have hh1 := k11.keeps hh1; have hh2 := k11.keeps hh2; have K11 := hid (hkv.trans k11); clear k11)
                             go_quiet (fail)
                             go_wp2
                             go_roundw
                             case rel => exact ⟨v + 1, by omega, by go_num, (K11.out.alloc _).drewN _⟩
                             case measure => simp [intOf]; omega
                           · obtain rfl : v = k := by omega
                             go_wp2
                             go_roundw
                             case rel => exact ⟨i + 1, S1, by omega, by omega, by go_num, HOK1.out, hkv.blk T9.out, K9.out.trans hkv⟩
                             case measure => simp [intOf]; omega)
      · obtain rfl : i = 40 := by omega
        go_wp2_with (go_at_call 12; refine (awake_any _).mono ?_; rintro e w9 ⟨rfl, k9⟩)
        go_ret
        exact ⟨rfl, K.out.trans k9⟩
    · obtain rfl : i = n := by omega
      go_wp2_with (go_at_call 12; refine (awake_any _).mono ?_; rintro e w9 ⟨rfl, k9⟩)
      go_ret
      exact ⟨rfl, K.out.trans k9⟩
end Go.Proofs.Ythbnkoaigeffnaa
