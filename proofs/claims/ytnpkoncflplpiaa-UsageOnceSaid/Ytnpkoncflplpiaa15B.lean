/- haymowref15: Same, Count. -/
import Derived.Test.Ytnpkoncflplpiaa15A
namespace Go.Proofs.Ytnpkoncflplpiaa
set_option linter.unusedSimpArgs false
set_option linter.unusedVariables false
open Go.RowKit

set_option maxHeartbeats 1000000 in
theorem usame_t (va vb : Value) (n : Nat) (f g : Nat → Int) (w : World) (hA : Uses w va n f g) (hB : Uses w vb n f g) :
    Calls Try.prog 10 #[va, vb] w fun e w' => e = .returned (.bool true) ∧ Kept w w' := by
  obtain ⟨a, c, rfl⟩ := hA.shape
  obtain ⟨a', c', rfl⟩ := hB.shape
  obtain ⟨hA1, hA2⟩ := hA.len
  have HA := hid hA; have HB := hid hB
  clear hA hB
  have hlen : ((n : Int) != n) = false := by simp
  have hn63 : (n : Int) ≤ 9223372036854775807 := by omega
  clear hA1 hA2
  go_enter Try.func10, Try.ntmps10
  go_wp2
  go_loopw [5] (fun i wr => ∃ k : Nat, k ≤ n ∧ i = .int .i64 k ∧ Kept w wr) (fun i _ => n - (intOf i).toNat)
  case atStart => exact ⟨0, by omega, rfl, Kept.refl _⟩
  case round =>
    obtain ⟨k, hkn, rfl, hkr⟩ := hrel
    by_cases hlt : k < n
    · obtain ⟨b, o, rfl, hc⟩ := HA.out.cells (by omega)
      obtain ⟨b', o', rfl, hc'⟩ := HB.out.cells (by omega)
      obtain ⟨h1, h2⟩ := hc k hlt
      obtain ⟨h3, h4⟩ := hc' k hlt
      have h1 := hkr.keeps h1
      have h2 := hkr.keeps h2
      have h3 := hkr.keeps h3
      have h4 := hkr.keeps h4
      clear hc hc'
      have hi0 : (0 : Int) ≤ (k : Int) := by omega
      have hi1 : (k : Int) < (n : Int) := by omega
      generalize f k = x at *
      generalize g k = y at *
      have hneq : ∀ W : World, (Go.binOp .neq 54 (.agg #[.int .i64 x, .int .i64 y]) (.agg #[.int .i64 x, .int .i64 y])).run Try.prog W = .ok (.bool false) W := fun W => by rw [neq_use]; simp
      have hneg := neq_use_guard
      go_wp2
      go_quiet (fail)
      go_wp2
      go_roundw
      case rel => exact ⟨k + 1, by omega, by go_num, (by repeat (first | exact Kept.refl _ | assumption | refine Kept.alloc ?_ _ | refine Kept.drew ?_ | refine Kept.drewN ?_ _ | refine Kept.setCell ?_ (by simp; try omega) _ | refine Kept.trans ?_ (by assumption)))⟩
      case measure => simp [intOf]; omega
    · obtain rfl : k = n := by omega
      go_wp2
      go_ret
      exact ⟨rfl, (by repeat (first | exact Kept.refl _ | assumption | refine Kept.alloc ?_ _ | refine Kept.drew ?_ | refine Kept.drewN ?_ _ | refine Kept.setCell ?_ (by simp; try omega) _ | refine Kept.trans ?_ (by assumption)))⟩

theorem info_use : (Try.prog.info? 54).map (fun i => (i.zero, i.size, i.bytes)) = some (some (.agg #[.int .i64 0, .int .i64 0]), 2, 16) := by kernel_rfl
/-- a use is appended -/
theorem wpList_pushUse {ops : Array Oper} {rest : List Oper} {o : Oper} {a : Act} {Q : Exit → Act → World → Prop} {W w : World} (hgd : o.guard = none) (s x : Operand)
    (ho : o.op = .call { callee := .builtin .append, args := #[s, x], argTypes := #[26, 26] })
    (v : Value) (n : Nat) (xs : List Value) (i m : Int) (c H : Nat) (hs : a.eval s = v) (hown : w.ownsRow W.heap.size 54 2 v n xs) (hx : a.eval x = .slice (some ⟨H, 0, none⟩) 1 c) (hH : w.heap.size = H)
    (hn : (n + 1) * 16 ≤ 140737488355328) (hk : Kept W w)
    (h : ∀ v' w', w'.ownsRow W.heap.size 54 2 v' (n + 1) (xs ++ [.int .i64 i, .int .i64 m]) → Kept W w' → wpList Try.prog ops Q rest (a.put o.dst v') w') :
    wpList Try.prog ops Q (o :: rest) a (w.alloc (.cells #[.int .i64 i, .int .i64 m] 54)) := by
  subst hH
  refine wpList_push (W := W) (cs := [.int .i64 i, .int .i64 m]) hgd s x 26 ho 54 _ 2 16 Try.underlying26 info_use rfl (by decide) (by decide) v n _ c hs hown hx rfl (by simp [Value.oneCell']) hn hk ?_
  intro v' w' h1 h2
  exact h v' w' h1 h2

set_option maxRecDepth 100000 in
set_option maxHeartbeats 4000000 in
theorem rcnt_any (d l v s : Int) (L T : List Int) (vl vt : Value) (w : World) (hL : Ints w vl L) (hT : Ints w vt T) :
    Calls Try.prog 9 #[.agg #[.int .i64 d, .int .i64 l, .int .i64 v, .int .i64 s], vl, vt] w (CountPost d l v s L T w) := by
  obtain ⟨A, c, rfl⟩ := hL.shape
  obtain ⟨A', c', rfl⟩ := hT.shape
  obtain ⟨-, hL1, hL2⟩ := hL.len
  obtain ⟨-, hT1, hT2⟩ := hT.len
  by_cases hm : mayB d l v s = true
  · by_cases hlen : L.length = T.length
    · obtain ⟨n, hn⟩ : ∃ n, L.length = n := ⟨_, rfl⟩
      have hn2 : T.length = n := by omega
      rw [hn] at hL
      rw [hn2] at hT
      rw [hn, hn2]
      have hn63 : (n : Int) ≤ 9223372036854775807 := by omega
      have HL := hid hL; have HT := hid hT; have HN := hid hn; have HN2 := hid hn2
      have HM := hid hm
      obtain ⟨N, hN⟩ : ∃ N : Nat, segsF d l v s = (N : Int) := ⟨(segsF d l v s).toNat, by have := segsF_bd d l v s; omega⟩
      have hN1 : (N : Int) ≤ 2304 := by have := segsF_bd d l v s; omega
      have HMA := hid (rmay_t d l v s · hm)
      have HCO := hid (rcount_any d l v s · hm)
      rw [hN] at HCO
      have HNS := hid hN
      -- what the error's number is
      have HE1 : Hid (okT T = false → cntE d l v s L T = 1) := fun h => by simp [cntE, hm, hlen, h]
      have HE4 : Hid (okT T = true → okL N L = false → cntE d l v s L T = 4) := fun h h' => by simp [cntE, hm, hlen, h, hN, h']
      have HE7 : Hid (okT T = true → okL N L = true → ¬ L.Nodup → cntE d l v s L T = 7) := fun h h' h2 => by simp [cntE, hm, hlen, h, hN, h', h2]
      have HE0 : Hid (okT T = true → okL N L = true → L.Nodup → cntE d l v s L T = 0) := fun h h' h2 => by simp [cntE, hm, hlen, h, hN, h', h2]
      clear hL hT hn hn2 hlen hm hN hL1 hL2 hT1 hT2
      have hnn : ((n : Int) != (n : Int)) = false := by simp
      go_enter Try.func9, Try.ntmps9
      go_wp2_with (go_at_call 21; refine (HMA.out _).mono ?_; rintro e w1 ⟨rfl, k1⟩; have bk0 := k1.keeps (b := w.heap.size) (o := 0) (s := none) (v := .int .i64 d) (by simp [go_sem]); have bk1 := k1.keeps (b := w.heap.size) (o := 1) (s := none) (v := .int .i64 l) (by simp [go_sem]); have bk2 := k1.keeps (b := w.heap.size) (o := 2) (s := none) (v := .int .i64 v) (by simp [go_sem]); have bk3 := k1.keeps (b := w.heap.size) (o := 3) (s := none) (v := .int .i64 s) (by simp [go_sem]); have K1 := hid (((Kept.refl w).alloc _).trans k1); clear k1)
      go_loop [8] (fun t => ∃ i : Nat, i ≤ n ∧ t = .int .i64 i ∧ ∀ j, j < i → 0 ≤ T.getD j 0 ∧ T.getD j 0 ≤ 2147483647) (fun t => n - (intOf t).toNat)
      case atStart => exact ⟨0, by omega, rfl, fun j hj => by omega⟩
      case round =>
        obtain ⟨i, hi, rfl, hall⟩ := hrel
        have HA := hid hall; clear hall
        by_cases hlt : i < n
        · obtain ⟨b, o, rfl, hcl⟩ := HT.out.cells (by omega)
          have hc := K1.out.keeps (hcl i hlt)
          clear hcl
          obtain ⟨x, hx⟩ : ∃ x, T.getD i 0 = x := ⟨_, rfl⟩
          rw [hx] at hc
          by_cases h0 : x < 0
          · have HB := hid (show okT T = false by
              cases h : okT T with
              | false => rfl
              | true => have := (okT_iff T).1 h i (by rw [HN2.out]; exact hlt); rw [hx] at this; omega)
            clear hx
            go_wp2
            go_ret2
            exact CountPost.err (HE1.out HB.out) (by decide) K1.out
          · by_cases h1 : 2147483647 < x
            · have HB := hid (show okT T = false by
                cases h : okT T with
                | false => rfl
                | true => have := (okT_iff T).1 h i (by rw [HN2.out]; exact hlt); rw [hx] at this; omega)
              clear hx
              go_wp2
              go_ret2
              exact CountPost.err (HE1.out HB.out) (by decide) K1.out
            · have HX := hid hx; clear hx
              go_wp2
              go_round
              case rel => exact ⟨i + 1, by omega, by go_num, fun j hj => by
                by_cases e : j = i
                · subst e; rw [HX.out]; omega
                · exact HA.out j (by omega)⟩
              case measure => simp [intOf]; omega
        · obtain rfl : i = n := by omega
          have HOT := hid (show okT T = true from (okT_iff T).2 (by rw [HN2.out]; exact HA.out))
          go_wp2_with (go_at_call 22; refine (HCO.out _).mono ?_; rintro e w2 ⟨rfl, k2⟩; have K2 := hid (K1.out.trans k2); clear k2)
          go_loop [10] (fun t => ∃ j : Nat, j ≤ i ∧ t = .int .i64 j ∧ ∀ q, q < j → 1 ≤ L.getD q 0 ∧ L.getD q 0 ≤ 16 * (N : Int)) (fun t => i - (intOf t).toNat)
          case atStart => exact ⟨0, by omega, rfl, fun j hj => by omega⟩
          case round =>
            obtain ⟨j, hj, rfl, hall⟩ := hrel
            have HB := hid hall; clear hall
            by_cases hlt2 : j < i
            · obtain ⟨b, o, rfl, hcl⟩ := HL.out.cells (by omega)
              have hc := K2.out.keeps (hcl j hlt2)
              clear hcl
              obtain ⟨x, hx⟩ : ∃ x, L.getD j 0 = x := ⟨_, rfl⟩
              rw [hx] at hc
              by_cases h0 : x < 1
              · have HC := hid (show okL N L = false by
                  cases h : okL N L with
                  | false => rfl
                  | true => have := (okL_iff N L).1 h j (by rw [HN.out]; exact hlt2); rw [hx] at this; omega)
                clear hx
                go_wp2
                go_ret2
                exact CountPost.err (HE4.out HOT.out HC.out) (by decide) K2.out
              · by_cases h1 : 16 * (N : Int) < x
                · have HC := hid (show okL N L = false by
                    cases h : okL N L with
                    | false => rfl
                    | true => have := (okL_iff N L).1 h j (by rw [HN.out]; exact hlt2); rw [hx] at this; omega)
                  clear hx
                  go_wp2
                  go_ret2
                  exact CountPost.err (HE4.out HOT.out HC.out) (by decide) K2.out
                · have HX := hid hx; clear hx
                  go_wp2
                  go_round
                  case rel => exact ⟨j + 1, by omega, by go_num, fun q hq => by
                    by_cases e : q = j
                    · subst e; rw [HX.out]; omega
                    · exact HB.out q (by omega)⟩
                  case measure => simp [intOf]; omega
            · obtain rfl : j = i := by omega
              have HOL := hid (show okL N L = true from (okL_iff N L).2 (by rw [HN.out]; exact HB.out))
              clear HE1 HE4
              go_wp2
              go_loopw [11] (fun t wr => ∃ p : Nat, p ≤ j ∧ t = .int .i64 p ∧ (∀ a b, a < b → b < p → L.getD a 0 ≠ L.getD b 0) ∧ Kept w2 wr) (fun t _ => j - (intOf t).toNat)
              case atStart => exact ⟨0, by omega, rfl, fun a b _ hb => by omega, Kept.refl _⟩
              case round =>
                obtain ⟨p, hp, rfl, hall, hkp⟩ := hrel
                have HP := hid hall; clear hall
                by_cases hlt3 : p < j
                · go_wp2
                  go_loopw [12] (fun t ws => ∃ q : Nat, q ≤ p ∧ t = .int .i64 q ∧ (∀ a, a < q → L.getD a 0 ≠ L.getD p 0) ∧ Kept w2 ws) (fun t _ => p - (intOf t).toNat)
                  case atStart => exact ⟨0, by omega, rfl, fun a ha => by omega, hkp⟩
                  case round =>
                    obtain ⟨q, hq, rfl, hall, hkq⟩ := hrel
                    have HQ := hid hall; clear hall
                    by_cases hlt4 : q < p
                    · obtain ⟨b, o, rfl, hcl⟩ := HL.out.cells (by omega)
                      have hc := hkq.keeps (K2.out.keeps (hcl q (by omega)))
                      have hc' := hkq.keeps (K2.out.keeps (hcl p (by omega)))
                      clear hcl
                      obtain ⟨x, hx⟩ : ∃ x, L.getD q 0 = x := ⟨_, rfl⟩
                      obtain ⟨y, hy⟩ : ∃ y, L.getD p 0 = y := ⟨_, rfl⟩
                      rw [hx] at hc
                      rw [hy] at hc'
                      have HX := hid hx; have HY := hid hy; clear hx hy
                      have hi0 : (0 : Int) ≤ (q : Int) := by omega
                      have hi1 : (q : Int) < (j : Int) := by omega
                      have hi2 : (0 : Int) ≤ (p : Int) := by omega
                      have hi3 : (p : Int) < (j : Int) := by omega
                      by_cases hxy : x = y
                      · have hb : (x == y) = true := by simpa using hxy
                        have HD := hid (show ¬ L.Nodup from fun h => (nodup_iff L).1 h q p hlt4 (by rw [HN.out]; exact hlt3) (by rw [HX.out, HY.out]; exact hxy))
                        clear hxy
                        go_wp2
                        go_quiet (fail)
                        go_wp2
                        go_ret2
                        exact CountPost.err (HE7.out HOT.out HOL.out HD.out) (by decide) (K2.out.trans (hkq.drewN _))
                      · have hb : (x == y) = false := by simpa using hxy
                        have HD := hid hxy
                        clear hxy
                        go_wp2
                        go_quiet (fail)
                        go_wp2
                        go_roundw
                        case rel => exact ⟨q + 1, by omega, by go_num, fun a ha => by
                          by_cases e : a = q
                          · subst e; rw [HX.out, HY.out]; exact HD.out
                          · exact HQ.out a (by omega), hkq.drewN _⟩
                        case measure => simp [intOf]; omega
                    · obtain rfl : q = p := by omega
                      go_wp2
                      go_roundw
                      case rel => exact ⟨q + 1, by omega, by go_num, fun a b hab hb => by
                        by_cases e : b = q
                        · subst e; exact HQ.out a hab
                        · exact HP.out a b hab (by omega), hkq⟩
                      case measure => simp [intOf]; omega
                · obtain rfl : p = j := by omega
                  have HE := hid (HE0.out HOT.out HOL.out ((nodup_iff L).2 (by rw [HN.out]; exact HP.out)))
                  have K3 := hid (K2.out.trans hkp)
                  obtain ⟨wo, rfl⟩ : ∃ wo : World, wo = wr := ⟨_, rfl⟩
                  clear HE7 HE0 HP HB HA hkp
                  go_wp2
                  go_loopw [13, 14] (fun out t wl => ∃ s' : Nat, s' ≤ N ∧ t = .int .i64 s' ∧ wl.ownsRow wo.heap.size 54 2 out s' (useRow (fun k => liveTo L k p) (fun k => tickTo L T k p) s') ∧ Kept wo wl) (fun _ t _ => N - (intOf t).toNat)
                  case atStart => exact ⟨0, by omega, rfl, World.ownsRow_nil _ _ _ _, Kept.refl _⟩
                  case round =>
                    obtain ⟨s', hs', rfl, hown, hkl⟩ := hrel
                    obtain ⟨wl, rfl⟩ : ∃ wl : World, wl = wr := ⟨_, rfl⟩
                    by_cases hsN : s' < N
                    · have hlt0 := liveTo_bd L s'
                      have htk0 := fun i hi => tickTo_bd L T s' ((okT_iff T).1 HOT.out) i (by rw [HN2.out]; exact hi)
                      have HLT := hid hlt0; have HTK := hid htk0; clear hlt0 htk0
                      go_wp2
                      go_loopw [16] (fun t wu => ∃ i : Nat, i ≤ p ∧ t = .int .i64 i ∧ wu.cell? ⟨wl.heap.size, 0, none⟩ = some (.int .i64 (liveTo L s' i)) ∧ wu.cell? ⟨wl.heap.size, 1, none⟩ = some (.int .i64 (tickTo L T s' i)) ∧
                        wu.frozen? ⟨wl.heap.size, 0, none⟩ = false ∧ wu.frozen? ⟨wl.heap.size, 1, none⟩ = false ∧ Kept wl wu) (fun t _ => p - (intOf t).toNat)
                      case atStart => exact ⟨0, by omega, rfl, by simp [go_sem, liveTo], by simp [go_sem, tickTo], by simp [go_sem], by simp [go_sem], (Kept.refl _).alloc _⟩
                      case round =>
                        obtain ⟨i, hi, rfl, u0, u1, g0, g1, hku⟩ := hrel
                        by_cases hip : i < p
                        · obtain ⟨b, o, rfl, hcl⟩ := HL.out.cells (by omega)
                          obtain ⟨b', o', rfl, hct⟩ := HT.out.cells (by omega)
                          have hc := hku.keeps (hkl.keeps (K3.out.keeps (hcl i hip)))
                          have hc' := hku.keeps (hkl.keeps (K3.out.keeps (hct i hip)))
                          have hnb : b' ≠ wl.heap.size := by have := cell_lt (hkl.keeps (K3.out.keeps (hct i hip))); omega
                          have HNB := hid hnb
                          clear hcl hct hnb
                          have hlb := HLT.out i
                          have htb := HTK.out i (by omega)
                          have HSL : Hid (liveTo L s' (i + 1) = if inSeg s' (L.getD i 0) then liveTo L s' i + 1 else liveTo L s' i) := rfl
                          have HST : Hid (tickTo L T s' (i + 1) = if inSeg s' (L.getD i 0) then max (tickTo L T s' i) (T.getD i 0) else tickTo L T s' i) := rfl
                          generalize L.getD i 0 = x at *
                          generalize T.getD i 0 = y at *
                          generalize liveTo L s' i = lv at *
                          generalize tickTo L T s' i = tv at *
                          have hi0 : (0 : Int) ≤ (i : Int) := by omega
                          have hi1 : (i : Int) < (p : Int) := by omega
                          by_cases hin : 16 * (s' : Int) < x
                          · by_cases hin2 : x ≤ 16 * (s' : Int) + 16
                            · have HIN := hid (show inSeg s' x = true by simp [inSeg, hin, hin2])
                              rw [HIN.out] at HSL HST
                              simp only [if_true] at HSL HST
                              by_cases hyt : tv < y
                              · have hdt : decide (tv < y) = true := by simpa using hyt
                                have hmx := hid (show max tv y = y by omega)
                                have hcS : (wr.setCell ⟨wl.heap.size, 0, none⟩ (.int .i64 (lv + 1))).cell? ⟨b', o' + i, none⟩ = some (.int .i64 y) := by rw [World.cell?_of_block (w := wr) (Below.heap_setCell _ _ _ _ HNB.out)]; exact hc'
                                go_wp2
                                go_quiet (fail)
                                go_wp2
                                go_roundw
                                case rel => exact ⟨i + 1, by omega, by go_num, by rw [HSL.out]; simp [go_sem, u0, u1], by rw [HST.out, hmx.out]; simp [go_sem, u0, u1], by simp [go_sem, g0], by simp [go_sem, g1], (by repeat (first | exact Kept.refl _ | assumption | refine Kept.alloc ?_ _ | refine Kept.drew ?_ | refine Kept.drewN ?_ _ | refine Kept.setCell ?_ (by simp; try omega) _ | refine Kept.trans ?_ (by assumption)))⟩
                                case measure => simp [intOf]; omega
                              · have hdt : decide (tv < y) = false := by simpa using hyt
                                have hmx := hid (show max tv y = tv by omega)
                                have hcS : (wr.setCell ⟨wl.heap.size, 0, none⟩ (.int .i64 (lv + 1))).cell? ⟨b', o' + i, none⟩ = some (.int .i64 y) := by rw [World.cell?_of_block (w := wr) (Below.heap_setCell _ _ _ _ HNB.out)]; exact hc'
                                go_wp2
                                go_quiet (fail)
                                go_wp2
                                go_roundw
                                case rel => exact ⟨i + 1, by omega, by go_num, by rw [HSL.out]; simp [go_sem, u0, u1], by rw [HST.out, hmx.out]; simp [go_sem, u0, u1], by simp [go_sem, g0], by simp [go_sem, g1], (by repeat (first | exact Kept.refl _ | assumption | refine Kept.alloc ?_ _ | refine Kept.drew ?_ | refine Kept.drewN ?_ _ | refine Kept.setCell ?_ (by simp; try omega) _ | refine Kept.trans ?_ (by assumption)))⟩
                                case measure => simp [intOf]; omega
                            · have HIN := hid (show inSeg s' x = false by simp [inSeg, hin]; omega)
                              rw [HIN.out] at HSL HST
                              simp only [Bool.false_eq_true, if_false] at HSL HST
                              go_wp2
                              go_roundw
                              case rel => exact ⟨i + 1, by omega, by go_num, by rw [HSL.out]; exact u0, by rw [HST.out]; exact u1, g0, g1, hku⟩
                              case measure => simp [intOf]; omega
                          · have HIN := hid (show inSeg s' x = false by simp [inSeg, hin])
                            rw [HIN.out] at HSL HST
                            simp only [Bool.false_eq_true, if_false] at HSL HST
                            go_wp2
                            go_roundw
                            case rel => exact ⟨i + 1, by omega, by go_num, by rw [HSL.out]; exact u0, by rw [HST.out]; exact u1, g0, g1, hku⟩
                            case measure => simp [intOf]; omega
                        · obtain rfl : i = p := by omega
                          have hown2 := hku.row hown
                          have hk2 := hkl.trans hku
                          generalize hlf : liveTo L s' i = lv at *
                          generalize htf : tickTo L T s' i = tv at *
                          have HLF := hid hlf; have HTF := hid htf
                          clear hlf htf hown
                          go_wp2_with (at_builtin; refine wpList_pushUse (W := wo) rfl (.tmp 132) (.tmp 134) rfl _ s' (useRow (fun k => liveTo L k i) (fun k => tickTo L T k i) s') lv tv _ _ rfl hown2 rfl (by simp) (by omega) hk2 ?_; intro v4 w4 hown4 hk4)
                          go_roundw
                          case rel => exact ⟨s' + 1, by omega, by go_num, by rw [useRow, HLF.out, HTF.out]; exact hown4, hk4⟩
                          case measure => simp [intOf]; omega
                    · obtain rfl : s' = N := by omega
                      go_wp2
                      go_ret2
                      unfold CountPost
                      rw [HE.out]
                      refine ⟨_, rfl, .inl ⟨rfl, ?_⟩, K3.out.trans hkl⟩
                      rw [HNS.out, HN.out, Int.toNat_natCast]
                      exact uses_own hown
    · have hne : ((L.length : Int) != (T.length : Int)) = true := by rw [bne_iff_ne]; omega
      have HE := hid (show cntE d l v s L T = 1 by simp [cntE, hlen])
      have HMA := hid (rmay_t d l v s · hm)
      clear hL hT hlen hm
      generalize L.length = n at *
      generalize T.length = m at *
      go_enter Try.func9, Try.ntmps9
      go_wp2_with (go_at_call 21; refine (HMA.out _).mono ?_; rintro e w1 ⟨rfl, k1⟩)
      go_ret2
      exact CountPost.err HE.out (by decide) (by repeat (first | exact Kept.refl _ | assumption | refine Kept.alloc ?_ _ | refine Kept.drew ?_ | refine Kept.drewN ?_ _ | refine Kept.setCell ?_ (by simp; try omega) _ | refine Kept.trans ?_ (by assumption)))
  · have hm' : mayB d l v s = false := by simpa using hm
    have HE := hid (show cntE d l v s L T = 1 by simp [cntE, hm'])
    have HMA := hid (rmay_f d l v s · hm')
    clear hL hT hm hm'
    generalize L.length = n at *
    generalize T.length = m at *
    go_enter Try.func9, Try.ntmps9
    go_wp2_with (go_at_call 21; refine (HMA.out _).mono ?_; rintro e w1 ⟨rfl, k1⟩)
    go_ret2
    exact CountPost.err HE.out (by decide) (by repeat (first | exact Kept.refl _ | assumption | refine Kept.alloc ?_ _ | refine Kept.drew ?_ | refine Kept.drewN ?_ _ | refine Kept.setCell ?_ (by simp; try omega) _ | refine Kept.trans ?_ (by assumption)))
end Go.Proofs.Ytnpkoncflplpiaa
