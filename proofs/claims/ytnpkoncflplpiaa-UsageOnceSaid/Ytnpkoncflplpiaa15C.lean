/- usage.Count. -/
import Derived.Test.Ytnpkoncflplpiaa15B
import Derived.Test.YtnpkoncflplpiaaIntSet
import Derived.RegionTactic
namespace Go.Proofs.Ytnpkoncflplpiaa
set_option linter.unusedSimpArgs false
set_option linter.unusedVariables false
open Go.RowKit

theorem make_uses (N : Nat) (hN : (N : Int) ≤ 2304) (w : World) : (Instr.makeSlice 26 (.int .i64 (N : Int)) (.int .i64 (N : Int))).run Try.prog w =
    .ok (.slice (some ⟨w.heap.size, 0, none⟩) N N) (w.alloc (.cells (madeCells #[.int .i64 0, .int .i64 0] (N * 2)) 54)) := by
  obtain ⟨i, hi, hz, hsize, hbytes⟩ := info_parts info_use
  have := run_makeSlice (P := Try.prog) w 26 54 i _ Try.underlying26 hi hz .i64 .i64 (N : Int) (N : Int) (by omega) (by omega) (by rw [hsize]; simp; omega) (by rw [hbytes]; omega) (by omega)
  rw [this, hsize]
  simp [Value.cells]
theorem blk_uses (w : World) (N : Nat) (t : TypeId) : Blk (w.alloc (.cells (madeCells #[.int .i64 0, .int .i64 0] (N * 2)) t)) w.heap.size (N * 2) (fun _ => .int .i64 0) :=
  ⟨_, t, heap_alloc_new w _, size_madeCells _ _, fun j hj => madeCells_at _ _ _ _ (fun i hi => by
    match i, hi with
    | 0, _ => rfl
    | 1, _ => rfl) (by decide) hj⟩
/-- the uses as they stand behind k of the numbers -/
def useV (L T : List Int) (k j : Nat) : Value := if j % 2 = 0 then .int .i64 (liveTo L ((j / 2 : Nat) : Int) k) else .int .i64 (tickTo L T ((j / 2 : Nat) : Int) k)
theorem useV_zero (L T : List Int) (j : Nat) : useV L T 0 j = .int .i64 0 := by unfold useV; split <;> rfl
theorem useV_step (L T : List Int) (k q : Nat) (hq : (q : Int) = (L.getD k 0 - 1) / 16) (j : Nat) :
    (if j = q * 2 + 1 then Value.int .i64 (max (tickTo L T q k) (T.getD k 0)) else if j = q * 2 then .int .i64 (liveTo L q k + 1) else useV L T k j) = useV L T (k + 1) j := by
  unfold useV
  have hin : ∀ s : Nat, inSeg s (L.getD k 0) = decide (s = q) := by
    intro s
    rw [Bool.eq_iff_iff]
    simp only [inSeg, Bool.and_eq_true, decide_eq_true_eq]
    omega
  by_cases h1 : j = q * 2 + 1
  · rw [if_pos h1, if_neg (by omega), show j / 2 = q by omega, tickTo, hin, if_pos (by simp)]
  · rw [if_neg h1]
    by_cases h0 : j = q * 2
    · rw [if_pos h0, if_pos (by omega), show j / 2 = q by omega, liveTo, hin, if_pos (by simp)]
    · rw [if_neg h0, liveTo, tickTo, hin, decide_eq_false (show ¬ j / 2 = q by omega)]
      rfl
theorem uses_blk {w : World} {U N : Nat} {L T : List Int} {k : Nat} (h : Blk w U (N * 2) (useV L T k)) (hN : (N : Int) ≤ 2304) : Uses w (.slice (some ⟨U, 0, none⟩) N N) N (fun s => liveTo L s k) (fun s => tickTo L T s k) := by
  refine ⟨_, N, rfl, Nat.le_refl _, by omega, fun h0 => ⟨U, 0, rfl, fun i hi => ?_⟩⟩
  have h1 := h.cell (i * 2) (by omega)
  have h2 := h.cell (i * 2 + 1) (by omega)
  rw [useV, if_pos (by omega), show i * 2 / 2 = i by omega] at h1
  rw [useV, if_neg (by omega), show (i * 2 + 1) / 2 = i by omega] at h2
  refine ⟨by rw [Nat.zero_add]; exact h1, by rw [Nat.zero_add]; exact h2⟩
theorem tier_neg (d l v s a : Int) (hm : mayB d l v s = true) : (tierF d l v s a < 0 ↔ ¬ (1 ≤ a ∧ a ≤ 16 * segsF d l v s)) := by
  unfold tierF
  rw [hm]
  by_cases h : 1 ≤ a ∧ a ≤ segsF d l v s * 16
  · simp [h]
    constructor
    · intro hh; split at hh
      · omega
      · split at hh <;> omega
    · intro hh; omega
  · simp [h]
    omega
theorem segment_at (d l v s a x : Int) (hm : mayB d l v s = true) (h : 1 ≤ a ∧ a ≤ 16 * segsF d l v s) (hx : (a - 1) / 16 = x) (w : World) :
    Calls Try.prog 20 #[.agg #[.int .i64 d, .int .i64 l, .int .i64 v, .int .i64 s], .int .i64 a] w fun e w' => e = .returned (.tuple #[.int .i64 x, .int .i64 0]) ∧ Kept w w' := by
  have := segment_any d l v s a w
  rw [show segN d l v s a = x by rw [← hx]; simp [segN, hm]; omega, show segE d l v s a = 0 by simp [segE, hm]; omega] at this
  exact this
theorem tier_sign (d l v s a : Int) (w : World) : Calls Try.prog 18 #[.agg #[.int .i64 d, .int .i64 l, .int .i64 v, .int .i64 s], .int .i64 a] w fun e w' => ∃ t, t = tierF d l v s a ∧ e = .returned (.int .i64 t) ∧ Kept w w' :=
  (tier_any d l v s a w).mono fun _ _ ⟨he, hk⟩ => ⟨_, rfl, he, hk⟩

set_option maxRecDepth 100000 in
set_option maxHeartbeats 4000000 in
theorem cntp_any (d l v s : Int) (L T : List Int) (vl vt : Value) (w : World) (hL : Ints w vl L) (hT : Ints w vt T) :
    Calls Try.prog 8 #[.agg #[.int .i64 d, .int .i64 l, .int .i64 v, .int .i64 s], vl, vt] w (CountPost d l v s L T w) := by
  obtain ⟨A, c, rfl⟩ := hL.shape
  obtain ⟨A', c', rfl⟩ := hT.shape
  obtain ⟨-, hL1, hL2⟩ := hL.len
  obtain ⟨-, hT1, hT2⟩ := hT.len
  by_cases hm : mayB d l v s = true
  · by_cases hlen : L.length = T.length
    · obtain ⟨n, hn⟩ : ∃ n, L.length = n := ⟨_, rfl⟩
      have hn2 : T.length = n := by omega
      rw [hn] at hL
      rw [hn2] at hT
      rw [hn, hn2]
      have hn63 : (n : Int) ≤ 9223372036854775807 := by omega
      have HL := hid hL; have HT := hid hT; have HN := hid hn; have HN2 := hid hn2
      have HM := hid hm
      obtain ⟨N, hN⟩ : ∃ N : Nat, segsF d l v s = (N : Int) := ⟨(segsF d l v s).toNat, by have := segsF_bd d l v s; omega⟩
      have hN1 : (N : Int) ≤ 2304 := by have := segsF_bd d l v s; omega
      have HMA := hid (may_t d l v s · hm)
      have HSG := hid (segs_any d l v s)
      rw [hN] at HSG
      have HNS := hid hN
      have HE1 : Hid (okT T = false → cntE d l v s L T = 1) := fun h => by simp [cntE, hm, hlen, h]
      have HE4 : Hid (okT T = true → okL N L = false → cntE d l v s L T = 4) := fun h h' => by simp [cntE, hm, hlen, h, hN, h']
      have HE7 : Hid (okT T = true → okL N L = true → ¬ L.Nodup → cntE d l v s L T = 7) := fun h h' h2 => by simp [cntE, hm, hlen, h, hN, h', h2]
      have HE0 : Hid (okT T = true → okL N L = true → L.Nodup → cntE d l v s L T = 0) := fun h h' h2 => by simp [cntE, hm, hlen, h, hN, h', h2]
      have HTN := hid (fun a => tier_neg d l v s a hm)
      rw [hN] at HTN
      have HSE := hid (fun a x => segment_at d l v s a x hm)
      rw [hN] at HSE
      clear hL hT hn hn2 hlen hm hN hL1 hL2 hT1 hT2
      have hnn : ((n : Int) != (n : Int)) = false := by simp
      have hmk := make_uses N hN1
      have hmm := @run_makeMap Try.prog
      go_enter Try.func8, Try.ntmps8
      go_wp2_with (go_at_call 17; refine (HMA.out _).mono ?_; rintro e w1 ⟨rfl, k1⟩; have bk0 := k1.keeps (b := w.heap.size) (o := 0) (s := none) (v := .int .i64 d) (by simp [go_sem]); have bk1 := k1.keeps (b := w.heap.size) (o := 1) (s := none) (v := .int .i64 l) (by simp [go_sem]); have bk2 := k1.keeps (b := w.heap.size) (o := 2) (s := none) (v := .int .i64 v) (by simp [go_sem]); have bk3 := k1.keeps (b := w.heap.size) (o := 3) (s := none) (v := .int .i64 s) (by simp [go_sem]); have K1 := hid (((Kept.refl w).alloc _).trans k1); clear k1)
      go_loop [32] (fun t => ∃ i : Nat, i ≤ n ∧ t = .int .i64 i ∧ ∀ j, j < i → 0 ≤ T.getD j 0 ∧ T.getD j 0 ≤ 2147483647) (fun t => n - (intOf t).toNat)
      case atStart => exact ⟨0, by omega, rfl, fun j hj => by omega⟩
      case round =>
        obtain ⟨i, hi, rfl, hall⟩ := hrel
        have HA := hid hall; clear hall
        by_cases hlt : i < n
        · obtain ⟨b, o, rfl, hcl⟩ := HT.out.cells (by omega)
          have hc := K1.out.keeps (hcl i hlt)
          clear hcl
          obtain ⟨x, hx⟩ : ∃ x, T.getD i 0 = x := ⟨_, rfl⟩
          rw [hx] at hc
          by_cases h0 : x < 0
          · have HB := hid (show okT T = false by
              cases h : okT T with
              | false => rfl
              | true => have := (okT_iff T).1 h i (by rw [HN2.out]; exact hlt); rw [hx] at this; omega)
            clear hx
            go_wp2
            go_ret2
            exact CountPost.err (HE1.out HB.out) (by decide) K1.out
          · by_cases h1 : 2147483647 < x
            · have HB := hid (show okT T = false by
                cases h : okT T with
                | false => rfl
                | true => have := (okT_iff T).1 h i (by rw [HN2.out]; exact hlt); rw [hx] at this; omega)
              clear hx
              go_wp2
              go_ret2
              exact CountPost.err (HE1.out HB.out) (by decide) K1.out
            · have HX := hid hx; clear hx
              go_wp2
              go_round
              case rel => exact ⟨i + 1, by omega, by go_num, fun j hj => by
                by_cases e : j = i
                · subst e; rw [HX.out]; omega
                · exact HA.out j (by omega)⟩
              case measure => simp [intOf]; omega
        · obtain rfl : i = n := by omega
          have HOT := hid (show okT T = true from (okT_iff T).2 (by rw [HN2.out]; exact HA.out))
          go_wp2
          go_loopw [45] (fun t wr => ∃ j : Nat, j ≤ i ∧ t = .int .i64 j ∧ (∀ q, q < j → 1 ≤ L.getD q 0 ∧ L.getD q 0 ≤ 16 * (N : Int)) ∧ Kept w1 wr) (fun t _ => i - (intOf t).toNat)
          case atStart => exact ⟨0, by omega, rfl, fun j hj => by omega, Kept.refl _⟩
          case round =>
            obtain ⟨j, hj, rfl, hall, hkj⟩ := hrel
            have HB := hid hall; clear hall
            have bk0 := hkj.keeps bk0
            have bk1 := hkj.keeps bk1
            have bk2 := hkj.keeps bk2
            have bk3 := hkj.keeps bk3
            by_cases hlt2 : j < i
            · obtain ⟨b, o, rfl, hcl⟩ := HL.out.cells (by omega)
              have hc := hkj.keeps (K1.out.keeps (hcl j hlt2))
              clear hcl
              obtain ⟨x, hx⟩ : ∃ x, L.getD j 0 = x := ⟨_, rfl⟩
              rw [hx] at hc
              have HX := hid hx; clear hx
              have HTS := hid (tier_sign d l v s x)
              by_cases h0 : 1 ≤ x ∧ x ≤ 16 * (N : Int)
              · have HP := hid h0
                have hneg : ¬ tierF d l v s x < 0 := fun h => (HTN.out x).1 h h0
                clear h0
                go_wp2_with (go_at_call 18; refine (HTS.out _).mono ?_; rintro e w2 ⟨tv, htv, rfl, k2⟩; rw [← htv] at hneg; clear htv)
                go_roundw
                case rel => exact ⟨j + 1, by omega, by go_num, fun q hq => by
                  by_cases e : q = j
                  · subst e; rw [HX.out]; exact HP.out
                  · exact HB.out q (by omega), hkj.trans k2⟩
                case measure => simp [intOf]; omega
              · have hneg : tierF d l v s x < 0 := (HTN.out x).2 h0
                have HC := hid (show okL N L = false by
                  cases h : okL N L with
                  | false => rfl
                  | true => have := (okL_iff N L).1 h j (by rw [HN.out]; exact hlt2); rw [HX.out] at this; exact absurd this h0)
                clear h0
                go_wp2_with (go_at_call 18; refine (HTS.out _).mono ?_; rintro e w2 ⟨tv, htv, rfl, k2⟩; rw [← htv] at hneg; clear htv)
                go_ret2
                exact CountPost.err (HE4.out HOT.out HC.out) (by decide) (K1.out.trans (hkj.trans k2))
            · obtain rfl : j = i := by omega
              have HOL := hid (show okL N L = true from (okL_iff N L).2 (by rw [HN.out]; exact HB.out))
              obtain ⟨wv, rfl⟩ : ∃ wv : World, wv = wr := ⟨_, rfl⟩
              clear HE1 HE4
              go_wp2_with (go_at_call 19; refine (HSG.out _).mono ?_; rintro e wo ⟨rfl, ko⟩; have K2 := hid (K1.out.trans (hkj.trans ko)); have bk0 := ko.keeps bk0; have bk1 := ko.keeps bk1; have bk2 := ko.keeps bk2; have bk3 := ko.keeps bk3; clear ko)
              go_loopw [60] (fun t wr => ∃ p : Nat, p ≤ j ∧ t = .int .i64 p ∧ (∀ a b, a < b → b < p → L.getD a 0 ≠ L.getD b 0) ∧ Blk wr wo.heap.size (N * 2) (useV L T p) ∧ IntSet wr (wo.heap.size + 1) (L.take p) ∧ Kept wo wr) (fun t _ => j - (intOf t).toNat)
              case atStart => exact ⟨0, by omega, rfl, fun a b _ hb => by omega, Blk.congr ((blk_uses wo N _).alloc _) fun q _ => (useV_zero L T q).symm, by
                have := intSet_new (wo.alloc (.cells (madeCells #[.int .i64 0, .int .i64 0] (N * 2)) 54)); simpa using this, (by repeat (first | exact Kept.refl _ | assumption | refine Kept.alloc ?_ _ | refine Kept.drew ?_ | refine Kept.drewN ?_ _ | refine Kept.setCell ?_ (by simp; try omega) _ | refine Kept.trans ?_ (by assumption)))⟩
              case round =>
                obtain ⟨p, hp, rfl, hall, hbl, hset, hkp⟩ := hrel
                have HP := hid hall; have HBL := hid hbl; have HSET := hid hset; have KP := hid hkp
                clear hall hbl hset hkp
                by_cases hlt3 : p < j
                · obtain ⟨hx1, hx2⟩ := HB.out p hlt3
                  obtain ⟨b, o, rfl, hcl⟩ := HL.out.cells (by omega)
                  obtain ⟨b', o', rfl, hct⟩ := HT.out.cells (by omega)
                  have hc := KP.out.keeps (K2.out.keeps (hcl p hlt3))
                  have hc' := K2.out.keeps (hct p hlt3)
                  have hb'o : b' < wo.heap.size := cell_lt (K2.out.keeps (hct p hlt3))
                  have HBO := hid hb'o
                  have hsz := K2.out.size
                  have hwo : w.heap.size < wo.heap.size := cell_lt bk0
                  have HWO := hid hwo
                  have ck0 := KP.out.keeps bk0
                  have ck1 := KP.out.keeps bk1
                  have ck2 := KP.out.keeps bk2
                  have ck3 := KP.out.keeps bk3
                  clear hcl hct hb'o hwo hsz
                  have HSTEP := hid (useV_step L T p)
                  have hlb := liveTo_bd L
                  have HLB := hid hlb; clear hlb
                  have HTB := hid (fun s => tickTo_bd L T s ((okT_iff T).1 HOT.out) p (by rw [HN2.out]; omega))
                  have hty := (okT_iff T).1 HOT.out p (by rw [HN2.out]; exact hlt3)
                  obtain ⟨hty0, hty1⟩ := hty
                  have HTAKE := hid (show L.take (p + 1) = L.take p ++ [L.getD p 0] by
                    rw [List.take_add_one, List.getElem?_eq_getElem (by rw [HN.out]; exact hlt3)]; simp [List.getD_eq_getElem?_getD, List.getElem?_eq_getElem (show p < L.length by rw [HN.out]; exact hlt3)])
                  have HTL := hid (show (L.take p).length < 9223372036854775807 by rw [List.length_take]; omega)
                  have HCON := hid (show ((L.take p).contains (L.getD p 0) = true → ¬ L.Nodup) ∧ ((L.take p).contains (L.getD p 0) = false → ∀ a, a < p → L.getD a 0 ≠ L.getD p 0) from by
                    constructor
                    · intro h hnd
                      rw [List.contains_iff_mem] at h
                      obtain ⟨a, ha, he⟩ := List.getElem_of_mem h
                      rw [List.length_take] at ha
                      rw [List.getElem_take] at he
                      refine (nodup_iff L).1 hnd a p (by omega) (by rw [HN.out]; exact hlt3) ?_
                      rw [← he, List.getD_eq_getElem?_getD, List.getElem?_eq_getElem (by omega)]; rfl
                    · intro h a ha he
                      have : L.getD p 0 ∈ L.take p := by
                        rw [← he, List.getD_eq_getElem?_getD, List.getElem?_eq_getElem (by rw [HN.out]; omega)]
                        exact List.mem_take_iff_getElem.2 ⟨a, by rw [HN.out]; omega, rfl⟩
                      rw [← List.contains_iff_mem] at this
                      rw [this] at h; cases h)
                  obtain ⟨x, hx⟩ : ∃ x, L.getD p 0 = x := ⟨_, rfl⟩
                  obtain ⟨y, hy⟩ : ∃ y, T.getD p 0 = y := ⟨_, rfl⟩
                  rw [hx] at hc hx1 hx2 HSTEP HTAKE HCON
                  rw [hy] at hc' hty0 hty1 HSTEP
                  obtain ⟨q, hq⟩ : ∃ q : Nat, (x - 1) / 16 = (q : Int) := ⟨((x - 1) / 16).toNat, by omega⟩
                  have hqN : q < N := by omega
                  have HSG2 := hid (HSE.out x q ⟨hx1, hx2⟩ hq)
                  have HQ := hid (HSTEP.out q hq.symm)
                  have HXX := hid hx
                  clear hx hy hq HSTEP
                  cases hcon : (L.take p).contains x with
                  | true =>
                    have HD := hid (HCON.out.1 hcon)
                    have HCN := hid hcon; clear hcon
                    go_wp2_with (at_lookup; refine wpList_inSet rfl _ _ rfl _ _ rfl HSET.out x rfl (by omega) (by omega) ?_; rw [HCN.out])
                    go_ret2
                    exact CountPost.err (HE7.out HOT.out HOL.out HD.out) (by decide) (K2.out.trans (KP.out.alloc _))
                  | false =>
                    have HD := hid (HCON.out.2 hcon)
                    have HCN := hid hcon; clear hcon
                    clear HCON
                    obtain ⟨hlb0, hlb1⟩ := HLB.out q p
                    obtain ⟨htb0, htb1⟩ := HTB.out q
                    have HV0 := hid (show useV L T p (q * 2) = .int .i64 (liveTo L q p) by rw [useV, if_pos (by omega), show q * 2 / 2 = q by omega])
                    have HV1 := hid (show useV L T p (q * 2 + 1) = .int .i64 (tickTo L T q p) by rw [useV, if_neg (by omega), show (q * 2 + 1) / 2 = q by omega])
                    generalize liveTo L q p = lv at *
                    generalize tickTo L T q p = tv at *
                    go_wp2_with (first
                      | (at_lookup; refine wpList_inSet rfl _ _ rfl _ _ rfl HSET.out x rfl (by omega) (by omega) ?_; rw [HCN.out])
                      | (at_mapUpdate; refine wpList_putSet rfl _ _ _ rfl _ _ rfl (HSET.out.alloc _) HTL.out x rfl rfl (by omega) (by omega) ?_; intro w5 hs5 hb5; have hbA := hb5.blk (HBL.out.alloc _) (by omega); have HS5 := hid hs5; have HB5 := hid hbA; have K5 := hid ((KP.out.alloc _).turned hb5 (by omega)); have hU0 := hbA.cell (q * 2) (by omega); have hU1 := hbA.cell (q * 2 + 1) (by omega); have ck0 := K5.out.keeps bk0; have ck1 := K5.out.keeps bk1; have ck2 := K5.out.keeps bk2; have ck3 := K5.out.keeps bk3; clear hs5 hb5 hbA)
                      | (go_at_call 20; refine (HSG2.out _).mono ?_; rintro e w6 ⟨rfl, k6⟩; have e0 := k6.keeps hU0; have e1 := k6.keeps hU1; rw [HV0.out] at e0; rw [HV1.out] at e1; have B6 := hid (k6.blk HB5.out); have f0 := B6.out.frozen (q * 2); have f1 := B6.out.frozen (q * 2 + 1); have eT := k6.keeps (K5.out.keeps hc'); have K6 := hid (K5.out.trans k6); have S6 := hid (k6.intSet HS5.out); clear k6 hU0 hU1 ck0 ck1 ck2 ck3))
                    have eTS : (w6.setCell ⟨wo.heap.size, q * 2, none⟩ (.int .i64 (lv + 1))).cell? ⟨b', o' + p, none⟩ = some (.int .i64 y) := by rw [World.cell?_of_block (w := w6) (Below.heap_setCell _ _ _ _ (by have := HBO.out; simp; omega))]; exact eT
                    go_wp2
                    go_region
                    all_goals
                      have HMX := hid (show (if tv < y then y else tv) = max tv y by split <;> omega)
                      go_wp2
                      go_roundw
                      case rel => exact ⟨p + 1, by omega, by go_num, fun a b hab hb => by
                        by_cases e : b = p
                        · subst e; rw [HXX.out]; exact HD.out a hab
                        · exact HP.out a b hab (by omega), Blk.drew (Blk.congr ((B6.out.set (q * 2) _).set (q * 2 + 1) _) fun jj _ => by rw [HMX.out]; exact HQ.out jj), by
                          rw [HTAKE.out]
                          exact (Kept.refl _).drew.intSet ((S6.out.setCell (p := ⟨wo.heap.size, q * 2, none⟩) (by simp) _).setCell (p := ⟨wo.heap.size, q * 2 + 1, none⟩) (by simp) _), by
                          have K6 := K6.out
                          exact (Kept.setCell (p := ⟨wo.heap.size, q * 2 + 1, none⟩) (Kept.setCell (p := ⟨wo.heap.size, q * 2, none⟩) K6 (Nat.le_refl _) _) (Nat.le_refl _) _).drew⟩
                      case measure => simp [intOf]; omega
                · obtain rfl : p = j := by omega
                  have HE := hid (HE0.out HOT.out HOL.out ((nodup_iff L).2 (by rw [HN.out]; exact HP.out)))
                  go_wp2
                  go_ret2
                  unfold CountPost
                  rw [HE.out]
                  refine ⟨_, rfl, .inl ⟨rfl, ?_⟩, K2.out.trans KP.out⟩
                  rw [HNS.out, HN.out, Int.toNat_natCast]
                  exact uses_blk HBL.out hN1
    · have hne : ((L.length : Int) != (T.length : Int)) = true := by rw [bne_iff_ne]; omega
      have HE := hid (show cntE d l v s L T = 1 by simp [cntE, hlen])
      have HMA := hid (may_t d l v s · hm)
      clear hL hT hlen hm
      generalize L.length = n at *
      generalize T.length = m at *
      go_enter Try.func8, Try.ntmps8
      go_wp2_with (go_at_call 17; refine (HMA.out _).mono ?_; rintro e w1 ⟨rfl, k1⟩)
      go_ret2
      exact CountPost.err HE.out (by decide) (by repeat (first | exact Kept.refl _ | assumption | refine Kept.alloc ?_ _ | refine Kept.drew ?_ | refine Kept.drewN ?_ _ | refine Kept.setCell ?_ (by simp; try omega) _ | refine Kept.trans ?_ (by assumption)))
  · have hm' : mayB d l v s = false := by simpa using hm
    have HE := hid (show cntE d l v s L T = 1 by simp [cntE, hm'])
    have HMA := hid (may_f d l v s · hm')
    clear hL hT hm hm'
    generalize L.length = n at *
    generalize T.length = m at *
    go_enter Try.func8, Try.ntmps8
    go_wp2_with (go_at_call 17; refine (HMA.out _).mono ?_; rintro e w1 ⟨rfl, k1⟩)
    go_ret2
    exact CountPost.err HE.out (by decide) (by repeat (first | exact Kept.refl _ | assumption | refine Kept.alloc ?_ _ | refine Kept.drew ?_ | refine Kept.drewN ?_ _ | refine Kept.setCell ?_ (by simp; try omega) _ | refine Kept.trans ?_ (by assumption)))
end Go.Proofs.Ytnpkoncflplpiaa
