/- usage.Free: where it answers. -/
import Derived.Test.Ytnpkoncflplpiaa15F
namespace Go.Proofs.Ytnpkoncflplpiaa
set_option linter.unusedSimpArgs false
set_option linter.unusedVariables false
open Go.RowKit Go.Shelf
attribute [local go_sem] Oper.semAt_some

set_option maxRecDepth 100000 in
set_option maxHeartbeats 4000000 in
theorem free_yes (d l v s fr : Int) (vu vb : Value) (n : Nat) (f g : Nat → Int) (L : List Int) (w : World) (hU : Uses w vu n f g) (hL : Ints w vb L) (hLr : ∀ j, j < L.length → -9223372036854775808 ≤ L.getD j 0 ∧ L.getD j 0 ≤ 9223372036854775807) (hf : ∀ k, k < n → -9223372036854775808 ≤ f k ∧ f k ≤ 9223372036854775807) (h : freeOk d l v s n fr = true) :
    Calls Try.prog 14 #[.agg #[.int .i64 d, .int .i64 l, .int .i64 v, .int .i64 s], vu, vb, .int .i64 fr] w (FreePost (onL f L fr (List.range (d - l).toNat) ++ beL f L fr (List.range (d - l).toNat)) w) := by
  simp only [freeOk, Bool.and_eq_true, decide_eq_true_eq] at h
  obtain ⟨⟨hm, hn⟩, hr0, hr1⟩ := h
  have hbd := segsF_bd d l v s
  have hn1 : (n : Int) ≤ 2304 := by omega
  have hfr : fr < n := by
    obtain ⟨b1, b2, b3, b4, b5, b6, b7, b8⟩ := mayB_of hm
    have hs : segsF d l v s = d + v * s := by simp [segsF, hm]
    have := (mul_bd v s b3 b4 b5 b6).1
    omega
  have HC := hid (covers_any d l v s vu n f g)
  rw [hm, decide_eq_true hn, Bool.and_self] at HC
  have HF := hid (first_at d l v s n fr.toNat hm hn.symm (by omega))
  have HT := hid (tier_any d l v s ((fr.toNat : Int) * 16 + 1))
  rw [(tier0_iff d l v s hm fr.toNat n hn.symm (by omega)).2 (by omega)] at HT
  rw [show ((fr.toNat : Nat) : Int) = fr by omega] at HF HT
  have hdl : (d - l).toNat ≤ n := by
    obtain ⟨b1, b2, b3, b4, b5, b6, b7, b8⟩ := mayB_of hm
    have hs : segsF d l v s = d + v * s := by simp [segsF, hm]
    have := (mul_bd v s b3 b4 b5 b6).1
    omega
  have HSA := hid (vals0 d l v s hm n hn.symm hdl)
  have HSEG := hid (segments_any d l v s 0)
  have HM := hid hm; have HN := hid hn.symm
  have HU := hid hU; have HLI := hid hL; have HLR := hid hLr; have HFR := hid hf
  obtain ⟨A, c, rfl⟩ := hU.shape
  obtain ⟨A', c', rfl⟩ := hL.shape
  obtain ⟨-, hl1, hl2⟩ := hL.len
  obtain ⟨m, hLm⟩ : ∃ m, L.length = m := ⟨_, rfl⟩
  rw [hLm] at HLI HLR hl1 ⊢
  have HLM := hid hLm
  clear hU hL hLr hf hm hn hLm
  have hmm := @run_makeMap Try.prog
  refine (callsIn_wide (n := 6)).1 ?_
  refine callsIn_of_wp_marks Try.func14 rfl trivial ?_ rfl
  simp only [Try.ntmps14, List.size_toArray, List.length_cons, List.length_nil, Nat.reduceAdd, Nat.reduceSub, Array.replicate_succ, Array.replicate_zero, List.push_toArray, List.append_toArray, List.nil_append, List.cons_append]
  gi_wp2_with (first
    | (refine ⟨trivial, ?_⟩; gi_at_call 24; refine (callsIn_wide.2 (HC.out _ (Kept.uses (by repeat (first | exact Kept.refl _ | assumption | refine Kept.alloc ?_ _ | refine Kept.drew ?_ | refine Kept.drewN ?_ _ | refine Kept.setCell ?_ (by simp; try omega) _ | refine Kept.trans ?_ (by assumption))) HU.out))).mono ?_; rintro e w1 ⟨rfl, k1⟩; have bk0 := k1.keeps (b := w.heap.size) (o := 0) (s := none) (v := .int .i64 d) (by simp [go_sem]); have bk1 := k1.keeps (b := w.heap.size) (o := 1) (s := none) (v := .int .i64 l) (by simp [go_sem]); have bk2 := k1.keeps (b := w.heap.size) (o := 2) (s := none) (v := .int .i64 v) (by simp [go_sem]); have bk3 := k1.keeps (b := w.heap.size) (o := 3) (s := none) (v := .int .i64 s) (by simp [go_sem]); have bu := k1.keeps (b := w.heap.size + 1) (o := 0) (s := none) (v := .slice A n c) (by simp [go_sem]); have bf := k1.keeps (b := w.heap.size + 1 + 1) (o := 0) (s := none) (v := .int .i64 fr) (by simp [go_sem]); have K1 := hid (show Kept w w1 from (by repeat (first | exact Kept.refl _ | assumption | refine Kept.alloc ?_ _ | refine Kept.drew ?_ | refine Kept.drewN ?_ _ | refine Kept.setCell ?_ (by simp; try omega) _ | refine Kept.trans ?_ (by assumption)))); clear k1)
    | (refine ⟨trivial, ?_⟩; gi_at_call 25; refine (callsIn_wide.2 (HF.out _)).mono ?_; rintro e w2 ⟨rfl, k2⟩; have bk0 := k2.keeps bk0; have bk1 := k2.keeps bk1; have bk2 := k2.keeps bk2; have bk3 := k2.keeps bk3; have bu := k2.keeps bu; have bf := k2.keeps bf; have K2 := hid (K1.out.trans k2); clear k2)
    | (refine ⟨trivial, ?_⟩; gi_at_call 18; refine (callsIn_wide.2 (HT.out _)).mono ?_; rintro e w3 ⟨rfl, k3⟩; have bk0 := k3.keeps bk0; have bk1 := k3.keeps bk1; have bk2 := k3.keeps bk2; have bk3 := k3.keeps bk3; have bu := k3.keeps bu; have bf := k3.keeps bf; have K3 := hid (K2.out.trans k3); clear k3))
  gi_loopw [40] (fun t wr => ∃ p : Nat, p ≤ m ∧ t = .int .i64 p ∧ IntSet wr w3.heap.size (L.take p) ∧ But w3.heap.size ((w3.alloc (.map #[] 0)).alloc (.cells #[.map (some w3.heap.size)] 48)) wr) (fun t _ => m - (intOf t).toNat)
  case atStart => exact ⟨0, by omega, rfl, (intSet_new w3).alloc _, But.refl _ _⟩
  case round =>
    obtain ⟨p, hp, rfl, hset, hbut⟩ := hrel
    have HSET := hid hset; have HBUT := hid hbut
    have hmap : wr.cell? ⟨w3.heap.size + 1, 0, none⟩ = some (.map (some w3.heap.size)) := hbut.keeps (by simp [go_sem]) (by omega)
    have hlow : ∀ (b o : Nat) (s : Option Nat) (v : Value), w3.cell? ⟨b, o, s⟩ = some v → wr.cell? ⟨b, o, s⟩ = some v := fun _ _ _ _ hc => hbut.keeps ((((Kept.refl w3).alloc _).alloc _).keeps hc) (by have := cell_lt hc; omega)
    have HLOW := hid hlow
    clear hset hbut hlow
    by_cases hlt : p < m
    · obtain ⟨b, o, rfl, hcl⟩ := HLI.out.cells (by omega)
      have hc := HLOW.out _ _ _ _ (K3.out.keeps (hcl p hlt))
      obtain ⟨hx0, hx1⟩ := HLR.out p hlt
      have HTAKE := hid (show L.take (p + 1) = L.take p ++ [L.getD p 0] by
        rw [List.take_add_one, List.getElem?_eq_getElem (by rw [HLM.out]; exact hlt)]; simp [List.getD_eq_getElem?_getD, List.getElem?_eq_getElem (show p < L.length by rw [HLM.out]; exact hlt)])
      have HTL := hid (show (L.take p).length < 9223372036854775807 by rw [List.length_take]; omega)
      clear hcl
      generalize L.getD p 0 = x at *
      gi_wp2_with (gi_at_mapUpdate; refine wpListIn_putSet rfl _ _ _ rfl _ _ rfl HSET.out HTL.out x rfl rfl (by omega) (by omega) ?_; intro w5 hs5 hb5; have S5 := hid hs5; have B5 := hid hb5; clear hs5 hb5)
      go_roundw
      case rel => exact ⟨p + 1, by omega, by go_num, by rw [HTAKE.out]; exact S5.out, HBUT.out.trans B5.out⟩
      case measure => simp [intOf]; omega
    · obtain rfl : p = m := by omega
      have hset := HSET.out
      rw [List.take_of_length_le (by rw [HLM.out]; omega)] at hset
      have HSET := hid hset
      have bk0 := HLOW.out _ _ _ _ bk0; have bk1 := HLOW.out _ _ _ _ bk1; have bk2 := HLOW.out _ _ _ _ bk2; have bk3 := HLOW.out _ _ _ _ bk3; have bu := HLOW.out _ _ _ _ bu; have bf := HLOW.out _ _ _ _ bf
      have hK : Kept w wr := (((K3.out.alloc _).alloc _)).turned HBUT.out (K3.out.size)
      have K4 := hid hK
      have hu := hK.uses HU.out
      have HU4 := hid hu
      clear hset hK hu HLOW
      obtain ⟨Wm, rfl⟩ : ∃ Wm : World, Wm = wr := ⟨_, rfl⟩
      gi_wp2_with (refine ⟨trivial, ?_⟩; gi_at_call 26; refine (callsIn_wide.2 (HSEG.out _)).mono ?_; rintro e w6 ⟨rfl, rfl⟩)
      obtain ⟨W0, hW0⟩ : ∃ W0 : World, W0 = (((Wm.alloc (.cells #[.slice none 0 0] 24)).alloc (.cells #[.slice none 0 0] 24)).alloc (.cells #[.int .i64 d, .int .i64 l, .int .i64 v, .int .i64 s] 23)).alloc (.cells #[.int .i64 0] 3) := ⟨_, rfl⟩
      have hsz0 : W0.heap.size = Wm.heap.size + 4 := by rw [hW0]; simp
      have hB0 : Below Wm.heap.size Wm W0 := by rw [hW0]; exact (((((Kept.refl Wm).alloc _).alloc _).alloc _).alloc _).below
      have g0 : W0.cell? ⟨Wm.heap.size + 1 + 1, 0, none⟩ = some (.int .i64 d) := by rw [hW0]; simp [go_sem]
      have g1 : W0.cell? ⟨Wm.heap.size + 1 + 1, 1, none⟩ = some (.int .i64 l) := by rw [hW0]; simp [go_sem]
      have g2 : W0.cell? ⟨Wm.heap.size + 1 + 1, 2, none⟩ = some (.int .i64 v) := by rw [hW0]; simp [go_sem]
      have g3 : W0.cell? ⟨Wm.heap.size + 1 + 1, 3, none⟩ = some (.int .i64 s) := by rw [hW0]; simp [go_sem]
      have gt : W0.cell? ⟨Wm.heap.size + 1 + 1 + 1, 0, none⟩ = some (.int .i64 0) := by rw [hW0]; simp [go_sem]
      have hTwo : Two W0 Wm.heap.size (Wm.heap.size + 1) (Wm.heap.size + 4) (.slice none 0 0) (.slice none 0 0) [] [] := by
        have bO := (((Boxed.new Wm 24 (.slice none 0 0)).alloc (.cells #[.slice none 0 0] 24)).alloc (.cells #[.int .i64 d, .int .i64 l, .int .i64 v, .int .i64 s] 23)).alloc (.cells #[.int .i64 0] 3)
        have bB := ((Boxed.new (Wm.alloc (.cells #[.slice none 0 0] 24)) 24 (.slice none 0 0)).alloc (.cells #[.int .i64 d, .int .i64 l, .int .i64 v, .int .i64 s] 23)).alloc (.cells #[.int .i64 0] 3)
        rw [World.size_alloc] at bB
        rw [hW0]
        exact ⟨⟨bO, World.ownsRow_nil _ _ _ _⟩, ⟨bB, World.ownsRow_nil _ _ _ _⟩, by simp [Value.ownBlock]⟩
      rw [← hW0]
      clear hW0
      refine' wpIn_rangeFunc_ownG (w := W0) rfl (by omega) (gf := 32) (lb := #[.pointer (some ⟨Wm.heap.size + 1 + 1, 0, none⟩), .pointer (some ⟨Wm.heap.size + 1 + 1 + 1, 0, none⟩)]) rfl trivial (enters_of Try.func32 (by kernel_rfl) rfl)
        (seg_stops (6 - 1) (Wm.heap.size + 1 + 1) (Wm.heap.size + 1 + 1 + 1) d l v s 0 n HM.out HN.out hn1 (by omega) W0 (by omega) (by omega) g0 g1 g2 g3 gt) KS.trans (KS.putObj (by omega) (by omega)) (Below.refl _ _) (fun _ => rfl)
        (fun pre W => ((∃ v1 v2, Two W Wm.heap.size (Wm.heap.size + 1) (Wm.heap.size + 4) v1 v2 (onL f L fr (vals pre)) (beL f L fr (vals pre))) ∧ Wm.heap.size + 4 ≤ W.heap.size) ∧ Below Wm.heap.size Wm W)
        (fun _ _ _ => False)
        (OwnFrom.and (Own.from (fun pre X Y row hs hg hr => by obtain ⟨⟨v1, v2, ht⟩, hz⟩ := hs; exact ⟨⟨v1, v2, Two.own _ _ _ _ _ _ _ ht hg hr⟩, Nat.le_trans hz hg.size⟩) _) (ownFrom_below (Nat.le_refl _) (by omega)))
        (fun _ _ _ _ _ hs _ _ => hs)
        ⟨⟨⟨_, _, hTwo⟩, by omega⟩, hB0⟩ _ ?assign ?body ?done ?stop
      case assign =>
        intro l x W K hK
        gi_wp2
        exact hK
      case body =>
        rintro lo pre ⟨k, hkn, hkt⟩ W ⟨⟨⟨v1, v2, hT⟩, hT4⟩, hB⟩ hlt2
        have hK : Kept Wm W := hB
        have wmap := hK.keeps hmap
        have wbu := hK.keeps bu
        have wbf := hK.keeps bf
        have HS := hid (hK.intSet HSET.out)
        obtain ⟨b, o, rfl, hcl⟩ := HU.out.cells (by omega)
        have wc := hK.keeps (K4.out.keeps (hcl k hkn).1)
        clear hcl
        have HK := hid hK; have HTW := hid hT
        have hsW := hB0.size
        clear hK hT hB
        dsimp only
        have EM := hid (show vals (pre ++ [(⟨k, hkn, hkt⟩ : SegT d l v s 0 n)]) = vals pre ++ [k] from vals_snoc _ _)
        cases hcon : L.contains (k : Int) with
        | true =>
          have HF1 := hid (show isFree f L k = false by unfold isFree; rw [hcon]; rfl)
          have HCN := hid hcon; clear hcon
          gi_wp2_with (gi_at_lookup; refine wpListIn_inSet rfl _ _ rfl _ _ rfl HS.out (k : Int) rfl (by omega) (by omega) ?_; rw [HCN.out])
          exact ⟨(KeepsOthers.alloc W _).from _, KS.alloc _ (by omega) (by omega), ⟨⟨v1, v2, by rw [EM.out, onL_no (by rw [HF1.out]; simp), beL_no (by rw [HF1.out]; simp)]; exact HTW.out.alloc _⟩, by simp; omega⟩, HK.out.alloc _⟩
        | false =>
          have HCN := hid hcon; clear hcon
          by_cases hfk : f k = 0
          · have HF1 := hid (show isFree f L k = true by simp only [isFree, hfk]; rw [HCN.out]; rfl)
            rw [hfk] at wc
            have hT' := HTW.out.alloc (.cells #[] 49)
            have wc1 := HTW.out.1.1.cell
            have wc2 := HTW.out.2.1.1.cell
            have wd1 := hT'.1.1.cell
            have wd2 := hT'.2.1.1.cell
            have hln1 := onL_len f L fr (vals pre)
            have hln2 := beL_len f L fr (vals pre)
            rw [vals_len] at hln1 hln2
            obtain ⟨i0, hi, hz0, hz1, hz2⟩ := info_parts info_int
            by_cases hlo : (k : Int) < fr
            · have E1 := hid (show onL f L fr (vals pre ++ [k]) = onL f L fr (vals pre) from onL_no (fun h => by omega))
              have E2 := hid (show beL f L fr (vals pre ++ [k]) = beL f L fr (vals pre) ++ [(k : Int)] from beL_yes ⟨HF1.out, hlo⟩)
              have hTs := hT'.swap
              gi_wp2_with (first
                | (gi_at_lookup; refine wpListIn_inSet rfl _ _ rfl _ _ rfl HS.out (k : Int) rfl (by omega) (by omega) ?_; rw [HCN.out])
                | (gi_at_builtin; refine wpListIn_append_own_at _ rfl _ _ 24 rfl (Wm.heap.size + 4) 3 i0 (.int .i64 0) 1 8 Try.underlying24 hi hz0 hz1 hz2 rfl (by decide) _ _ _ rfl (hTs.1.2.alloc _) ⟨W.heap.size + 1, 0, none⟩ 1 1 [.int .i64 k] rfl rfl (by rw [show W.heap.size + 1 = (W.alloc (.cells #[] 49)).heap.size from (World.size_alloc _ _).symm]; exact cell_one_new _ _ _) (by simp [Value.oneCell']) (by unfold maxLen; omega) (by omega) (by simp; omega) ?_; intro v' w1 hown' hgrow _ hat; obtain ⟨g', cap', rfl⟩ := ownsRow_succ hown'; obtain ⟨hv1, hT2, hK2, hB2, hS2⟩ := Two.push (n₀ := Wm.heap.size) (Bg := Wm.heap.size + 1 + 1) (Bt := Wm.heap.size + 1 + 1 + 1) hTs (by omega) (by omega) (by omega) (by simp; omega) (by omega) (by omega) (by omega) (by omega) (by omega) (by simpa using hown') hgrow hat; have hc1 := hv1.cell; have hf1 := hv1.frozen))
              exact ⟨((KeepsOthers.alloc W _).trans hK2).from _, (KS.alloc _ (by omega) (by omega)).trans hS2, ⟨⟨_, _, by rw [EM.out, E1.out, E2.out]; exact hT2.swap⟩, by have := hK2.size; simp at this; simp; omega⟩, (HK.out.alloc _).below.trans hB2⟩
            · have E1 := hid (show onL f L fr (vals pre ++ [k]) = onL f L fr (vals pre) ++ [(k : Int)] from onL_yes ⟨HF1.out, by omega⟩)
              have E2 := hid (show beL f L fr (vals pre ++ [k]) = beL f L fr (vals pre) from beL_no (fun h => by omega))
              gi_wp2_with (first
                | (gi_at_lookup; refine wpListIn_inSet rfl _ _ rfl _ _ rfl HS.out (k : Int) rfl (by omega) (by omega) ?_; rw [HCN.out])
                | (gi_at_builtin; refine wpListIn_append_own_at _ rfl _ _ 24 rfl (Wm.heap.size + 4) 3 i0 (.int .i64 0) 1 8 Try.underlying24 hi hz0 hz1 hz2 rfl (by decide) _ _ _ rfl (hT'.1.2.alloc _) ⟨W.heap.size + 1, 0, none⟩ 1 1 [.int .i64 k] rfl rfl (by rw [show W.heap.size + 1 = (W.alloc (.cells #[] 49)).heap.size from (World.size_alloc _ _).symm]; exact cell_one_new _ _ _) (by simp [Value.oneCell']) (by unfold maxLen; omega) (by omega) (by simp; omega) ?_; intro v' w1 hown' hgrow _ hat; obtain ⟨g', cap', rfl⟩ := ownsRow_succ hown'; obtain ⟨hv1, hT2, hK2, hB2, hS2⟩ := Two.push (n₀ := Wm.heap.size) (Bg := Wm.heap.size + 1 + 1) (Bt := Wm.heap.size + 1 + 1 + 1) hT' (by omega) (by omega) (by omega) (by simp; omega) (by omega) (by omega) (by omega) (by omega) (by omega) (by simpa using hown') hgrow hat; have hc1 := hv1.cell; have hf1 := hv1.frozen))
              exact ⟨((KeepsOthers.alloc W _).trans hK2).from _, (KS.alloc _ (by omega) (by omega)).trans hS2, ⟨⟨_, _, by rw [EM.out, E1.out, E2.out]; exact hT2⟩, by have := hK2.size; simp at this; simp; omega⟩, (HK.out.alloc _).below.trans hB2⟩
          · have HF1 := hid (show isFree f L k = false by unfold isFree; rw [decide_eq_false hfk, Bool.and_false])
            have hne : (f k != 0) = true := by simpa using hfk
            clear hfk
            gi_wp2_with (gi_at_lookup; refine wpListIn_inSet rfl _ _ rfl _ _ rfl HS.out (k : Int) rfl (by omega) (by omega) ?_; rw [HCN.out])
            exact ⟨(KeepsOthers.alloc W _).from _, KS.alloc _ (by omega) (by omega), ⟨⟨v1, v2, by rw [EM.out, onL_no (by rw [HF1.out]; simp), beL_no (by rw [HF1.out]; simp)]; exact HTW.out.alloc _⟩, by simp; omega⟩, HK.out.alloc _⟩
      case done =>
        rintro D ys W hD rfl ⟨⟨⟨v1, v2, hT⟩, hT4⟩, hB⟩ hKD
        rw [HSA.out] at hT
        have wc1 := hT.1.1.cell
        have wc2 := hT.2.1.1.cell
        have hln1 := onL_len f L fr (List.range (d - l).toNat)
        have hln2 := beL_len f L fr (List.range (d - l).toNat)
        rw [List.length_range] at hln1 hln2
        have hsW := hB0.size
        have hsW2 := hB.size
        gi_wp2_with (gi_at_builtin; refine wpListIn_append_ints rfl _ _ rfl (Wm.heap.size + 4) v1 _ _ _ v2 rfl hT.1.2 rfl (ints_own hT.2.1.2).1 (by omega) hT4 ?_; intro v' w1 hown' hgrow)
        have hlow : ∀ j, v1.ownBlock = some j → Wm.heap.size + 4 ≤ j := fun j hj => (hT.1.2.lt j hj).1
        have hk1 := (KeepsOthers.of_grownBy hgrow fun j o ej hj => by
          rcases hT.1.2.2 with ⟨rfl, _⟩ | ⟨g, cap, cur, rfl, _, hgb, _⟩
          · simp [Value.ownBlock] at ej
          · obtain rfl : g = j := by simpa [Value.ownBlock] using ej
            rw [hgb] at hj; cases hj; rfl).same D _ hKD rfl
        refine ⟨by simp, .inl ⟨_, _, rfl, run_takeDeferred hk1, ?_⟩⟩
        have hKW : Kept Wm (w1.putObj D (.deferred none)) := (Below.grown hB hgrow hB.size fun j e => by have := hlow j e; omega).trans (belowK_b (w := Wm) (Nat.le_refl _) w1 D _ _ (by omega) hk1 rfl rfl)
        exact ⟨_, results_tmp rfl _ _ _, _, rfl, (ints_own (ownsRow_putObj hown' _ hk1 rfl)).1, K4.out.trans hKW⟩
      case stop =>
        rintro D c pre W _ _ h _
        exact h.elim
end Go.Proofs.Ytnpkoncflplpiaa
