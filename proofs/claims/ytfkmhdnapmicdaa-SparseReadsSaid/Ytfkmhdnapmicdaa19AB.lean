/- haymowlaw19.Few. -/
import Derived.Test.Ytfkmhdnapmicdaa19AA
namespace Go.Proofs.Ytfkmhdnapmicdaa
set_option linter.unusedSimpArgs false
set_option linter.unusedVariables false
open Go.RowKit

def FewPost (f : Fl) (w : World) (e : Ending) (w' : World) : Prop := ∃ u, e = .returned (.agg #[.int .i64 (fewF f).size, u]) ∧ FRow w' w.heap.size u (fewF f).L ∧ Kept w w'
set_option maxRecDepth 100000 in
set_option maxHeartbeats 4000000 in
theorem few_any (f : Fl) (v : Value) (w : World) (h : Sp w v f) : Calls Try.prog 8 #[v] w (FewPost f w) := by
  obtain ⟨vl, rfl, hP⟩ := h
  obtain ⟨A, c, rfl⟩ := hP.shape
  obtain ⟨-, hp1, hp2, -, -⟩ := hP.open_
  obtain ⟨s, L⟩ := f
  dsimp only at *
  obtain ⟨m, hm⟩ : ∃ m, L.length = m := ⟨_, rfl⟩
  obtain ⟨m2, hm2⟩ : ∃ m2, (L.take 20).length = m2 := ⟨_, rfl⟩
  have hm3 : (20 < m ∧ m2 = 20) ∨ (¬ 20 < m ∧ m2 = m) := by rw [← hm2, List.length_take]; omega
  obtain ⟨s2, hs2⟩ : ∃ s2, (if 20000 < s ∧ s ≤ 463488 then 20000 else s) = s2 := ⟨_, rfl⟩
  have hP2 : Pcs w (.slice A m2 c) (L.take 20) := by
    rcases hm3 with ⟨h, rfl⟩ | ⟨h, rfl⟩
    · exact hP.take 20 (by omega)
    · rw [List.take_of_length_le (by omega)]; rw [hm] at hP; exact hP
  have HPO := hid (show ∀ w' u, Kept w w' → FRow w' w.heap.size u ((L.take 20).map fewP) → FewPost ⟨s, L⟩ w (.returned (.agg #[.int .i64 s2, u])) w' from fun w' u hk hu =>
    ⟨u, by rw [fewF]; dsimp only; rw [hs2], hu, hk⟩)
  rw [hm] at hp1 ⊢
  have HP := hid hP2; have HM2 := hid hm2; have HM3 := hid hm3; have HS2 := hid hs2
  clear hP hP2 hm hm2 hs2
  have hslice : 20 < m → (Instr.sliceAt 22 (.slice A m c) none (some (.int .i64 20)) none).run Try.prog = fun w => .ok (.slice A 20 c) w := fun h => funext fun w => pcs_cutTo (A := A) (c := c) 20 (by omega) hp1 w
  go_enter Try.func8, Try.ntmps8
  go_upto_region 1 with fail
  have k0 : Kept w ((w.alloc (.cells #[.int .i64 s, .slice A m c] 24)).alloc (.cells #[.int .i64 0, .slice none 0 0] 24)) := ((Kept.refl w).alloc _).alloc _
  have b0 : CB ((w.alloc (.cells #[.int .i64 s, .slice A m c] 24)).alloc (.cells #[.int .i64 0, .slice none 0 0] 24)) w.heap.size 24 [.int .i64 s, .slice A m c] := ((Kept.refl (w.alloc (.cells #[.int .i64 s, .slice A m c] 24))).alloc _).cb (cb_new w 24 [.int .i64 s, .slice A m c])
  have b1 : CB ((w.alloc (.cells #[.int .i64 s, .slice A m c] 24)).alloc (.cells #[.int .i64 0, .slice none 0 0] 24)) (w.heap.size + 1) 24 [.int .i64 0, .slice none 0 0] := by
    have := cb_new (w.alloc (.cells #[.int .i64 s, .slice A m c] 24)) 24 [.int .i64 0, .slice none 0 0]
    simpa using this
  generalize ((w.alloc (.cells #[.int .i64 s, .slice A m c] 24)).alloc (.cells #[.int .i64 0, .slice none 0 0] 24)) = w1 at *
  have B0 := hid b0; have B1 := hid b1; have K1 := hid k0
  have d0 := b0.cell 0 (by simp); have d1 := b0.cell 1 (by simp); have f0 := b0.frozen 0; have f1 := b0.frozen 1
  simp only [List.getElem_cons_zero, List.getElem_cons_succ] at d0 d1
  clear b0 b1 k0
  go_upto_if 9 with fail
  go_cut [] (fun wx => CB wx w.heap.size 24 [.int .i64 s, .slice A m2 c] ∧ CB wx (w.heap.size + 1) 24 [.int .i64 0, .slice none 0 0] ∧ Kept w wx)
  case first =>
    rcases hm3 with ⟨hb, rfl⟩ | ⟨hb, rfl⟩
    · have hsl := hslice hb
      have e1 : (20 : Int) < (m : Int) := by omega
      clear hslice
      go_wp2_with fail
      go_meet
      exact ⟨B0.out.set 1 _, B1.out.far (by simp) _, K1.out.setCell (by simp) _⟩
    · have e1 : ¬ (20 : Int) < (m2 : Int) := by omega
      clear hslice
      go_wp2_with fail
      go_meet
      exact ⟨B0.out, B1.out, K1.out⟩
  case rest =>
  obtain ⟨b0, b1, k0⟩ := hcut
  clear d0 d1 f0 f1 hslice B0 B1 K1
  have B0 := hid b0; have B1 := hid b1; have K1 := hid k0
  have d0 := b0.cell 0 (by simp); have d1 := b0.cell 1 (by simp); have f0 := b0.frozen 0; have f1 := b0.frozen 1
  simp only [List.getElem_cons_zero, List.getElem_cons_succ] at d0 d1
  clear b0 b1 k0
  go_upto_region 3 with fail
  go_cut [21] (fun t wx => t = .bool (decide (20000 < s ∧ s ≤ 463488)) ∧ wc = wx)
  case first =>
    by_cases h1 : 20000 < s
    · by_cases h2 : s ≤ 463488
      · go_wp2_with fail
        go_meet
        exact ⟨congrArg Value.bool (decide_eq_true ⟨h1, h2⟩).symm, rfl⟩
      · go_wp2_with fail
        go_meet
        exact ⟨congrArg Value.bool (decide_eq_false (by omega)).symm, rfl⟩
    · go_wp2_with fail
      go_meet
      exact ⟨congrArg Value.bool (decide_eq_false (by omega)).symm, rfl⟩
  case rest =>
  obtain ⟨rfl, rfl⟩ := hcut
  go_upto_if 21 with fail
  go_cut [] (fun wx => CB wx w.heap.size 24 [.int .i64 s2, .slice A m2 c] ∧ CB wx (w.heap.size + 1) 24 [.int .i64 0, .slice none 0 0] ∧ Kept w wx)
  case first =>
    by_cases h1 : 20000 < s ∧ s ≤ 463488
    · have e1 : decide (20000 < s ∧ s ≤ 463488) = true := decide_eq_true h1
      have e2 : s2 = 20000 := by rw [← HS2.out, if_pos h1]
      rw [e1]
      go_wp2_with fail
      go_meet
      rw [e2]
      exact ⟨B0.out.set 0 _, B1.out.far (by simp) _, K1.out.setCell (by simp) _⟩
    · have e1 : decide (20000 < s ∧ s ≤ 463488) = false := decide_eq_false h1
      have e2 : s2 = s := by rw [← HS2.out, if_neg h1]
      rw [e1]
      go_wp2_with fail
      go_meet
      rw [e2]
      exact ⟨B0.out, B1.out, K1.out⟩
  case rest =>
  obtain ⟨b0, b1, k0⟩ := hcut
  clear d0 d1 f0 f1 B0 B1 K1
  have B0 := hid b0; have B1 := hid b1; have K1 := hid k0
  clear b0 b1 k0
  have hlt : w.heap.size + 1 < wc.heap.size := B1.out.lt
  go_wp2_with fail
  go_loopw [3, 4] (fun tv t wr => ∃ i : Nat, i ≤ m2 ∧ t = .int .i64 i ∧ FRow wr wc.heap.size tv (((L.take 20).take i).map fewP) ∧ Kept wc wr) (fun _ t _ => m2 - (intOf t).toNat)
  case atStart => exact ⟨0, by omega, rfl, frow_nil _ _, Kept.refl _⟩
  case round =>
    obtain ⟨i, hi, rfl, hfr, hkw⟩ := hrel
    obtain ⟨A7, n7, c7, rfl⟩ := hfr.shape
    have HFR := hid hfr; have HK := hid hkw
    have y0 := hkw.cb B0.out; have y1 := hkw.cb B1.out
    have d0 := y0.cell 0 (by simp); have d1 := y0.cell 1 (by simp); have f0 := y0.frozen 0; have f1 := y0.frozen 1
    have r0 := y1.cell 0 (by simp); have r1 := y1.cell 1 (by simp); have q0 := y1.frozen 0; have q1 := y1.frozen 1
    simp only [List.getElem_cons_zero, List.getElem_cons_succ] at d0 d1 r0 r1
    have w4 : IntKind.i64.wrap ((i : Int) + 1) = (i : Int) + 1 := IntWalk.i64_in _ (by have := HM3.out; omega)
    clear hfr hkw y0 y1
    by_cases hlt2 : i < m2
    · clear r0 r1 q0 q1
      obtain ⟨b, o, p, rfl, hp, hc1, vb, hc2, hby⟩ := HP.out.at_ i hlt2
      have i0 : (0 : Int) ≤ (i : Int) := by omega
      have i1 : (i : Int) < (m2 : Int) := by omega
      have c1 := (K1.out.trans HK.out).keeps hc1; have c2 := (K1.out.trans HK.out).keeps hc2
      obtain ⟨A1, c3, rfl⟩ := hby.shape
      have HBY := hid hby
      have HPI := hid hp
      obtain ⟨pn, pb⟩ := p
      dsimp only at *
      obtain ⟨n1, hn1⟩ : ∃ n1, pb.length = n1 := ⟨_, rfl⟩
      rw [hn1] at c2 HBY
      have HN1 := hid hn1
      have hcut := byts_cutTo (A := A1) (n := n1) (c := c3)
      obtain ⟨-, hl1, -, -, -⟩ := HBY.out.open_
      clear hp hc1 hc2 hby hn1
      by_cases hlen : 130 < n1
      · have e1 : (130 : Int) < (n1 : Int) := by omega
        have hct := hcut 130 (by omega) hl1
        clear hcut
        have hby3 := HBY.out.take 130 (by omega)
        obtain ⟨B1, hB1⟩ : ∃ B1, pb.take 130 = B1 := ⟨_, rfl⟩
        rw [hB1] at hby3
        go_upto_region 12 with fail
        clear c1 c2 hct
        have hkx : Kept wr (wr.alloc (.cells #[.int .i64 pn, .slice A1 130 c3] 62)) := (Kept.refl wr).alloc _
        have hb5 : CB (wr.alloc (.cells #[.int .i64 pn, .slice A1 130 c3] 62)) wr.heap.size 62 [.int .i64 pn, .slice A1 130 c3] := cb_new wr 62 [.int .i64 pn, .slice A1 130 c3]
        have hPk : ∀ k, (Value.slice A7 n7 c7).ownBlock = some k → k < wr.heap.size := fun k e => by
          obtain ⟨cs0, hrow0, -⟩ := HFR.out
          exact (hrow0.lt k e).2
        generalize (wr.alloc (.cells #[.int .i64 pn, .slice A1 130 c3] 62)) = wx at *
        generalize wr.heap.size = P at *
        have HPK := hid hPk
        clear hPk
        have HBY3 := hid ((K1.out.trans (HK.out.trans hkx)).byts hby3)
        have HKX := hid (HK.out.trans hkx)
        obtain ⟨cs, hrow, hcs⟩ := hkx.frow HFR.out
        have hlen9 : (((L.take 20).take i).map fewP).length = i := by rw [List.length_map, List.length_take, HM2.out]; omega
        rw [hlen9] at hrow
        have HROW := hid hrow; have HCS := hid hcs; have HL9 := hid hlen9
        have c0 := hb5.cell 0 (by simp); have c1 := hb5.cell 1 (by simp)
        simp only [List.getElem_cons_zero, List.getElem_cons_succ] at c0 c1
        have HI := hid (show i ≤ 20 by have := HM3.out; omega)
        have HB130 := hid (show B1.length ≤ 130 by rw [← hB1, List.length_take]; omega)
        have HB1 := hid hB1
        clear hkx hb5 hby3 hrow hcs hlen9 d0 d1 f0 f1 hB1
        go_region_held3 (fun w' => w'.cell? ⟨P, 0, none⟩ = some (.int .i64 pn) ∧ w'.cell? ⟨P, 1, none⟩ = some (.slice A1 130 c3))
          (first | exact ⟨c0, c1⟩ | exact ⟨by assumption, by assumption⟩ | (go_split_ands; exact ⟨by assumption, by assumption⟩) | exact ⟨by simp [go_sem, *], by simp [go_sem, *]⟩)
          (first
          | (refine step_append_bytes rfl (.tmp 46) (.tmp 48) (by rfl) wx.heap.size (.slice (some ⟨wx.heap.size, 0, none⟩) 0 0) 0 [] B1 _ (by rfl) ?_ (by rfl) ?_ ?_ ?_ ?_; (focus exact (World.ownsRow_made wx _ 0 (Nat.le_refl _) (by decide) (by simp))); (focus exact (Kept.byts (w := wx) (by repeat (first | exact Kept.refl _ | assumption | refine Kept.alloc ?_ _ | refine Kept.drew ?_ | refine Kept.drewN ?_ _ | refine Kept.setCell ?_ (by simp; try omega) _ | refine Kept.trans ?_ (by assumption))) HBY3.out)); (focus have := HB130.out; omega); (focus exact Kept.size (show Kept wx _ from (by repeat (first | exact Kept.refl _ | assumption | refine Kept.alloc ?_ _ | refine Kept.drew ?_ | refine Kept.drewN ?_ _ | refine Kept.setCell ?_ (by simp; try omega) _ | refine Kept.trans ?_ (by assumption))))); intro v8 w8 ho8 hg8; rw [Nat.zero_add, List.nil_append] at ho8; obtain ⟨A8, c8, rfl⟩ := ownsRow_shape ho8; have O8 := hid ho8; have K8 := hid (show Kept wx w8 from Kept.grown (show Kept wx _ from (by repeat (first | exact Kept.refl _ | assumption | refine Kept.alloc ?_ _ | refine Kept.drew ?_ | refine Kept.drewN ?_ _ | refine Kept.setCell ?_ (by simp; try omega) _ | refine Kept.trans ?_ (by assumption)))) hg8 (fun k e => by cases e; exact Nat.le_refl _)); have e0 := K8.out.keeps c0; have e1 := K8.out.keeps c1; clear ho8 hg8)
          | (refine step_pushG rfl (.tmp 43) (.tmp 51) 22 (by rfl) 62 _ 2 32 Try.underlying22 info_piece rfl (by decide) (by decide) wc.heap.size (.slice A7 n7 c7) i cs [.int .i64 pn, .slice A8 B1.length c8] 1 w8.heap.size (by rfl) ?_ ?_ (by rfl) rfl ?_ ?_ ?_ ?_; (focus exact ((((Kept.refl w8).alloc _)).row (K8.out.row HROW.out))); (focus exact heap_alloc_new w8 _); (focus exact cells_one2 O8.out _); (focus have := HI.out; omega); (focus exact Kept.size (show Kept wc _ from (HKX.out.trans K8.out).alloc _)); intro v9 w9 ho9 hg9; have g0 := World.grownBy.cell hg9 (((Kept.refl w8).alloc (.cells #[.int .i64 pn, .slice A8 B1.length c8] 62)).keeps e0) (fun e => Nat.lt_irrefl _ (HPK.out _ e.symm)); have g1 := World.grownBy.cell hg9 (((Kept.refl w8).alloc (.cells #[.int .i64 pn, .slice A8 B1.length c8] 62)).keeps e1) (fun e => Nat.lt_irrefl _ (HPK.out _ e.symm)); have O9 := hid ho9; have G9 := hid hg9; have K9 := hid (show Kept wc w9 from Kept.grown (show Kept wc _ from (HKX.out.trans K8.out).alloc _) hg9 (fun k e => (HROW.out.lt k e).1)); clear ho9 hg9))
        have KA := hid ((Kept.refl w8).alloc (.cells #[.int .i64 pn, .slice A8 B1.length c8] 62))
        have HF9 := hid (frow_push (p := ⟨pn, B1⟩) HL9.out (KA.out.row (K8.out.row HROW.out)) (fun j q hq => by
          obtain ⟨a, y, b, c⟩ := HCS.out j q hq
          exact ⟨a, y, b, KA.out.row (K8.out.row c)⟩) (KA.out.row (ownsRow_base O8.out HKX.out.size)) G9.out O9.out)
        have HT9 := hid (show ((L.take 20).take (i + 1)).map fewP = ((L.take 20).take i).map fewP ++ [⟨pn, B1⟩] from by
          rw [take_snoc HPI.out, List.map_append, List.map_singleton, fewP]; dsimp only; rw [HB1.out])
        go_wp2_with fail
        go_roundw
        case rel => exact ⟨i + 1, by omega, by go_num, by rw [HT9.out]; exact HF9.out, K9.out⟩
        case measure => simp [intOf]; omega
      · have e1 : ¬ (130 : Int) < (n1 : Int) := by omega
        clear hcut
        have hby3 := HBY.out
        obtain ⟨B1, hB1⟩ : ∃ B1, pb.take 130 = B1 := ⟨_, rfl⟩
        rw [show pb = B1 from by rw [← hB1, List.take_of_length_le (by rw [HN1.out]; omega)]] at hby3
        go_upto_region 12 with fail
        clear c1 c2
        have hkx : Kept wr (wr.alloc (.cells #[.int .i64 pn, .slice A1 n1 c3] 62)) := (Kept.refl wr).alloc _
        have hb5 : CB (wr.alloc (.cells #[.int .i64 pn, .slice A1 n1 c3] 62)) wr.heap.size 62 [.int .i64 pn, .slice A1 n1 c3] := cb_new wr 62 [.int .i64 pn, .slice A1 n1 c3]
        have hPk : ∀ k, (Value.slice A7 n7 c7).ownBlock = some k → k < wr.heap.size := fun k e => by
          obtain ⟨cs0, hrow0, -⟩ := HFR.out
          exact (hrow0.lt k e).2
        generalize (wr.alloc (.cells #[.int .i64 pn, .slice A1 n1 c3] 62)) = wx at *
        generalize wr.heap.size = P at *
        have HPK := hid hPk
        clear hPk
        have HBY3 := hid ((K1.out.trans (HK.out.trans hkx)).byts hby3)
        have HKX := hid (HK.out.trans hkx)
        obtain ⟨cs, hrow, hcs⟩ := hkx.frow HFR.out
        have hlen9 : (((L.take 20).take i).map fewP).length = i := by rw [List.length_map, List.length_take, HM2.out]; omega
        rw [hlen9] at hrow
        have HROW := hid hrow; have HCS := hid hcs; have HL9 := hid hlen9
        have c0 := hb5.cell 0 (by simp); have c1 := hb5.cell 1 (by simp)
        simp only [List.getElem_cons_zero, List.getElem_cons_succ] at c0 c1
        have HI := hid (show i ≤ 20 by have := HM3.out; omega)
        have HB130 := hid (show B1.length ≤ 130 by rw [← hB1, List.length_take]; omega)
        have HB1 := hid hB1
        clear hkx hb5 hby3 hrow hcs hlen9 d0 d1 f0 f1 hB1
        go_region_held3 (fun w' => w'.cell? ⟨P, 0, none⟩ = some (.int .i64 pn) ∧ w'.cell? ⟨P, 1, none⟩ = some (.slice A1 n1 c3))
          (first | exact ⟨c0, c1⟩ | exact ⟨by assumption, by assumption⟩ | (go_split_ands; exact ⟨by assumption, by assumption⟩) | exact ⟨by simp [go_sem, *], by simp [go_sem, *]⟩)
          (first
          | (refine step_append_bytes rfl (.tmp 46) (.tmp 48) (by rfl) wx.heap.size (.slice (some ⟨wx.heap.size, 0, none⟩) 0 0) 0 [] B1 _ (by rfl) ?_ (by rfl) ?_ ?_ ?_ ?_; (focus exact (World.ownsRow_made wx _ 0 (Nat.le_refl _) (by decide) (by simp))); (focus exact (Kept.byts (w := wx) (by repeat (first | exact Kept.refl _ | assumption | refine Kept.alloc ?_ _ | refine Kept.drew ?_ | refine Kept.drewN ?_ _ | refine Kept.setCell ?_ (by simp; try omega) _ | refine Kept.trans ?_ (by assumption))) HBY3.out)); (focus have := HB130.out; omega); (focus exact Kept.size (show Kept wx _ from (by repeat (first | exact Kept.refl _ | assumption | refine Kept.alloc ?_ _ | refine Kept.drew ?_ | refine Kept.drewN ?_ _ | refine Kept.setCell ?_ (by simp; try omega) _ | refine Kept.trans ?_ (by assumption))))); intro v8 w8 ho8 hg8; rw [Nat.zero_add, List.nil_append] at ho8; obtain ⟨A8, c8, rfl⟩ := ownsRow_shape ho8; have O8 := hid ho8; have K8 := hid (show Kept wx w8 from Kept.grown (show Kept wx _ from (by repeat (first | exact Kept.refl _ | assumption | refine Kept.alloc ?_ _ | refine Kept.drew ?_ | refine Kept.drewN ?_ _ | refine Kept.setCell ?_ (by simp; try omega) _ | refine Kept.trans ?_ (by assumption)))) hg8 (fun k e => by cases e; exact Nat.le_refl _)); have e0 := K8.out.keeps c0; have e1 := K8.out.keeps c1; clear ho8 hg8)
          | (refine step_pushG rfl (.tmp 43) (.tmp 51) 22 (by rfl) 62 _ 2 32 Try.underlying22 info_piece rfl (by decide) (by decide) wc.heap.size (.slice A7 n7 c7) i cs [.int .i64 pn, .slice A8 B1.length c8] 1 w8.heap.size (by rfl) ?_ ?_ (by rfl) rfl ?_ ?_ ?_ ?_; (focus exact ((((Kept.refl w8).alloc _)).row (K8.out.row HROW.out))); (focus exact heap_alloc_new w8 _); (focus exact cells_one2 O8.out _); (focus have := HI.out; omega); (focus exact Kept.size (show Kept wc _ from (HKX.out.trans K8.out).alloc _)); intro v9 w9 ho9 hg9; have g0 := World.grownBy.cell hg9 (((Kept.refl w8).alloc (.cells #[.int .i64 pn, .slice A8 B1.length c8] 62)).keeps e0) (fun e => Nat.lt_irrefl _ (HPK.out _ e.symm)); have g1 := World.grownBy.cell hg9 (((Kept.refl w8).alloc (.cells #[.int .i64 pn, .slice A8 B1.length c8] 62)).keeps e1) (fun e => Nat.lt_irrefl _ (HPK.out _ e.symm)); have O9 := hid ho9; have G9 := hid hg9; have K9 := hid (show Kept wc w9 from Kept.grown (show Kept wc _ from (HKX.out.trans K8.out).alloc _) hg9 (fun k e => (HROW.out.lt k e).1)); clear ho9 hg9))
        have KA := hid ((Kept.refl w8).alloc (.cells #[.int .i64 pn, .slice A8 B1.length c8] 62))
        have HF9 := hid (frow_push (p := ⟨pn, B1⟩) HL9.out (KA.out.row (K8.out.row HROW.out)) (fun j q hq => by
          obtain ⟨a, y, b, c⟩ := HCS.out j q hq
          exact ⟨a, y, b, KA.out.row (K8.out.row c)⟩) (KA.out.row (ownsRow_base O8.out HKX.out.size)) G9.out O9.out)
        have HT9 := hid (show ((L.take 20).take (i + 1)).map fewP = ((L.take 20).take i).map fewP ++ [⟨pn, B1⟩] from by
          rw [take_snoc HPI.out, List.map_append, List.map_singleton, fewP]; dsimp only; rw [HB1.out])
        go_wp2_with fail
        go_roundw
        case rel => exact ⟨i + 1, by omega, by go_num, by rw [HT9.out]; exact HF9.out, K9.out⟩
        case measure => simp [intOf]; omega
    · have e9 : (L.take 20).take i = L.take 20 := List.take_of_length_le (by rw [HM2.out]; omega)
      rw [e9] at HFR
      have i3 : ¬ (i : Int) < (m2 : Int) := by omega
      have hfin := hid (show ∀ w', w' = ((wr.setCell ⟨w.heap.size, 1, none⟩ (.slice A7 n7 c7)).setCell ⟨w.heap.size + 1, 0, none⟩ (.int .i64 s2)).setCell ⟨w.heap.size + 1, 1, none⟩ (.slice A7 n7 c7) → FewPost ⟨s, L⟩ w (.returned (.agg #[.int .i64 s2, (.slice A7 n7 c7)])) w' from fun w' hw' => by
        subst hw'
        refine HPO.out _ _ ((((K1.out.trans HK.out).setCell (by simp) _).setCell (by simp) _).setCell (by simp) _) ?_
        exact (((HFR.out.low (p := ⟨w.heap.size, 1, none⟩) (by show w.heap.size < _; omega) _).low (p := ⟨w.heap.size + 1, 0, none⟩) hlt _).low (p := ⟨w.heap.size + 1, 1, none⟩) hlt _).base_le K1.out.size)
      clear hlt2
      go_wp2
      refine bodyPost_ret (v := .agg #[.int .i64 s2, (.slice A7 n7 c7)]) (by simp [results, Try.results8, go_sem, r0, r1, q0, q1]) rfl (hfin.out _ rfl)
end Go.Proofs.Ytfkmhdnapmicdaa
