/- AddrCounts: the walk. -/
import Derived.Test.Ytlddfpecicgboaa3All
import Derived.Deep.RegionHeld3
namespace Go.Proofs.Ytlddfpecicgboaa
open Go.RowKit

/-- the place of an address, and the address of a place, there and back -/
theorem of_where (d l v s a : Int) (hm : mayB d l v s = true) (h1 : 1 ≤ a) (h2 : a ≤ segsF d l v s * 16) :
    ofN d l v s (whV d l v s a) (whS d l v s a) (whO d l v s a) = a ∧ ofE d l v s (whV d l v s a) (whS d l v s a) (whO d l v s a) = 0 := by
  obtain ⟨b1, b2, b3, b4, b5, b6, b7, b8⟩ := mayB_of hm
  have hB : whB d l v s a = true := by simp [whB, hm, h1, h2]
  have hs : segsF d l v s = d + v * s := by simp [segsF, hm]
  simp only [whV, whS, whO, hB, if_true]
  by_cases hd : (a - 1) / 16 < d
  · simp only [if_pos hd]
    have hb : ofB d l v s (-1) ((a - 1) / 16) ((a - 1) % 16) = true := by rw [ofB_iff]; omega
    simp only [ofN, ofE, hm, hb, Bool.and_self, if_true, ofA]
    simp; omega
  · simp only [if_neg hd]
    have hq0 : 0 ≤ (a - 1) / 16 - d := by omega
    have e1 : ((a - 1) / 16 - d) / s * s + ((a - 1) / 16 - d) % s = (a - 1) / 16 - d := by rw [Int.mul_comm]; exact Int.mul_ediv_add_emod _ _
    have e2 : 0 ≤ ((a - 1) / 16 - d) / s := Int.ediv_nonneg hq0 (by omega)
    have e3 : ((a - 1) / 16 - d) / s < v := by
      apply Int.ediv_lt_of_lt_mul (by omega)
      omega
    have e4 : 0 ≤ ((a - 1) / 16 - d) % s := Int.emod_nonneg _ (by omega)
    have e5 : ((a - 1) / 16 - d) % s < s := Int.emod_lt_of_pos _ (by omega)
    generalize ((a - 1) / 16 - d) / s = V at *
    generalize ((a - 1) / 16 - d) % s = S at *
    have hb : ofB d l v s V S ((a - 1) % 16) = true := by rw [ofB_iff]; omega
    simp only [ofN, ofE, hm, hb, Bool.and_self, if_true, ofA, if_neg (show ¬ V = -1 by omega)]
    refine ⟨by omega, trivial⟩

theorem pl_where (d l v s : Int) (i : Nat) (hm : mayB d l v s = true) (h : (i : Int) + 1 ≤ segsF d l v s * 16) :
    whV d l v s ((i : Int) + 1) = plV d s i ∧ whS d l v s ((i : Int) + 1) = plS d s i ∧ whO d l v s ((i : Int) + 1) = plO i := by
  have hB : whB d l v s ((i : Int) + 1) = true := by simp [whB, hm, h]; omega
  have e : (i : Int) + 1 - 1 = i := by omega
  simp only [whV, whS, whO, hB, if_true, e, plV, plS, plO, and_self]

set_option maxRecDepth 100000 in
set_option maxHeartbeats 2000000 in
theorem counts_core (d l v s sk : Int) (w : World) (hm : mayB d l v s = true) (h0 : 0 ≤ sk) (h1 : sk ≤ 65535) :
    Calls Try.prog 7 #[.agg #[.int .i64 d, .int .i64 l, .int .i64 v, .int .i64 s], .int .u16 sk] w fun e w' => e = .returned (.bool true) ∧ Kept w w' := by
  obtain ⟨b1, b2, b3, b4, b5, b6, b7, b8⟩ := mayB_of hm
  have hvs0 := (mul_bd v s b3 b4 b5 b6).1
  obtain ⟨hb1, hb2⟩ := segsF_bd d l v s
  have hs : segsF d l v s = d + v * s := by simp [segsF, hm]
  have hn8 : 8 ≤ segsF d l v s := by omega
  have H1 := hid (fun w => may_t d l v s w hm)
  have H2 := hid (fun w => all_any d l v s w hm)
  have H3 := hid (blocks_any d l v s)
  have Hm := hid hm
  clear hs hm
  go_enter Try.func7, Try.ntmps7
  go_wp2_with (first
    | (go_at_call 11; refine (H1.out _).mono ?_; rintro e w2 ⟨rfl, hk2⟩; have hk : Kept (w.alloc (.cells #[.int .i64 d, .int .i64 l, .int .i64 v, .int .i64 s] 23)) w2 := (by repeat (first | exact Kept.refl _ | assumption | refine Kept.alloc ?_ _ | refine Kept.drew ?_ | refine Kept.drewN ?_ _ | refine Kept.setCell ?_ (by simp; try omega) _ | refine Kept.trans ?_ (by assumption))); have kk0 := hk.keeps (b := w.heap.size) (o := 0) (s := none) (v := .int .i64 d) (by simp [go_sem]); have kk1 := hk.keeps (b := w.heap.size) (o := 1) (s := none) (v := .int .i64 l) (by simp [go_sem]); have kk2 := hk.keeps (b := w.heap.size) (o := 2) (s := none) (v := .int .i64 v) (by simp [go_sem]); have kk3 := hk.keeps (b := w.heap.size) (o := 3) (s := none) (v := .int .i64 s) (by simp [go_sem]))
    | (go_at_call 23; refine (H2.out _).mono ?_; rintro e w3 ⟨r, n, rfl, hn, hown, hk3⟩; have hk : Kept (w.alloc (.cells #[.int .i64 d, .int .i64 l, .int .i64 v, .int .i64 s] 23)) w3 := (by repeat (first | exact Kept.refl _ | assumption | refine Kept.alloc ?_ _ | refine Kept.drew ?_ | refine Kept.drewN ?_ _ | refine Kept.setCell ?_ (by simp; try omega) _ | refine Kept.trans ?_ (by assumption))); have kk0 := hk.keeps (b := w.heap.size) (o := 0) (s := none) (v := .int .i64 d) (by simp [go_sem]); have kk1 := hk.keeps (b := w.heap.size) (o := 1) (s := none) (v := .int .i64 l) (by simp [go_sem]); have kk2 := hk.keeps (b := w.heap.size) (o := 2) (s := none) (v := .int .i64 v) (by simp [go_sem]); have kk3 := hk.keeps (b := w.heap.size) (o := 3) (s := none) (v := .int .i64 s) (by simp [go_sem])))
  have hn128 : 0 < n := by omega
  have hn600 : n ≤ 600 := by omega
  have hnb : (n : Int) ≤ segsF d l v s * 16 := by omega
  obtain ⟨g, cap, rfl, -, -⟩ := hown.form hn128
  have hcells : ∀ i, i < n → w3.cell? ⟨g, i * 3, none⟩ = some (.int .i64 (plV d s i)) ∧ w3.cell? ⟨g, i * 3 + 1, none⟩ = some (.int .i64 (plS d s i)) ∧ w3.cell? ⟨g, i * 3 + 2, none⟩ = some (.int .i64 (plO i)) := by
    intro i hi
    have hc := plCells_at d s n i hi
    rw [Nat.mul_comm 3 i] at hc
    exact ⟨(hown.cellAt _ (by omega)).trans hc.1, (hown.cellAt _ (by omega)).trans hc.2.1, (hown.cellAt _ (by omega)).trans hc.2.2⟩
  have Hc := hid hcells; clear hcells
  have Hn := hid hn; clear hn hown
  go_loopw [6] (fun i wr => ∃ k : Nat, k ≤ n ∧ i = .int .i64 k ∧ Kept w3 wr) (fun i _ => n - (intOf i).toNat)
  case atStart => exact ⟨0, by omega, rfl, Kept.refl _⟩
  case round =>
    obtain ⟨k, hkn, rfl, hkr⟩ := hrel
    have r0 := hkr.keeps kk0
    have r1 := hkr.keeps kk1
    have r2 := hkr.keeps kk2
    have r3 := hkr.keeps kk3
    by_cases hlt : k < n
    · obtain ⟨c0, c1, c2⟩ := Hc.out k hlt
      have c0 := hkr.keeps c0
      have c1 := hkr.keeps c1
      have c2 := hkr.keeps c2
      have hk1 : (1 : Int) ≤ (k : Int) + 1 := by omega
      have hk2 : (k : Int) + 1 ≤ segsF d l v s * 16 := by omega
      have hp := pl_where d l v s k Hm.out hk2
      have ho := of_where d l v s ((k : Int) + 1) Hm.out hk1 hk2
      rw [hp.1, hp.2.1, hp.2.2] at ho
      have HO := hid (fun w => of_at d l v s (plV d s k) (plS d s k) (plO k) ((k : Int) + 1) 0 w ho.1 ho.2)
      have HWh := hid (where_at d l v s ((k : Int) + 1) _ _ _ 0 hp.1 hp.2.1 hp.2.2 (by simp [segE, Hm.out, hk1, hk2]))
      clear hp ho
      generalize plV d s k = V at *
      generalize plS d s k = S at *
      generalize plO k = O at *
      have hi0 : (0 : Int) ≤ (k : Int) := by omega
      have hi1 : (k : Int) < (n : Int) := by omega
      have hwk : IntKind.i64.wrap ((k : Int) + 1) = (k : Int) + 1 := IntWalk.i64_in _ (by omega)
      go_wp2_with fail
      go_region_held3 (fun w' => Kept wr w' ∧ w'.cell? ⟨w.heap.size, 0, none⟩ = some (.int .i64 d) ∧ w'.cell? ⟨w.heap.size, 1, none⟩ = some (.int .i64 l) ∧ w'.cell? ⟨w.heap.size, 2, none⟩ = some (.int .i64 v) ∧ w'.cell? ⟨w.heap.size, 3, none⟩ = some (.int .i64 s) ∧
          w'.cell? ⟨g, k * 3, none⟩ = some (.int .i64 V) ∧ w'.cell? ⟨g, k * 3 + 1, none⟩ = some (.int .i64 S) ∧ w'.cell? ⟨g, k * 3 + 2, none⟩ = some (.int .i64 O))
        (first | exact ⟨(by repeat (first | exact Kept.refl _ | assumption | refine Kept.alloc ?_ _ | refine Kept.drew ?_ | refine Kept.drewN ?_ _ | refine Kept.setCell ?_ (by simp; try omega) _ | refine Kept.trans ?_ (by assumption))), by assumption, by assumption, by assumption, by assumption, by assumption, by assumption, by assumption⟩ | (go_split_ands; exact ⟨(by repeat (first | exact Kept.refl _ | assumption | refine Kept.alloc ?_ _ | refine Kept.drew ?_ | refine Kept.drewN ?_ _ | refine Kept.setCell ?_ (by simp; try omega) _ | refine Kept.trans ?_ (by assumption))), Kept.keeps (by assumption) (by assumption), Kept.keeps (by assumption) (by assumption), Kept.keeps (by assumption) (by assumption), Kept.keeps (by assumption) (by assumption), Kept.keeps (by assumption) (by assumption), Kept.keeps (by assumption) (by assumption), Kept.keeps (by assumption) (by assumption)⟩))
        (first | (go_at_call 19; refine (HO.out _).mono ?_; rintro e w2 ⟨rfl, hk2⟩))
      go_wp2_with (first | (go_at_call 20; refine (HWh.out _).mono ?_; rintro e w5 ⟨rfl, hk5⟩))
      have z5 := hk5.keeps (hk2.keeps c0)
      have z6 := hk5.keeps (hk2.keeps c1)
      have z7 := hk5.keeps (hk2.keeps c2)
      go_region_held3 (fun w' => Kept w5 w' ∧ w'.cell? ⟨g, k * 3, none⟩ = some (.int .i64 V) ∧ w'.cell? ⟨g, k * 3 + 1, none⟩ = some (.int .i64 S) ∧ w'.cell? ⟨g, k * 3 + 2, none⟩ = some (.int .i64 O) ∧
          w'.cell? ⟨w5.heap.size, 0, none⟩ = some (.int .i64 V) ∧ w'.cell? ⟨w5.heap.size, 1, none⟩ = some (.int .i64 S) ∧ w'.cell? ⟨w5.heap.size, 2, none⟩ = some (.int .i64 O))
        (first | exact ⟨(by repeat (first | exact Kept.refl _ | assumption | refine Kept.alloc ?_ _ | refine Kept.drew ?_ | refine Kept.drewN ?_ _ | refine Kept.setCell ?_ (by simp; try omega) _ | refine Kept.trans ?_ (by assumption))), by go_simp, by go_simp, by go_simp, by go_simp, by go_simp, by go_simp⟩)
        (fail)
      go_wp2
      go_roundw
      case rel => exact ⟨k + 1, by omega, by go_num, (by repeat (first | exact Kept.refl _ | assumption | refine Kept.alloc ?_ _ | refine Kept.drew ?_ | refine Kept.drewN ?_ _ | refine Kept.setCell ?_ (by simp; try omega) _ | refine Kept.trans ?_ (by assumption)))⟩
      case measure => simp [intOf]; omega
    · have hq0 : 0 ≤ sk % (segsF d l v s * 16) := Int.emod_nonneg _ (by omega)
      have hq1 : sk % (segsF d l v s * 16) < segsF d l v s * 16 := Int.emod_lt_of_pos _ (by omega)
      have hq2 : 1 + sk % (segsF d l v s * 16) ≤ segsF d l v s * 16 := by omega
      have hq3 : 1 ≤ 1 + sk % (segsF d l v s * 16) := by omega
      have ho := of_where d l v s (1 + sk % (segsF d l v s * 16)) Hm.out hq3 hq2
      have HO := hid (fun w => of_at d l v s _ _ _ _ 0 w ho.1 ho.2)
      have HW1 := hid (where_at d l v s (1 + sk % (segsF d l v s * 16)) _ _ _ 0 rfl rfl rfl (by simp [segE, Hm.out, hq3, hq2]))
      have hno : whB d l v s (segsF d l v s * 16 + 1) = false := by simp [whB]; omega
      have HW2 := hid (where_at d l v s (segsF d l v s * 16 + 1) 0 0 0 4 (by simp [whV, hno]) (by simp [whS, hno]) (by simp [whO, hno]) (by simp [segE, Hm.out]; omega))
      clear ho hno
      generalize whV d l v s (1 + sk % (segsF d l v s * 16)) = V at *
      generalize whS d l v s (1 + sk % (segsF d l v s * 16)) = S at *
      generalize whO d l v s (1 + sk % (segsF d l v s * 16)) = O at *
      clear hnb Hn
      generalize hn : segsF d l v s = N at *
      clear hn
      generalize hq : sk % (N * 16) = q at *
      have hq5 : q ≤ 100000 := by omega
      go_wp2_with (first
        | (go_at_call 13; refine (H3.out _).mono ?_; rintro e w5 ⟨rfl, hk5⟩; have r0 := hk5.keeps r0; have r1 := hk5.keeps r1; have r2 := hk5.keeps r2; have r3 := hk5.keeps r3)
        | (go_at_call 20; (with_reducible refine (HW1.out _).mono ?_); rintro e w6 ⟨rfl, hk6⟩; have r0 := hk6.keeps r0; have r1 := hk6.keeps r1; have r2 := hk6.keeps r2; have r3 := hk6.keeps r3)
        | (go_at_call 19; refine (HO.out _).mono ?_; rintro e w7 ⟨rfl, hk7⟩; have hk7' : Kept w6 w7 := (by repeat (first | exact Kept.refl _ | assumption | refine Kept.alloc ?_ _ | refine Kept.drew ?_ | refine Kept.drewN ?_ _ | refine Kept.setCell ?_ (by simp; try omega) _ | refine Kept.trans ?_ (by assumption))); have r0 := hk7'.keeps r0; have r1 := hk7'.keeps r1; have r2 := hk7'.keeps r2; have r3 := hk7'.keeps r3)
        | (go_at_call 20; (with_reducible refine (HW2.out _).mono ?_); rintro e w8 ⟨rfl, hk8⟩)
        | (go_at_call 14; refine (awake_any _).mono ?_; rintro e w2 ⟨rfl, hk2⟩))
      go_ret
      exact ⟨rfl, (by repeat (first | exact Kept.refl _ | assumption | refine Kept.alloc ?_ _ | refine Kept.drew ?_ | refine Kept.drewN ?_ _ | refine Kept.setCell ?_ (by simp; try omega) _ | refine Kept.trans ?_ (by assumption)))⟩

set_option maxRecDepth 100000 in
theorem counts_walk (d l v s sk : Int) (wf : (Lit.int .u16 sk).wf = true) (w : World) :
    Calls Try.prog 7 #[.agg #[.int .i64 d, .int .i64 l, .int .i64 v, .int .i64 s], .int .u16 sk] w fun e w' => e = .returned (.bool true) ∧ Kept w w' := by
  have ha0 : 0 ≤ sk ∧ sk ≤ 65535 := by
    simp only [Lit.wf, Bool.and_eq_true, decide_eq_true_eq] at wf
    exact wf
  clear wf
  rcases hm : mayB d l v s with _ | _
  · have H1 := hid (fun w => may_f d l v s w hm)
    clear hm
    go_enter Try.func7, Try.ntmps7
    go_wp2_with (first
      | (go_at_call 11; refine (H1.out _).mono ?_; rintro e w2 ⟨rfl, hk2⟩)
      | (go_at_call 14; refine (awake_any _).mono ?_; rintro e w2 ⟨rfl, hk2⟩))
    go_ret
    exact ⟨rfl, (by repeat (first | exact Kept.refl _ | assumption | refine Kept.alloc ?_ _ | refine Kept.drew ?_ | refine Kept.drewN ?_ _ | refine Kept.setCell ?_ (by simp; try omega) _ | refine Kept.trans ?_ (by assumption)))⟩
  · exact counts_core d l v s sk w hm ha0.1 ha0.2
end Go.Proofs.Ytlddfpecicgboaa
