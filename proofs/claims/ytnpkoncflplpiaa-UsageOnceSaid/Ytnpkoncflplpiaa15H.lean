/- usage.Empty. -/
import Derived.Test.Ytnpkoncflplpiaa15F
namespace Go.Proofs.Ytnpkoncflplpiaa
set_option linter.unusedSimpArgs false
set_option linter.unusedVariables false
open Go.RowKit Go.Shelf
attribute [local go_sem] Oper.semAt_some

def liveOn (d l v s : Int) (f : Nat → Int) (vol : Int) (k : Nat) : Bool := decide (whV d l v s ((k : Int) * 16 + 1) = vol) && decide (0 < f k)

theorem keepsO {w w1 : World} (h : Kept w w1) : KeepsOthers w w1 := ⟨h.size, fun k _ hk _ => (h.block k (Array.getElem?_eq_some_iff.1 hk).1).trans hk⟩

set_option maxRecDepth 100000 in
set_option maxHeartbeats 4000000 in
theorem empty_yes (d l v s vol : Int) (vu : Value) (n : Nat) (f g : Nat → Int) (w : World) (hU : Uses w vu n f g) (hf : ∀ k, k < n → -9223372036854775808 ≤ f k ∧ f k ≤ 9223372036854775807) (hm : mayB d l v s = true) (hn : (n : Int) = segsF d l v s) (hv0 : 0 ≤ vol) (hv1 : vol < v) :
    Calls Try.prog 23 #[.agg #[.int .i64 d, .int .i64 l, .int .i64 v, .int .i64 s], vu, .int .i64 vol] w fun e w' => e = .returned (.bool ((vals (segsTo d l v s 2 n n)).all fun k => !liveOn d l v s f vol k)) ∧ Kept w w' := by
  have hbd := segsF_bd d l v s
  have hn1 : (n : Int) ≤ 2304 := by omega
  have hvb : v ≤ 16777216 := by
    obtain ⟨b1, b2, b3, b4, b5, b6, b7, b8⟩ := mayB_of hm
    omega
  have HC := hid (covers_any d l v s vu n f g)
  rw [hm, decide_eq_true hn, Bool.and_self] at HC
  have HSEG := hid (segments_any d l v s 2)
  have HW := hid (fun k (hk : k < n) w => by
    have := where_any d l v s ((k : Int) * 16 + 1) w
    rwa [show segE d l v s ((k : Int) * 16 + 1) = 0 by rw [segE, if_pos hm, ← hn, if_pos (by omega)]] at this)
  have HM := hid hm; have HN := hid hn.symm
  have HU := hid hU; have HFR := hid hf
  obtain ⟨A, c, rfl⟩ := hU.shape
  clear hU hf hm hn
  refine (callsIn_wide (n := 6)).1 ?_
  refine callsIn_of_wp_marks Try.func23 rfl trivial ?_ rfl
  simp only [Try.ntmps23, List.size_toArray, List.length_cons, List.length_nil, Nat.reduceAdd, Nat.reduceSub, Array.replicate_succ, Array.replicate_zero, List.push_toArray, List.append_toArray, List.nil_append, List.cons_append]
  gi_wp2_with (first
    | (refine ⟨trivial, ?_⟩; gi_at_call 24; refine (callsIn_wide.2 (HC.out _ (Kept.uses (by repeat (first | exact Kept.refl _ | assumption | refine Kept.alloc ?_ _ | refine Kept.drew ?_ | refine Kept.drewN ?_ _ | refine Kept.setCell ?_ (by simp; try omega) _ | refine Kept.trans ?_ (by assumption))) HU.out))).mono ?_; rintro e w1 ⟨rfl, k1⟩; have bk0 := k1.keeps (b := w.heap.size) (o := 0) (s := none) (v := .int .i64 d) (by simp [go_sem]); have bk1 := k1.keeps (b := w.heap.size) (o := 1) (s := none) (v := .int .i64 l) (by simp [go_sem]); have bk2 := k1.keeps (b := w.heap.size) (o := 2) (s := none) (v := .int .i64 v) (by simp [go_sem]); have bk3 := k1.keeps (b := w.heap.size) (o := 3) (s := none) (v := .int .i64 s) (by simp [go_sem]); have bu := k1.keeps (b := w.heap.size + 1) (o := 0) (s := none) (v := .slice A n c) (by simp [go_sem]); have bf := k1.keeps (b := w.heap.size + 1 + 1) (o := 0) (s := none) (v := .int .i64 vol) (by simp [go_sem]); have br := k1.keeps (b := w.heap.size + 1 + 1 + 1) (o := 0) (s := none) (v := .bool false) (by simp [go_sem]); have fr := k1.free (b := w.heap.size + 1 + 1 + 1) (o := 0) (s := none) (v := .bool false) (by simp [go_sem]) (by simp [go_sem]); have K1 := hid (show Kept w w1 from (by repeat (first | exact Kept.refl _ | assumption | refine Kept.alloc ?_ _ | refine Kept.drew ?_ | refine Kept.drewN ?_ _ | refine Kept.setCell ?_ (by simp; try omega) _ | refine Kept.trans ?_ (by assumption)))); clear k1)
    | (refine ⟨trivial, ?_⟩; gi_at_call 26; refine (callsIn_wide.2 (HSEG.out _)).mono ?_; rintro e w6 ⟨rfl, rfl⟩))
  obtain ⟨W0, hW0⟩ : ∃ W0 : World, W0 = (w1.alloc (.cells #[.int .i64 d, .int .i64 l, .int .i64 v, .int .i64 s] 23)).alloc (.cells #[.int .i64 2] 3) := ⟨_, rfl⟩
  have hsz0 : W0.heap.size = w1.heap.size + 2 := by rw [hW0]; simp
  have hB0 : Kept w1 W0 := by rw [hW0]; exact ((Kept.refl w1).alloc _).alloc _
  have g0 : W0.cell? ⟨w1.heap.size, 0, none⟩ = some (.int .i64 d) := by rw [hW0]; simp [go_sem]
  have g1 : W0.cell? ⟨w1.heap.size, 1, none⟩ = some (.int .i64 l) := by rw [hW0]; simp [go_sem]
  have g2 : W0.cell? ⟨w1.heap.size, 2, none⟩ = some (.int .i64 v) := by rw [hW0]; simp [go_sem]
  have g3 : W0.cell? ⟨w1.heap.size, 3, none⟩ = some (.int .i64 s) := by rw [hW0]; simp [go_sem]
  have gt : W0.cell? ⟨w1.heap.size + 1, 0, none⟩ = some (.int .i64 2) := by rw [hW0]; simp [go_sem]
  have hrb := cell_lt br
  have hK1 := K1.out.size
  rw [← hW0]
  clear hW0
  refine' wpIn_rangeFunc_ownG (w := W0) rfl (by omega) (gf := 32) (lb := #[.pointer (some ⟨w1.heap.size, 0, none⟩), .pointer (some ⟨w1.heap.size + 1, 0, none⟩)]) rfl trivial (enters_of Try.func32 (by kernel_rfl) rfl)
    (seg_stops (6 - 1) w1.heap.size (w1.heap.size + 1) d l v s 2 n HM.out HN.out hn1 (by omega) W0 (by omega) (by omega) g0 g1 g2 g3 gt) KS.trans (KS.putObj (by omega) (by omega)) (Below.refl _ _) (fun _ => rfl)
    (fun pre W => ((∀ k, k ∈ vals pre → liveOn d l v s f vol k = false) ∧ w1.heap.size + 2 ≤ W.heap.size) ∧ Below w1.heap.size w1 W)
    (fun c pre W => ((c = .ret ∧ ∃ k, k ∈ vals pre ∧ liveOn d l v s f vol k = true) ∧ W.cell? ⟨w.heap.size + 1 + 1 + 1, 0, none⟩ = some (.bool false)) ∧ Below w.heap.size w W)
    (OwnFrom.and (Own.from (fun pre X Y row hs hg hr => ⟨hs.1, Nat.le_trans hs.2 hg.size⟩) _) (ownFrom_below (Nat.le_refl _) (by omega)))
    (fun c => OwnFrom.and (Own.from (fun pre X Y row hs hg hr => ⟨hs.1, cell_kept hs.2 hg hr⟩) _) (ownFrom_below (Nat.le_refl _) (by omega)))
    ⟨⟨by simp [vals], by omega⟩, hB0⟩ _ ?assign ?body ?done ?stop
  case assign =>
    intro l x W K hK
    gi_wp2
    exact hK
  case body =>
    rintro lo pre ⟨k, hkn, hkt⟩ W ⟨⟨hall, hW4⟩, hB⟩ hlt2
    have hK : Kept w1 W := hB
    have EM := hid (show vals (pre ++ [(⟨k, hkn, hkt⟩ : SegT d l v s 2 n)]) = vals pre ++ [k] from vals_snoc _ _)
    have wbu := hK.keeps bu
    have wbf := hK.keeps bf
    have wbr := hK.keeps br
    have wfr := hK.free br fr
    have wk0 := hK.keeps bk0; have wk1 := hK.keeps bk1; have wk2 := hK.keeps bk2; have wk3 := hK.keeps bk3
    obtain ⟨b, o, rfl, hcl⟩ := HU.out.cells (by omega)
    have wc := hK.keeps (K1.out.keeps (hcl k hkn).1)
    have HWK := hid (HW.out k hkn)
    have HL := hid (show liveOn d l v s f vol k = (decide (whV d l v s ((k : Int) * 16 + 1) = vol) && decide (0 < f k)) from rfl)
    have HK := hid hK; have HALL := hid hall
    have hwl := cell_lt wbr
    have hk1 : (k : Int) * 16 + 1 ≤ 40000 := by omega
    clear hcl hK hB hall
    generalize whV d l v s ((k : Int) * 16 + 1) = V at *
    generalize whS d l v s ((k : Int) * 16 + 1) = S at *
    generalize whO d l v s ((k : Int) * 16 + 1) = O at *
    generalize f k = x at *
    dsimp only
    by_cases hV : V = vol
    · subst hV
      by_cases hx : 0 < x
      · have HB := hid (show liveOn d l v s f V k = true by rw [HL.out]; simp [hx])
        gi_wp2_with (refine ⟨trivial, ?_⟩; gi_at_call 31; refine (CallsIn.inRound lo (callsIn_wide.2 (HWK.out _))).mono ?_; rintro e w2 ⟨rfl, k2⟩; have wbu := k2.keeps wbu; have wbf := k2.keeps wbf; have wfr := k2.free wbr wfr; have wbr := k2.keeps wbr; have wc := k2.keeps wc; have K2 := hid k2; clear k2)
        exact ⟨(((keepsO K2.out).trans (KeepsOthers.alloc _ _)).trans (KeepsOthers.setCell _ _ _)).from _, ⟨⟨rfl, k, by rw [EM.out]; simp, HB.out⟩, World.cell?_setCell_same' _ _ _ (by rw [(((Kept.refl w2).alloc _).keeps wbr)]; rfl)⟩, (((K1.out.trans HK.out).trans K2.out).alloc _).below.setCell (p := ⟨w.heap.size + 1 + 1 + 1, 0, none⟩) (by simp; omega) _⟩
      · have HB := hid (show liveOn d l v s f V k = false by rw [HL.out]; simp; omega)
        have hd : decide (0 < x) = false := decide_eq_false hx
        clear hx
        gi_wp2_with (refine ⟨trivial, ?_⟩; gi_at_call 31; refine (CallsIn.inRound lo (callsIn_wide.2 (HWK.out _))).mono ?_; rintro e w2 ⟨rfl, k2⟩; have wbu := k2.keeps wbu; have wbf := k2.keeps wbf; have wc := k2.keeps wc; have K2 := hid k2; clear k2)
        exact ⟨(((keepsO K2.out).trans (KeepsOthers.alloc _ _))).from _, (K2.out.ks (by omega) (by omega)).trans (KS.alloc _ (by have := K2.out.size; omega) (by have := K2.out.size; omega)), ⟨fun j hj => by
          rw [EM.out] at hj
          rcases List.mem_append.1 hj with h | h
          · exact HALL.out j h
          · obtain rfl : j = k := by simpa using h
            exact HB.out, by have := K2.out.size; simp; omega⟩, (HK.out.trans K2.out).alloc _⟩
    · have HB := hid (show liveOn d l v s f vol k = false by rw [HL.out]; simp [hV])
      have hne : (V == vol) = false := by simpa using hV
      gi_wp2_with (refine ⟨trivial, ?_⟩; gi_at_call 31; refine (CallsIn.inRound lo (callsIn_wide.2 (HWK.out _))).mono ?_; rintro e w2 ⟨rfl, k2⟩; have wbu := k2.keeps wbu; have wbf := k2.keeps wbf; have wc := k2.keeps wc; have K2 := hid k2; clear k2)
      exact ⟨(((keepsO K2.out).trans (KeepsOthers.alloc _ _))).from _, (K2.out.ks (by omega) (by omega)).trans (KS.alloc _ (by have := K2.out.size; omega) (by have := K2.out.size; omega)), ⟨fun j hj => by
        rw [EM.out] at hj
        rcases List.mem_append.1 hj with h | h
        · exact HALL.out j h
        · obtain rfl : j = k := by simpa using h
          exact HB.out, by have := K2.out.size; simp; omega⟩, (HK.out.trans K2.out).alloc _⟩
  case done =>
    rintro D ys W hD rfl ⟨⟨hall, hW4⟩, hB⟩ hKD
    have hK : Kept w1 W := hB
    have wbr := hK.keeps br
    have wfr := hK.free br fr
    gi_wp2
    have hK' := (KeepsOthers.setCell W ⟨w.heap.size + 1 + 1 + 1, 0, none⟩ (.bool true)).same D _ hKD rfl
    refine ⟨by simp, .inl ⟨_, _, rfl, run_takeDeferred hK', ?_⟩⟩
    have hc5 := cell_kept (World.cell?_setCell_same' W ⟨w.heap.size + 1 + 1 + 1, 0, none⟩ (.bool true) (by rw [wbr]; rfl)) (grownBy_putObj' _ D (.deferred none)) (fun r e => by cases e; exact ⟨_, hK', rfl⟩)
    refine ⟨.bool true, ?_, ?_, ((K1.out.trans hK).below.setCell (p := ⟨w.heap.size + 1 + 1 + 1, 0, none⟩) (by simp; omega) _).trans (belowK_b (w := w) (Nat.le_refl _) _ D _ _ (by omega) hK' rfl rfl)⟩
    · simp [results, Try.f23, go_sem, hc5]
    · rw [show (vals (segsTo d l v s 2 n n)).all (fun k => !liveOn d l v s f vol k) = true by
        rw [List.all_eq_true]; intro k hk; rw [hall k hk]; rfl]
  case stop =>
    rintro D c pre W hD hpre ⟨⟨⟨rfl, k, hk, hb⟩, hcr⟩, hB⟩ hKD
    gi_wp2
    refine ⟨by simp, .inl ⟨_, _, rfl, run_takeDeferred hKD, ?_⟩⟩
    have hc5 := cell_kept hcr (grownBy_putObj' _ D (.deferred none)) (fun r e => by cases e; exact ⟨_, hKD, rfl⟩)
    refine ⟨.bool false, ?_, ?_, hB.trans (belowK_b (w := w) (Nat.le_refl _) W D _ _ (by omega) hKD rfl rfl)⟩
    · simp [results, Try.f23, go_sem, hc5]
    · have hin : k ∈ vals (segsTo d l v s 2 n n) := by
        obtain ⟨x, hx, rfl⟩ := List.mem_map.1 hk
        exact List.mem_map.2 ⟨x, hpre.subset hx, rfl⟩
      rw [show (vals (segsTo d l v s 2 n n)).all (fun k => !liveOn d l v s f vol k) = false by
        rw [List.all_eq_false]; exact ⟨k, hin, by simp [hb]⟩]
end Go.Proofs.Ytnpkoncflplpiaa
