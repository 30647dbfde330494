/- usage.Tier. -/
import Derived.Test.Ytnpkoncflplpiaa15W
import Derived.Test.Ytnpkoncflplpiaa15H
import Derived.RegionIn
namespace Go.Proofs.Ytnpkoncflplpiaa
set_option linter.unusedSimpArgs false
set_option linter.unusedVariables false
open Go.RowKit Go.Shelf
attribute [local go_sem] Oper.semAt_some

def TierPost (u b : Int) (w : World) (e : Ending) (w' : World) : Prop := e = .returned (.tuple #[.int .i64 u, .int .i64 b]) ∧ Kept w w'
/-- two boxed numbers -/
def TwoI (W : World) (B1 B2 : Nat) (a b : Int) : Prop := Boxed W B1 3 (.int .i64 a) ∧ Boxed W B2 3 (.int .i64 b)
theorem TwoI.own (B1 B2 : Nat) (a b : Int) {W W' : World} {row : Option Nat} (h : TwoI W B1 B2 a b) (hg : W.grownBy W' row) (hr : ∀ r, row = some r → ∃ o : Obj, W.heap[r]? = some o ∧ o.isCells = false) : TwoI W' B1 B2 a b := by
  have key : ∀ {B : Nat} {v : Value}, Boxed W B 3 v → Boxed W' B 3 v := by
    intro B v h
    refine h.kept hg (fun e => ?_)
    obtain ⟨o, ho, hc⟩ := hr B e.symm
    rw [show W.heap[B]? = _ from h] at ho; cases ho; cases hc
  exact ⟨key h.1, key h.2⟩

theorem TwoI.step {W w1 : World} {H1 : Nat} {a b : Int} (h : TwoI W H1 (H1 + 1) a b) (hB : Below H1 w1 W) (hs : H1 + 4 ≤ W.heap.size) (a' b' : Int) (W2 : World)
    (e : W2 = ((W.setCell ⟨H1, 0, none⟩ (.int .i64 a')).setCell ⟨H1 + 1, 0, none⟩ (.int .i64 b')).drew) :
    KeepsOthers W W2 ∧ KS (H1 + 1 + 1) (H1 + 1 + 1 + 1) W W2 ∧ (TwoI W2 H1 (H1 + 1) a' b' ∧ H1 + 4 ≤ W2.heap.size) ∧ Below H1 w1 W2 := by
  subst e
  refine ⟨((KeepsOthers.setCell W _ _).trans (KeepsOthers.setCell _ _ _)).trans (KeepsOthers.drew _), ⟨⟨?_, ?_⟩, by simp [World.setCell]⟩, ⟨⟨?_, ?_⟩, by simpa [World.setCell] using hs⟩, ((hB.setCell (p := ⟨H1, 0, none⟩) (Nat.le_refl _) _).setCell (p := ⟨H1 + 1, 0, none⟩) (Nat.le_succ _) _).drew⟩
  · exact (Below.heap_setCell _ _ _ _ (by simp)).trans (Below.heap_setCell _ _ _ _ (by show H1 + 1 + 1 ≠ H1; omega))
  · exact (Below.heap_setCell _ _ _ _ (by show H1 + 1 + 1 + 1 ≠ H1 + 1; omega)).trans (Below.heap_setCell _ _ _ _ (by show H1 + 1 + 1 + 1 ≠ H1; omega))
  · exact (Below.heap_setCell _ _ _ _ (by show H1 ≠ H1 + 1; omega)).trans (h.1.set _)
  · have h2 : Boxed (W.setCell ⟨H1, 0, none⟩ (.int .i64 a')) (H1 + 1) 3 (.int .i64 b) := (Below.heap_setCell _ _ _ _ (by show H1 + 1 ≠ H1; omega)).trans h.2
    exact h2.set _

set_option maxRecDepth 100000 in
set_option maxHeartbeats 4000000 in
theorem tier_yes (d l v s t : Int) (vu : Value) (n : Nat) (f g : Nat → Int) (w : World) (hU : Uses w vu n f g) (hf : ∀ k, k < n → 0 ≤ f k ∧ f k ≤ 60) (hm : mayB d l v s = true) (hn : (n : Int) = segsF d l v s) :
    Calls Try.prog 16 #[.agg #[.int .i64 d, .int .i64 l, .int .i64 v, .int .i64 s], vu, .int .i64 t] w (TierPost (usedF f (vals (segsTo d l v s t n n))) (sumF f (vals (segsTo d l v s t n n))) w) := by
  have hbd := segsF_bd d l v s
  have hn1 : (n : Int) ≤ 2304 := by omega
  have HC := hid (covers_any d l v s vu n f g)
  rw [hm, decide_eq_true hn, Bool.and_self] at HC
  have HSEG := hid (segments_any d l v s t)
  have HM := hid hm; have HN := hid hn.symm
  have HU := hid hU; have HFR := hid hf
  obtain ⟨A, c, rfl⟩ := hU.shape
  clear hU hf hm hn
  refine (callsIn_wide (n := 6)).1 ?_
  refine callsIn_of_wp_marks Try.func16 rfl trivial ?_ rfl
  simp only [Try.ntmps16, List.size_toArray, List.length_cons, List.length_nil, Nat.reduceAdd, Nat.reduceSub, Array.replicate_succ, Array.replicate_zero, List.push_toArray, List.append_toArray, List.nil_append, List.cons_append]
  gi_wp2_with (first
    | (refine ⟨trivial, ?_⟩; gi_at_call 24; refine (callsIn_wide.2 (HC.out _ (Kept.uses (by repeat (first | exact Kept.refl _ | assumption | refine Kept.alloc ?_ _ | refine Kept.drew ?_ | refine Kept.drewN ?_ _ | refine Kept.setCell ?_ (by simp; try omega) _ | refine Kept.trans ?_ (by assumption))) HU.out))).mono ?_; rintro e w1 ⟨rfl, k1⟩; have bk0 := k1.keeps (b := w.heap.size) (o := 0) (s := none) (v := .int .i64 d) (by simp [go_sem]); have bk1 := k1.keeps (b := w.heap.size) (o := 1) (s := none) (v := .int .i64 l) (by simp [go_sem]); have bk2 := k1.keeps (b := w.heap.size) (o := 2) (s := none) (v := .int .i64 v) (by simp [go_sem]); have bk3 := k1.keeps (b := w.heap.size) (o := 3) (s := none) (v := .int .i64 s) (by simp [go_sem]); have bu := k1.keeps (b := w.heap.size + 1) (o := 0) (s := none) (v := .slice A n c) (by simp [go_sem]); have K1 := hid (show Kept w w1 from (by repeat (first | exact Kept.refl _ | assumption | refine Kept.alloc ?_ _ | refine Kept.drew ?_ | refine Kept.drewN ?_ _ | refine Kept.setCell ?_ (by simp; try omega) _ | refine Kept.trans ?_ (by assumption)))); clear k1)
    | (refine ⟨trivial, ?_⟩; gi_at_call 26; refine (callsIn_wide.2 (HSEG.out _)).mono ?_; rintro e w6 ⟨rfl, rfl⟩))
  obtain ⟨H1, hH1⟩ : ∃ H1, H1 = w1.heap.size := ⟨_, rfl⟩
  obtain ⟨W0, hW0⟩ : ∃ W0 : World, W0 = (((w1.alloc (.cells #[.int .i64 0] 3)).alloc (.cells #[.int .i64 0] 3)).alloc (.cells #[.int .i64 d, .int .i64 l, .int .i64 v, .int .i64 s] 23)).alloc (.cells #[.int .i64 t] 3) := ⟨_, rfl⟩
  have hsz0 : W0.heap.size = H1 + 4 := by rw [hW0, hH1]; simp
  have hB0 : Below H1 w1 W0 := by rw [hW0, hH1]; exact (((((Kept.refl w1).alloc _).alloc _).alloc _).alloc _).below
  have g0 : W0.cell? ⟨H1 + 1 + 1, 0, none⟩ = some (.int .i64 d) := by rw [hW0, hH1]; simp [go_sem]
  have g1 : W0.cell? ⟨H1 + 1 + 1, 1, none⟩ = some (.int .i64 l) := by rw [hW0, hH1]; simp [go_sem]
  have g2 : W0.cell? ⟨H1 + 1 + 1, 2, none⟩ = some (.int .i64 v) := by rw [hW0, hH1]; simp [go_sem]
  have g3 : W0.cell? ⟨H1 + 1 + 1, 3, none⟩ = some (.int .i64 s) := by rw [hW0, hH1]; simp [go_sem]
  have gt : W0.cell? ⟨H1 + 1 + 1 + 1, 0, none⟩ = some (.int .i64 t) := by rw [hW0, hH1]; simp [go_sem]
  have hTwo : TwoI W0 H1 (H1 + 1) 0 0 := by
    have bO := (((Boxed.new w1 3 (.int .i64 0)).alloc (.cells #[.int .i64 0] 3)).alloc (.cells #[.int .i64 d, .int .i64 l, .int .i64 v, .int .i64 s] 23)).alloc (.cells #[.int .i64 t] 3)
    have bB := ((Boxed.new (w1.alloc (.cells #[.int .i64 0] 3)) 3 (.int .i64 0)).alloc (.cells #[.int .i64 d, .int .i64 l, .int .i64 v, .int .i64 s] 23)).alloc (.cells #[.int .i64 t] 3)
    rw [World.size_alloc] at bB
    rw [hW0, hH1]
    exact ⟨bO, bB⟩
  rw [← hW0, ← hH1]
  have hwl := cell_lt bu
  have hk1s := K1.out.size
  rw [← hH1] at hwl
  have HH := hid hH1
  clear hW0 hH1
  refine' wpIn_rangeFunc_ownG (w := W0) rfl (by omega) (gf := 32) (lb := #[.pointer (some ⟨H1 + 1 + 1, 0, none⟩), .pointer (some ⟨H1 + 1 + 1 + 1, 0, none⟩)]) rfl trivial (enters_of Try.func32 (by kernel_rfl) rfl)
    (seg_stops (6 - 1) (H1 + 1 + 1) (H1 + 1 + 1 + 1) d l v s t n HM.out HN.out hn1 (by omega) W0 (by omega) (by omega) g0 g1 g2 g3 gt) KS.trans (KS.putObj (by omega) (by omega)) (Below.refl _ _) (fun _ => rfl)
    (fun pre W => (TwoI W H1 (H1 + 1) (usedF f (vals pre)) (sumF f (vals pre)) ∧ H1 + 4 ≤ W.heap.size) ∧ Below H1 w1 W)
    (fun _ _ _ => False)
    (OwnFrom.and (Own.from (fun pre X Y row hs hg hr => ⟨TwoI.own _ _ _ _ hs.1 hg hr, Nat.le_trans hs.2 hg.size⟩) _) (ownFrom_below (by rw [← HH.out]; exact Nat.le_refl _) (by omega)))
    (fun _ _ _ _ _ hs _ _ => hs)
    ⟨⟨hTwo, by omega⟩, hB0⟩ _ ?assign ?body ?done ?stop
  case assign =>
    intro l x W K hK
    gi_wp2
    exact hK
  case body =>
    rintro lo pre ⟨k, hkn, hkt⟩ W ⟨⟨hT, hT4⟩, hB⟩ hlt2
    have hK : Kept w1 W := by unfold Kept; rw [← HH.out]; exact hB
    have wbu := hK.keeps bu
    obtain ⟨b, o, rfl, hcl⟩ := HU.out.cells (by omega)
    have wc := hK.keeps (K1.out.keeps (hcl k hkn).1)
    clear hcl
    have EM := hid (show vals (pre ++ [(⟨k, hkn, hkt⟩ : SegT d l v s t n)]) = vals pre ++ [k] from vals_snoc _ _)
    have hfk := HFR.out k hkn
    have hul := usedF_le f (vals pre)
    have hsb := sumF_bd f n HFR.out (vals pre) (vals_mem pre)
    rw [vals_len] at hul hsb
    have HB := hid hB; have HTW := hid hT
    clear hK hB hT
    have hbl : b < w.heap.size := by
      obtain ⟨b', o', hA, hcl⟩ := HU.out.cells (by omega)
      cases hA
      exact cell_lt (hcl k hkn).1
    have hb1 : ¬ b = H1 := by omega
    have hb2 : ¬ H1 = b := by omega
    have hb3 : ¬ b = H1 + 1 := by omega
    have hb4 : ¬ H1 + 1 = b := by omega
    have hw1 : ¬ w.heap.size + 1 = H1 := by omega
    have hw2 : ¬ H1 = w.heap.size + 1 := by omega
    have hw3 : ¬ w.heap.size = H1 := by omega
    have hw4 : ¬ H1 = w.heap.size := by omega
    have d1 := HTW.out.1.cell
    have e1 := HTW.out.1.frozen
    have d2 := HTW.out.2.cell
    have e2 := HTW.out.2.frozen
    dsimp only
    by_cases hx : 0 < f k
    · have HUY := hid (usedF_yes (ks := vals pre) hx)
      have HSY := hid (sumF_snoc f (vals pre) k)
      generalize usedF f (vals pre) = u at *
      generalize sumF f (vals pre) = q at *
      generalize f k = x at *
      have hwrap : IntKind.i64.wrap (q + x) = q + x := IntWalk.i64_in _ (by omega)
      gi_wp2
      gi_region
      all_goals (
        obtain ⟨s1, s2, s3, s4⟩ := HTW.out.step HB.out hT4 _ _ _ rfl
        exact ⟨s1.from _, s2, by rw [EM.out, HUY.out, HSY.out]; exact s3, s4⟩)
    · have HUY := hid (usedF_no (ks := vals pre) hx)
      have HSY := hid (show sumF f (vals pre ++ [k]) = sumF f (vals pre) by rw [sumF_snoc]; omega)
      generalize usedF f (vals pre) = u at *
      generalize sumF f (vals pre) = q at *
      generalize f k = x at *
      gi_wp2
      exact ⟨(KeepsOthers.refl W).from _, KS.refl _ _ W, ⟨by rw [EM.out, HUY.out, HSY.out]; exact HTW.out, hT4⟩, HB.out⟩
  case done =>
    rintro D ys W hD rfl ⟨⟨hT, hT4⟩, hB⟩ hKD
    have d1 := hT.1.cell
    have d2 := hT.2.cell
    have HTW := hid hT; have HB := hid hB
    generalize usedF f (vals (segsTo d l v s t n n)) = u at *
    generalize sumF f (vals (segsTo d l v s t n n)) = q at *
    clear hT hB
    gi_wp2
    gi_region
    all_goals (
      gi_wp2
      have hKD' : W.drew.heap[D]? = some (Obj.deferred (some [])) := hKD
      refine ⟨by simp, .inl ⟨_, _, rfl, run_takeDeferred hKD', ?_⟩⟩
      have hkW : Kept w1 W := by unfold Kept; rw [← HH.out]; exact HB.out
      exact ⟨_, results_tmp2 rfl _ _ _, rfl, ((K1.out.trans hkW).drew).below.trans (belowK_b (w := w) (Nat.le_refl _) W.drew D _ _ (by omega) hKD' rfl rfl)⟩)
  case stop =>
    rintro D c pre W _ _ h _
    exact h.elim
end Go.Proofs.Ytnpkoncflplpiaa
