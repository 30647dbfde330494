/- usage.segments: the iterator over the segments of a tier: its contract. -/
import Derived.RangeFuncNested
import Derived.RangeFuncBound
import Derived.RangeFuncCalls
import Derived.RangeFuncLeaves
import Derived.Shelf.Abstract
import Derived.Shelf.RegionOpen
import Derived.WalkKit
import Derived.OwnWalkIn
import Derived.TacticsInMore
import Derived.LoopNIn
import Derived.LoopIn
import Derived.Stop.RegionWithIn
import Derived.Maps.OwnIn
import Derived.Maps.AppendAt
import Derived.Test.Ytnpkoncflplpiaa15C
namespace Go.Proofs.Ytnpkoncflplpiaa
set_option linter.unusedSimpArgs false
set_option linter.unusedVariables false
open Go.RowKit Go.Shelf
attribute [local go_sem] Oper.semAt_some

/-- the iterator's own two blocks lie as they lay -/
def KS (Bg Bt : Nat) (W W' : World) : Prop := (W'.heap[Bg]? = W.heap[Bg]? ∧ W'.heap[Bt]? = W.heap[Bt]?) ∧ W.heap.size ≤ W'.heap.size
theorem KS.refl (Bg Bt : Nat) (W : World) : KS Bg Bt W W := ⟨⟨rfl, rfl⟩, Nat.le_refl _⟩
theorem KS.trans {Bg Bt : Nat} {A B C : World} (h : KS Bg Bt A B) (k : KS Bg Bt B C) : KS Bg Bt A C := ⟨⟨k.1.1.trans h.1.1, k.1.2.trans h.1.2⟩, Nat.le_trans h.2 k.2⟩
theorem KS.cellG {Bg Bt : Nat} {A B : World} (h : KS Bg Bt A B) {o : Nat} {s : Option Nat} : B.cell? ⟨Bg, o, s⟩ = A.cell? ⟨Bg, o, s⟩ := World.cell?_of_block (w := A) h.1.1
theorem KS.cellT {Bg Bt : Nat} {A B : World} (h : KS Bg Bt A B) {o : Nat} {s : Option Nat} : B.cell? ⟨Bt, o, s⟩ = A.cell? ⟨Bt, o, s⟩ := World.cell?_of_block (w := A) h.1.2
theorem KS.drew {Bg Bt : Nat} {A B : World} (h : KS Bg Bt A B) : KS Bg Bt A B.drew := h
theorem Kept.ks {w w1 : World} (h : Kept w w1) {Bg Bt : Nat} (hg : Bg < w.heap.size) (ht : Bt < w.heap.size) : KS Bg Bt w w1 := ⟨⟨h.block _ hg, h.block _ ht⟩, h.size⟩
theorem KS.putObj {Bg Bt : Nat} {w : World} (hg : Bg < w.heap.size) (ht : Bt < w.heap.size) (W : World) (l : Nat) (o o' : Obj) (hl : w.heap.size ≤ l) (h : W.heap[l]? = some o) (_ : o.isCells = false) (_ : o.isWalk = false) : KS Bg Bt W (W.putObj l o') := by
  have hlt := (Array.getElem?_eq_some_iff.1 h).1
  have hg' := grownBy_putObj' W l o'
  exact ⟨⟨hg'.block _ (by omega) (fun e => by cases e; omega), hg'.block _ (by omega) (fun e => by cases e; omega)⟩, hg'.size⟩
theorem Kept.grownNone {w w1 : World} (h : Kept w w1) : w.grownBy w1 none := ⟨h.os, h.tape, h.output, h.size, fun k hk _ => h.block k hk⟩
/-- the segments of a tier -/
abbrev SegT (d l v s t : Int) (N : Nat) := { k : Nat // k < N ∧ tierF d l v s ((k : Int) * 16 + 1) = t }
def segsTo (d l v s t : Int) (N : Nat) : Nat → List (SegT d l v s t N)
  | 0 => []
  | k + 1 => if h : k < N ∧ tierF d l v s ((k : Int) * 16 + 1) = t then segsTo d l v s t N k ++ [⟨k, h⟩] else segsTo d l v s t N k
theorem segsTo_len (d l v s t : Int) (N k : Nat) : (segsTo d l v s t N k).length ≤ k := by
  induction k with
  | zero => simp [segsTo]
  | succ k ih => rw [segsTo]; split <;> (try simp) <;> omega
theorem segsTo_pre (d l v s t : Int) (N k m : Nat) : segsTo d l v s t N k <+: segsTo d l v s t N (k + m) := by
  induction m with
  | zero => exact List.prefix_refl _
  | succ m ih =>
    rw [← Nat.add_assoc, segsTo]
    split
    · exact ih.trans (List.prefix_append _ _)
    · exact ih
theorem first_at (d l v s : Int) (N k : Nat) (hm : mayB d l v s = true) (hN : segsF d l v s = (N : Int)) (hk : k < N) (w : World) :
    Calls Try.prog 25 #[.agg #[.int .i64 d, .int .i64 l, .int .i64 v, .int .i64 s], .int .i64 k] w fun e w' => e = .returned (.tuple #[.int .i64 ((k : Int) * 16 + 1), .int .i64 0]) ∧ Kept w w' := by
  have := first_any d l v s k w
  rw [show firstN d l v s k = (k : Int) * 16 + 1 by simp [firstN, hm, hN]; omega, show firstE d l v s k = 0 by simp [firstE, hm, hN]; omega] at this
  exact this

set_option maxRecDepth 100000 in
set_option maxHeartbeats 2000000 in
theorem seg1_in (n lo Bg Bt : Nat) (d l v s t : Int) (N : Nat) (hm : mayB d l v s = true) (hN : segsF d l v s = (N : Int)) (hN1 : (N : Int) ≤ 2304) (hn : 1 ≤ n) (J Jx : List (SegT d l v s t N) → World → Prop) (W0 : World)
    (hJ : AbidesFrom W0.heap.size J)
    (hY : ∀ pre x W, J pre W → pre.length < N → YieldAt Fence.wide (n - 1) Try.prog lo #[.int .i64 (x.1 : Int), .int .i64 ((x.1 : Int) * 16 + 1)] W fun e W' =>
      (e = .returned (.bool true) ∧ J (pre ++ [x]) W' ∧ KS Bg Bt W W') ∨ (e = .returned (.bool false) ∧ Jx (pre ++ [x]) W'))
    (hBg : Bg < W0.heap.size) (hBt : Bt < W0.heap.size)
    (g0 : W0.cell? ⟨Bg, 0, none⟩ = some (.int .i64 d)) (g1 : W0.cell? ⟨Bg, 1, none⟩ = some (.int .i64 l)) (g2 : W0.cell? ⟨Bg, 2, none⟩ = some (.int .i64 v)) (g3 : W0.cell? ⟨Bg, 3, none⟩ = some (.int .i64 s))
    (gt : W0.cell? ⟨Bt, 0, none⟩ = some (.int .i64 t)) (h0 : J [] W0) :
    CallsIn Fence.wide n Try.prog 32 #[.func (.yield lo) #[] #[], .pointer (some ⟨Bg, 0, none⟩), .pointer (some ⟨Bt, 0, none⟩)] W0 fun e W' => (∃ v, e = .returned v) ∧
      ((∃ ys, ys = segsTo d l v s t N N ∧ J ys W') ∨ (∃ pre, pre <+: segsTo d l v s t N N ∧ Jx pre W')) := by
  have HSG := hid (segs_any d l v s)
  rw [hN] at HSG
  have HFI := hid (fun k hk w => first_at d l v s N k hm hN hk w)
  have HTI := hid (fun a w => tier_any d l v s a w)
  have HJ := hid (fun pre (A B : World) (h : Kept A B) (hj : J pre A) => hJ pre A B none hj h.grownNone (fun r e => by cases e))
  have HY := hid hY
  have HM := hid hm; have HNN := hid hN
  have H0 := hid h0
  clear hm hN hY h0 hJ
  refine callsIn_of_wp Try.func32 rfl trivial ?_ rfl
  simp only [Try.ntmps32, List.size_toArray, List.length_cons, List.length_nil, Nat.reduceAdd, Nat.reduceSub, Array.replicate_succ, Array.replicate_zero, List.push_toArray, List.append_toArray, List.nil_append, List.cons_append]
  gi_wp2_with (refine ⟨trivial, ?_⟩; gi_at_call 19; refine (callsIn_wide.2 (HSG.out _)).mono ?_; rintro e w1 ⟨rfl, k1⟩; have hb1 := k1.ks hBg hBt; have B1 := hid hb1; have J1 := hid (HJ.out _ _ _ k1 H0.out); clear k1 hb1)
  gi_loopw [9] (fun t' wr => ∃ k : Nat, k ≤ N ∧ t' = .int .i64 k ∧ J (segsTo d l v s t N k) wr ∧ KS Bg Bt W0 wr) (fun t' _ => N - (intOf t').toNat)
  case atStart => exact ⟨0, by omega, rfl, J1.out, B1.out⟩
  case round =>
    obtain ⟨k, hk, rfl, hjk, hbk⟩ := hrel
    have JK := hid hjk; have BK := hid hbk
    have c0 := (hbk.cellG).trans g0
    have c1 := (hbk.cellG).trans g1
    have c2 := (hbk.cellG).trans g2
    have c3 := (hbk.cellG).trans g3
    have ct := (hbk.cellT).trans gt
    have hsz := hbk.2
    clear hjk hbk
    by_cases hlt : k < N
    · have HF := hid (HFI.out k hlt)
      have HT := hid (HTI.out ((k : Int) * 16 + 1))
      have hkk : (k : Int) * 16 + 1 ≤ 40000 := by omega
      gi_wp2_with (refine ⟨trivial, ?_⟩; gi_at_call 25; refine (callsIn_wide.2 (HF.out _)).mono ?_; rintro e w2 ⟨rfl, k2⟩; have d0 := k2.keeps c0; have d1 := k2.keeps c1; have d2 := k2.keeps c2; have d3 := k2.keeps c3; have dt := k2.keeps ct; have B2 := hid (BK.out.trans (k2.ks (by omega) (by omega))); have J2 := hid (HJ.out _ _ _ k2 JK.out); clear k2)
      have HS := hid (show segsTo d l v s t N (k + 1) = if h : k < N ∧ tierF d l v s ((k : Int) * 16 + 1) = t then segsTo d l v s t N k ++ [⟨k, h⟩] else segsTo d l v s t N k from rfl)
      clear c0 c1 c2 c3 ct
      by_cases htt : tierF d l v s ((k : Int) * 16 + 1) = t
      · rw [htt] at HT
        have hne : (t != t) = false := by simp
        have HX := hid (And.intro hlt htt)
        clear htt
        gi_region_with ((refine ⟨trivial, ?_⟩; gi_at_call 18; refine (callsIn_wide.2 (HT.out _)).mono ?_; rintro e w3 ⟨rfl, k3⟩; have dt3 := k3.keeps (b := Bt) (o := 0) (s := none) (v := .int .i64 t) dt))
        all_goals
          have J3 := HJ.out _ _ _ k3 (HJ.out _ _ _ (Kept.refl _).drew J2.out)
          have B3 := hid ((B2.out.drew).trans (k3.ks (by have := B2.out.2; simp; omega) (by have := B2.out.2; simp; omega)))
          obtain ⟨fn, tmps, assign, body, hy, hR⟩ := HY.out _ ⟨k, HX.out⟩ w3 J3 (by have := segsTo_len d l v s t N k; omega)
          dsimp only at hy hR
          clear J3 k3
          simp only [List.getElem_toArray, List.getElem_cons_succ, List.getElem_cons_zero]
          gi_step
          gi_step
          go_simp
          gi_wp2
          refine hR.mono ?_
          rintro e W3 (⟨rfl, hJ3, hk3⟩ | ⟨rfl, hJx3⟩)
          · gi_wp2
            go_roundw
            case rel => exact ⟨k + 1, by omega, by go_num, by rw [HS.out, dif_pos HX.out]; exact hJ3, B3.out.trans hk3⟩
            case measure => simp [intOf]; omega
          · gi_wp2
            refine bodyPost_ret (results_none rfl _ _ _) rfl ?_
            exact ⟨⟨_, rfl⟩, .inr ⟨segsTo d l v s t N (k + 1), by (have hp := segsTo_pre d l v s t N (k + 1) (N - (k + 1))); (rw [show k + 1 + (N - (k + 1)) = N by omega] at hp); exact hp, by rw [HS.out, dif_pos HX.out]; exact hJx3⟩⟩
      · have HS' := hid (show segsTo d l v s t N (k + 1) = segsTo d l v s t N k by rw [HS.out, dif_neg (fun h => htt h.2)])
        clear HS
        obtain ⟨tt, he⟩ : ∃ x, x = tierF d l v s ((k : Int) * 16 + 1) := ⟨_, rfl⟩
        rw [← he] at HT htt
        clear he
        have hne : (tt != t) = true := by simpa using htt
        clear htt
        gi_region_with ((refine ⟨trivial, ?_⟩; gi_at_call 18; refine (callsIn_wide.2 (HT.out _)).mono ?_; rintro e w3 ⟨rfl, k3⟩; have dt3 := k3.keeps (b := Bt) (o := 0) (s := none) (v := .int .i64 t) dt))
        all_goals
          simp only [List.getElem_toArray, List.getElem_cons_succ, List.getElem_cons_zero]
          gi_step
          gi_step
          go_simp
          gi_wp2
          go_roundw
          case rel => exact ⟨k + 1, by omega, by go_num, by rw [HS'.out]; exact HJ.out _ _ _ k3 (HJ.out _ _ _ (Kept.refl _).drew J2.out), (B2.out.drew).trans (k3.ks (by have := B2.out.2; simp; omega) (by have := B2.out.2; simp; omega))⟩
          case measure => simp [intOf]; omega
    · obtain rfl : k = N := by omega
      gi_wp2
      go_end0
      exact ⟨⟨_, rfl⟩, .inl ⟨_, rfl, JK.out⟩⟩
theorem seg_stops (n Bg Bt : Nat) (d l v s t : Int) (N : Nat) (hm : mayB d l v s = true) (hN : segsF d l v s = (N : Int)) (hN1 : (N : Int) ≤ 2304) (hn : 1 ≤ n) (w : World) (hBg : Bg < w.heap.size) (hBt : Bt < w.heap.size)
    (g0 : w.cell? ⟨Bg, 0, none⟩ = some (.int .i64 d)) (g1 : w.cell? ⟨Bg, 1, none⟩ = some (.int .i64 l)) (g2 : w.cell? ⟨Bg, 2, none⟩ = some (.int .i64 v)) (g3 : w.cell? ⟨Bg, 3, none⟩ = some (.int .i64 s)) (gt : w.cell? ⟨Bt, 0, none⟩ = some (.int .i64 t)) :
    SeqStopsK Fence.wide n Try.prog 32 #[.pointer (some ⟨Bg, 0, none⟩), .pointer (some ⟨Bt, 0, none⟩)] (fun x : SegT d l v s t N => #[.int .i64 (x.1 : Int), .int .i64 ((x.1 : Int) * 16 + 1)]) (KS Bg Bt)
      (fun ys => ys = segsTo d l v s t N N) (fun pre => pre <+: segsTo d l v s t N N) N w := fun lo J Jx W hW hJ hJx hY h0 =>
  seg1_in n lo Bg Bt d l v s t N hm hN hN1 hn J Jx W hJ hY (by have := hW.size; omega) (by have := hW.size; omega) ((hW.cell (p := ⟨Bg, 0, none⟩) hBg).trans g0) ((hW.cell (p := ⟨Bg, 1, none⟩) hBg).trans g1) ((hW.cell (p := ⟨Bg, 2, none⟩) hBg).trans g2) ((hW.cell (p := ⟨Bg, 3, none⟩) hBg).trans g3) ((hW.cell (p := ⟨Bt, 0, none⟩) hBt).trans gt) h0

/-- segments(g, tier): the two are boxed; the function value captures the boxes. -/
theorem segments_any (d l v s t : Int) (w : World) : Calls Try.prog 26 #[.agg #[.int .i64 d, .int .i64 l, .int .i64 v, .int .i64 s], .int .i64 t] w fun e w' =>
    e = .returned (.func (.func 32) #[] #[.pointer (some ⟨w.heap.size, 0, none⟩), .pointer (some ⟨w.heap.size + 1, 0, none⟩)]) ∧ w' = (w.alloc (.cells #[.int .i64 d, .int .i64 l, .int .i64 v, .int .i64 s] 23)).alloc (.cells #[.int .i64 t] 3) := by
  go_enter Try.func26, Try.ntmps26
  go_wp2
  go_ret
  exact ⟨rfl, rfl⟩

theorem covers_any (d l v s : Int) (vu : Value) (n : Nat) (f g : Nat → Int) (w : World) (hU : Uses w vu n f g) :
    Calls Try.prog 24 #[.agg #[.int .i64 d, .int .i64 l, .int .i64 v, .int .i64 s], vu] w fun e w' => e = .returned (.bool (mayB d l v s && decide ((n : Int) = segsF d l v s))) ∧ Kept w w' := by
  obtain ⟨A, c, rfl⟩ := hU.shape
  by_cases hm : mayB d l v s = true
  · rw [hm]
    have H1 := hid (may_t d l v s · hm)
    have H2 := hid (segs_any d l v s)
    obtain ⟨N, hN⟩ : ∃ N : Nat, segsF d l v s = (N : Int) := ⟨(segsF d l v s).toNat, by have := segsF_bd d l v s; omega⟩
    have hn63 : (n : Int) ≤ 9223372036854775807 := by have := hU.len; omega
    rw [hN] at H2 ⊢
    clear hN hU hm
    go_enter Try.func24, Try.ntmps24
    go_wp2_with (first
      | (go_at_call 17; refine (H1.out _).mono ?_; rintro e w1 ⟨rfl, k1⟩; have bk0 := k1.keeps (b := w.heap.size) (o := 0) (s := none) (v := .int .i64 d) (by simp [go_sem]); have bk1 := k1.keeps (b := w.heap.size) (o := 1) (s := none) (v := .int .i64 l) (by simp [go_sem]); have bk2 := k1.keeps (b := w.heap.size) (o := 2) (s := none) (v := .int .i64 v) (by simp [go_sem]); have bk3 := k1.keeps (b := w.heap.size) (o := 3) (s := none) (v := .int .i64 s) (by simp [go_sem]))
      | (go_at_call 19; refine (H2.out _).mono ?_; rintro e w2 ⟨rfl, k2⟩))
    go_ret
    exact ⟨by congr 2, (by repeat (first | exact Kept.refl _ | assumption | refine Kept.alloc ?_ _ | refine Kept.drew ?_ | refine Kept.drewN ?_ _ | refine Kept.setCell ?_ (by simp; try omega) _ | refine Kept.trans ?_ (by assumption)))⟩
  · have hm' : mayB d l v s = false := by simpa using hm
    rw [hm']
    have H1 := hid (may_f d l v s · hm')
    clear hm hm' hU
    go_enter Try.func24, Try.ntmps24
    go_wp2_with (go_at_call 17; refine (H1.out _).mono ?_; rintro e w1 ⟨rfl, k1⟩)
    go_ret
    exact ⟨by simp, (by repeat (first | exact Kept.refl _ | assumption | refine Kept.alloc ?_ _ | refine Kept.drew ?_ | refine Kept.drewN ?_ _ | refine Kept.setCell ?_ (by simp; try omega) _ | refine Kept.trans ?_ (by assumption)))⟩
end Go.Proofs.Ytnpkoncflplpiaa
