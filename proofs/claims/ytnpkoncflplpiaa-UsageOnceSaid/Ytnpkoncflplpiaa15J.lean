/- haymowlaw15.awake: the walk. -/
import Derived.Test.Ytnpkoncflplpiaa15I
namespace Go.Proofs.Ytnpkoncflplpiaa
set_option linter.unusedSimpArgs false
set_option linter.unusedVariables false
open Go.RowKit

theorem eq_use (a b c d : Int) (W : World) : (Go.binOp .eql 54 (.agg #[.int .i64 a, .int .i64 b]) (.agg #[.int .i64 c, .int .i64 d])).run Try.prog W = .ok (.bool (a == c && b == d)) W := by
  have hp : Try.prog.stoodInHeld 54 = false := by kernel_rfl
  have hfd : Try.prog.underlying 54 = some (.struct (Try.prog.fieldsOf 54)) := by kernel_rfl
  rw [run_eql_struct, show (10000 : Nat) = 9999 + 1 from rfl, run_equalIn_agg W 9999 54 _ _ hfd hp]
  have hf : (Try.prog.fieldsOf 54).toList.map (fun f => (f.name, f.type, f.offset)) = [("Live", 3, 0), ("Tick", 3, 1)] := by kernel_rfl
  generalize (Try.prog.fieldsOf 54).toList = l at hf
  rcases l with _ | ⟨f0, _ | ⟨f1, _ | ⟨f2, l⟩⟩⟩
  · simp at hf
  · simp at hf
  · simp only [List.map_cons, List.map_nil, List.cons.injEq, Prod.mk.injEq, and_true] at hf
    obtain ⟨⟨a1, a2, a3⟩, b1, b2, b3⟩ := hf
    have pt : ∀ (xs : Array Value) (k : Nat) (v : Value), xs[k]? = some v → (part 3 xs k).run Try.prog W = .ok v W := fun xs k v h => by simp [part, isAgg, run_underlying Try.underlying3, h]
    have ei : ∀ x y : Int, (Op.equalIn 9999 3 (.int .i64 x) (.int .i64 y)).run Try.prog W = .ok (x == y) W := fun x y => run_equalIn_int W 9998 3 .i64 .i64 _ _ Try.underlying3
    simp only [Op.eqFields, a1, a2, a3, b1, b2, b3]
    by_cases h : a = c
    · subst h
      simp [pt #[.int .i64 a, .int .i64 b] 0 _ rfl, pt #[.int .i64 a, .int .i64 b] 1 _ rfl, pt #[.int .i64 a, .int .i64 d] 0 _ rfl, pt #[.int .i64 a, .int .i64 d] 1 _ rfl, ei]
      by_cases hbd : b = d <;> simp [hbd]
    · have h' : (a == c) = false := by simpa using h
      simp [pt #[.int .i64 a, .int .i64 b] 0 _ rfl, pt #[.int .i64 c, .int .i64 d] 0 _ rfl, ei, h']
  · simp at hf
theorem eq_use_guard (xs ys : Array Value) (x y : Operand) (W : World) : (eqGuard .eql 54 x y (.agg xs) (.agg ys)).run Try.prog W = .ok () W :=
  run_eqGuard_agg W .eql 54 x y xs ys (by kernel_rfl)

theorem same_at (va vb : Value) (A : List Int) (w : World) (hA : Ints w va A) (hB : Ints w vb A) : Calls Try.prog 13 #[va, vb] w fun e w' => e = .returned (.bool true) ∧ Kept w w' := by
  have := same_any va vb A A w hA hB
  rwa [decide_eq_true rfl] at this

set_option maxRecDepth 100000 in
set_option maxHeartbeats 2000000 in
theorem awake_any (w : World) : Calls Try.prog 11 #[] w fun e w' => e = .returned (.bool true) ∧ Kept w w' := by
  have h20 : ∀ W : World, (Go.binOp .eql 54 (.agg #[.int .i64 2, .int .i64 9]) (.agg #[.int .i64 2, .int .i64 9])).run Try.prog W = .ok (.bool true) W := fun W => by rw [eq_use]; rfl
  have h21 : ∀ W : World, (Go.binOp .eql 54 (.agg #[.int .i64 1, .int .i64 2]) (.agg #[.int .i64 1, .int .i64 2])).run Try.prog W = .ok (.bool true) W := fun W => by rw [eq_use]; rfl
  have hgd := eq_use_guard
  go_enter Try.func11, Try.ntmps11
  go_wp2_with (first
    | (go_at_call 8; refine (a_cnt _ _ _ (ints_3 (by simp [go_sem]) (by simp [go_sem]) (by simp [go_sem])) (ints_3 (by simp [go_sem]) (by simp [go_sem]) (by simp [go_sem]))).mono ?_; rintro e w1 ⟨A, c, rfl, hU, k1⟩; have bk0 := k1.keeps (b := w.heap.size) (o := 0) (s := none) (v := .int .i64 10) (by simp [go_sem]); have bk1 := k1.keeps (b := w.heap.size) (o := 1) (s := none) (v := .int .i64 2) (by simp [go_sem]); have bk2 := k1.keeps (b := w.heap.size) (o := 2) (s := none) (v := .int .i64 2) (by simp [go_sem]); have bk3 := k1.keeps (b := w.heap.size) (o := 3) (s := none) (v := .int .i64 3) (by simp [go_sem]); have HU := hid hU; have K1 := hid (show Kept w w1 from (by repeat (first | exact Kept.refl _ | assumption | refine Kept.alloc ?_ _ | refine Kept.drew ?_ | refine Kept.drewN ?_ _ | refine Kept.setCell ?_ (by simp; try omega) _ | refine Kept.trans ?_ (by assumption)))); obtain ⟨b, o, rfl, hcl⟩ := hU.cells (by decide); have c0 := (hcl 0 (by decide)).1; have c1 := (hcl 0 (by decide)).2; have c2 := (hcl 10 (by decide)).1; have c3 := (hcl 10 (by decide)).2; rw [show aF 0 = 2 by decide +kernel] at c0; rw [show aG 0 = 9 by decide +kernel] at c1; rw [show aF 10 = 1 by decide +kernel] at c2; rw [show aG 10 = 2 by decide +kernel] at c3; have hcc := hU.len.1; simp only [Nat.reduceMul, Nat.add_zero, Nat.zero_mul] at c0 c1 c2 c3; clear hU hcl k1)
    | (go_at_call 14; refine (a_free _ _ _ (((Kept.refl _).alloc _).uses HU.out) (ints_1 (by simp [go_sem]))).mono ?_; rintro e w2 ⟨va, rfl, hva, k2⟩; have HV := hid hva; have KK2 := hid (((Kept.refl w1).alloc _).trans k2); have bk0 := KK2.out.keeps bk0; have bk1 := KK2.out.keeps bk1; have bk2 := KK2.out.keeps bk2; have bk3 := KK2.out.keeps bk3; clear hva k2)
    | (go_at_call 13; refine (same_at va _ [6, 7, 1, 3, 4, 5] _ (((Kept.refl w2).alloc _).ints HV.out) (ints_6 (by simp [go_sem]) (by simp [go_sem]) (by simp [go_sem]) (by simp [go_sem]) (by simp [go_sem]) (by simp [go_sem]))).mono ?_; rintro e w3 ⟨rfl, k3⟩; have KK3 := hid (((Kept.refl w2).alloc _).trans k3); have bk0 := KK3.out.keeps bk0; have bk1 := KK3.out.keeps bk1; have bk2 := KK3.out.keeps bk2; have bk3 := KK3.out.keeps bk3; clear k3)
    | (go_at_call 23; (with_reducible refine (a_empty1 _ _ ((KK2.out.trans KK3.out).uses HU.out)).mono ?_); rintro e w4 ⟨rfl, k4⟩; have KK4 := hid k4; have bk0 := KK4.out.keeps bk0; have bk1 := KK4.out.keeps bk1; have bk2 := KK4.out.keeps bk2; have bk3 := KK4.out.keeps bk3; clear k4)
    | (go_at_call 23; (with_reducible refine (a_empty0 _ _ (((KK2.out.trans KK3.out).trans KK4.out).uses HU.out)).mono ?_); rintro e w5 ⟨rfl, k5⟩; have KK5 := hid k5; clear k5))
  go_ret
  exact ⟨rfl, (((K1.out.trans KK2.out).trans KK3.out).trans KK4.out).trans KK5.out⟩

def cntN (d l v s : Int) (L T : List Int) : Nat := if cntE d l v s L T = 0 then (segsF d l v s).toNat else 0
theorem CountPost.out {d l v s : Int} {L T : List Int} {w w' : World} {e : Ending} (h : CountPost d l v s L T w e w') :
    ∃ x, e = .returned (.tuple #[x, .int .i64 (cntE d l v s L T)]) ∧ Uses w' x (cntN d l v s L T) (fun k => liveTo L k L.length) (fun k => tickTo L T k L.length) ∧ Kept w w' := by
  obtain ⟨x, he, hx, hk⟩ := h
  refine ⟨x, he, ?_, hk⟩
  rcases hx with ⟨h0, hu⟩ | ⟨h0, rfl⟩
  · rw [cntN, if_pos h0]; exact hu
  · rw [cntN, if_neg h0]; exact uses_nil _ _ _

set_option maxRecDepth 100000 in
set_option maxHeartbeats 2000000 in
theorem usage_counts_walk (d l v s : Int) (L T : List Int) (vl vt : Value) (w : World) (hL : Ints w vl L) (hT : Ints w vt T) :
    Calls Try.prog 3 #[.agg #[.int .i64 d, .int .i64 l, .int .i64 v, .int .i64 s], vl, vt] w fun e w' => e = .returned (.bool true) ∧ Kept w w' := by
  have HF := hid few_ints
  have HLL := hid hL; have HTT := hid hT
  have HC := hid (fun a b w' h1 h2 => (cntp_any d l v s (L.take 60) (T.take 60) a b w' h1 h2).mono fun _ _ => CountPost.out)
  have HR := hid (fun a b w' h1 h2 => (rcnt_any d l v s (L.take 60) (T.take 60) a b w' h1 h2).mono fun _ _ => CountPost.out)
  generalize cntE d l v s (L.take 60) (T.take 60) = c at *
  generalize cntN d l v s (L.take 60) (T.take 60) = n at *
  generalize (fun k : Nat => liveTo (L.take 60) (k : Int) (L.take 60).length) = f at *
  generalize (fun k : Nat => tickTo (L.take 60) (T.take 60) (k : Int) (L.take 60).length) = g at *
  have HS := hid (fun a b w' h1 h2 => usame_t a b n f g w' h1 h2)
  have HAW := hid awake_any
  clear hL hT
  go_enter Try.func3, Try.ntmps3
  go_wp2_with (first
    | (go_at_call 7; (with_reducible refine (HF.out L vl _ (((Kept.refl w).alloc _).ints HLL.out)).mono ?_); rintro e w1 ⟨va, rfl, ha, rfl⟩; have HA := hid ha; clear ha)
    | (go_at_call 7; (with_reducible refine (HF.out T vt _ (((Kept.refl w).alloc _).ints HTT.out)).mono ?_); rintro e w1 ⟨vb, rfl, hb, rfl⟩; have HB := hid hb; clear hb)
    | (go_at_call 8; refine (HC.out va vb _ HA.out HB.out).mono ?_; rintro e w2 ⟨x, rfl, hx, k2⟩; have bk0 := k2.keeps (b := w.heap.size) (o := 0) (s := none) (v := .int .i64 d) (by simp [go_sem]); have bk1 := k2.keeps (b := w.heap.size) (o := 1) (s := none) (v := .int .i64 l) (by simp [go_sem]); have bk2 := k2.keeps (b := w.heap.size) (o := 2) (s := none) (v := .int .i64 v) (by simp [go_sem]); have bk3 := k2.keeps (b := w.heap.size) (o := 3) (s := none) (v := .int .i64 s) (by simp [go_sem]); have HX := hid hx; have K2 := hid (((Kept.refl w).alloc _).trans k2); have HA := hid (k2.ints HA.out); have HB := hid (k2.ints HB.out); clear hx k2)
    | (go_at_call 9; refine (HR.out va vb _ HA.out HB.out).mono ?_; rintro e w3 ⟨y, rfl, hy, k3⟩; have HY := hid hy; have K3 := hid k3; clear hy k3)
    | (go_at_call 10; refine (HS.out x y _ (K3.out.uses HX.out) HY.out).mono ?_; rintro e w4 ⟨rfl, k4⟩; have K4 := hid k4; clear k4)
    | (go_at_call 11; refine (HAW.out _).mono ?_; rintro e w5 ⟨rfl, k5⟩; have K5 := hid k5; clear k5))
  go_ret
  exact ⟨rfl, ((K2.out.trans K3.out).trans K4.out).trans K5.out⟩
theorem usage_counts_at {w : World} (d l v s : Int) (L : List Int) (vl : Value) (hL : Ints w vl L) (T : List Int) (vt : Value) (hT : Ints w vt T) (_ : World) :
    Calls Try.prog 3 #[.agg #[.int .i64 d, .int .i64 l, .int .i64 v, .int .i64 s], vl, vt] w fun e w' => e = .returned (.bool true) ∧ Kept w w' := usage_counts_walk d l v s L T vl vt w hL hT
end Go.Proofs.Ytnpkoncflplpiaa
