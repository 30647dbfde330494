/- usage.Free. -/
import Derived.Test.Ytnpkoncflplpiaa15E
namespace Go.Proofs.Ytnpkoncflplpiaa
set_option linter.unusedSimpArgs false
set_option linter.unusedVariables false
open Go.RowKit Go.Shelf
attribute [local go_sem] Oper.semAt_some

theorem wpListIn_inSet {F : Fence} {nF : Nat} {w : World} {ops : Array Oper} {rest : List Oper} {o : Oper} {a : Act} {Q : Exit → Act → World → Prop} (hg : o.guard = none) (m x : Operand) (hop : o.op = Op.lookup 48 m x true)
    (b : Nat) (L : List Int) (hm : a.eval m = .map (some b)) (hs : IntSet w b L) (y : Int) (hx : a.eval x = .int .i64 y) (h0 : -9223372036854775808 ≤ y) (h1 : y ≤ 9223372036854775807)
    (hK : wpListIn F nF Try.prog ops Q rest (a.put o.dst (.tuple #[.agg #[], .bool (L.contains y)])) w) : wpListIn F nF Try.prog ops Q (o :: rest) a w := by
  refine wpListIn_lookup_own_unit w hg m x 48 hop 3 49 intKeyed Try.underlying48 (zeroUnit w) b L.length _ hm hs _ _ hx (Maps.keyOf_int_mk Try.underlying3 (wf_i64 h0 h1)) ?_
  rw [has_int]
  exact hK
theorem wpListIn_putSet {F : Fence} {nF : Nat} {w : World} {ops : Array Oper} {rest : List Oper} {o : Oper} {a : Act} {Q : Exit → Act → World → Prop} (hg : o.guard = none) (m x v : Operand) (hop : o.op = Op.mapUpdate 48 m x v)
    (b : Nat) (L : List Int) (hm : a.eval m = .map (some b)) (hs : IntSet w b L) (hl : L.length < 9223372036854775807) (y : Int) (hx : a.eval x = .int .i64 y) (hv : a.eval v = .agg #[]) (h0 : -9223372036854775808 ≤ y) (h1 : y ≤ 9223372036854775807)
    (hK : ∀ w', IntSet w' b (L ++ [y]) → But b w w' → wpListIn F nF Try.prog ops Q rest (a.put o.dst undef) w') : wpListIn F nF Try.prog ops Q (o :: rest) a w := by
  refine wpListIn_mapUpdate_own w hg m x v 48 hop 3 49 intKeyed Try.underlying48 (unitElem (H := Unit)) b L.length _ hm hs (by unfold maxLen; omega) _ _ _ hx hv (Maps.keyOf_int_mk Try.underlying3 (wf_i64 h0 h1)) _ [] unitElem_mk ?_
  intro w' h1 h2
  refine hK w' ?_ h2
  unfold IntSet
  rw [List.map_append, List.map_cons, List.map_nil, Maps.setOf_snoc, List.length_append]
  exact h1

def isFree (f : Nat → Int) (busy : List Int) (k : Nat) : Bool := !busy.contains (k : Int) && decide (f k = 0)
def onL (f : Nat → Int) (busy : List Int) (fr : Int) (ks : List Nat) : List Int := (ks.filter (fun k => isFree f busy k && decide (fr ≤ (k : Int)))).map (fun k : Nat => (k : Int))
def beL (f : Nat → Int) (busy : List Int) (fr : Int) (ks : List Nat) : List Int := (ks.filter (fun k => isFree f busy k && decide ((k : Int) < fr))).map (fun k : Nat => (k : Int))
theorem onL_len (f : Nat → Int) (busy : List Int) (fr : Int) (ks : List Nat) : (onL f busy fr ks).length ≤ ks.length := by rw [onL, List.length_map]; exact List.length_filter_le _ _
theorem beL_len (f : Nat → Int) (busy : List Int) (fr : Int) (ks : List Nat) : (beL f busy fr ks).length ≤ ks.length := by rw [beL, List.length_map]; exact List.length_filter_le _ _
theorem onL_no {f : Nat → Int} {busy : List Int} {fr : Int} {ks : List Nat} {k : Nat} (h : ¬ (isFree f busy k = true ∧ fr ≤ (k : Int))) : onL f busy fr (ks ++ [k]) = onL f busy fr ks := by
  simp only [onL, List.filter_append, List.map_append]
  have : (isFree f busy k && decide (fr ≤ (k : Int))) = false := by cases hh : isFree f busy k <;> simp_all
  simp [this]
theorem onL_yes {f : Nat → Int} {busy : List Int} {fr : Int} {ks : List Nat} {k : Nat} (h : isFree f busy k = true ∧ fr ≤ (k : Int)) : onL f busy fr (ks ++ [k]) = onL f busy fr ks ++ [(k : Int)] := by
  simp [onL, List.filter_append, h.1, h.2]
theorem beL_no {f : Nat → Int} {busy : List Int} {fr : Int} {ks : List Nat} {k : Nat} (h : ¬ (isFree f busy k = true ∧ (k : Int) < fr)) : beL f busy fr (ks ++ [k]) = beL f busy fr ks := by
  simp only [beL, List.filter_append, List.map_append]
  have : (isFree f busy k && decide ((k : Int) < fr)) = false := by cases hh : isFree f busy k <;> simp_all
  simp [this]
theorem beL_yes {f : Nat → Int} {busy : List Int} {fr : Int} {ks : List Nat} {k : Nat} (h : isFree f busy k = true ∧ (k : Int) < fr) : beL f busy fr (ks ++ [k]) = beL f busy fr ks ++ [(k : Int)] := by
  simp [beL, List.filter_append, h.1, h.2]
def freeOk (d l v s : Int) (n : Nat) (fr : Int) : Bool := mayB d l v s && decide ((n : Int) = segsF d l v s) && decide (0 ≤ fr ∧ fr < d - l)
def freeAns (d l v s : Int) (n : Nat) (f : Nat → Int) (busy : List Int) (fr : Int) : List Int :=
  if freeOk d l v s n fr then onL f busy fr (List.range (d - l).toNat) ++ beL f busy fr (List.range (d - l).toNat) else []
/-- the segments of the log are the first -/
theorem tier0_iff (d l v s : Int) (hm : mayB d l v s = true) (k N : Nat) (hN : segsF d l v s = (N : Int)) (hk : k < N) : tierF d l v s ((k : Int) * 16 + 1) = 0 ↔ (k : Int) < d - l := by
  have hb : decide (1 ≤ (k : Int) * 16 + 1 ∧ (k : Int) * 16 + 1 ≤ segsF d l v s * 16) = true := by rw [hN]; simp; omega
  have e : ((k : Int) * 16 + 1 - 1) / 16 = k := by omega
  simp only [tierF, hm, hb, Bool.and_self, if_true, e]
  split
  · simp; omega
  · split <;> simp <;> omega
theorem segs0_at (d l v s : Int) (hm : mayB d l v s = true) (N : Nat) (hN : segsF d l v s = (N : Int)) (k : Nat) (hk : k ≤ N) :
    (segsTo d l v s 0 N k).map (·.1) = List.range (min k (d - l).toNat) := by
  induction k with
  | zero => simp [segsTo]
  | succ k ih =>
    rw [segsTo]
    have h0 := tier0_iff d l v s hm k N hN (by omega)
    have hi := ih (by omega)
    by_cases h : (k : Int) < d - l
    · rw [dif_pos ⟨by omega, h0.2 h⟩, List.map_append, hi, show min k (d - l).toNat = k by omega, show min (k + 1) (d - l).toNat = k + 1 by omega, List.range_succ]
      rfl
    · rw [dif_neg (fun hh => h (h0.1 hh.2)), hi]
      congr 1
      omega

/-- the segments' numbers -/
def vals {d l v s t : Int} {N : Nat} (pre : List (SegT d l v s t N)) : List Nat := pre.map (·.1)
theorem vals_snoc {d l v s t : Int} {N : Nat} (pre : List (SegT d l v s t N)) (x : SegT d l v s t N) : vals (pre ++ [x]) = vals pre ++ [x.1] := by simp [vals]
theorem vals_len {d l v s t : Int} {N : Nat} (pre : List (SegT d l v s t N)) : (vals pre).length = pre.length := by simp [vals]
theorem vals0 (d l v s : Int) (hm : mayB d l v s = true) (N : Nat) (hN : segsF d l v s = (N : Int)) (h : (d - l).toNat ≤ N) : vals (segsTo d l v s 0 N N) = List.range (d - l).toNat := by
  have := segs0_at d l v s hm N hN N (Nat.le_refl _)
  rwa [show min N (d - l).toNat = (d - l).toNat by omega] at this
def FreePost (L : List Int) (w : World) (e : Ending) (w' : World) : Prop := ∃ x, e = .returned x ∧ Ints w' x L ∧ Kept w w'

set_option maxRecDepth 100000 in
set_option maxHeartbeats 4000000 in
theorem free_no (d l v s fr : Int) (vu vb : Value) (n : Nat) (f g : Nat → Int) (w : World) (hU : Uses w vu n f g) (h : freeOk d l v s n fr = false) :
    Calls Try.prog 14 #[.agg #[.int .i64 d, .int .i64 l, .int .i64 v, .int .i64 s], vu, vb, .int .i64 fr] w (FreePost [] w) := by
  have HC := hid (covers_any d l v s vu n f g)
  have HU := hid hU
  obtain ⟨A, c, rfl⟩ := hU.shape
  clear hU
  by_cases hc : (mayB d l v s && decide ((n : Int) = segsF d l v s)) = true
  · rw [hc] at HC
    obtain ⟨hm, hn⟩ := Bool.and_eq_true_iff.1 hc
    have hn := of_decide_eq_true hn
    have HF := hid (first_any d l v s fr)
    have HT := hid (tier_any d l v s (firstN d l v s fr))
    by_cases hr : 0 ≤ fr ∧ fr ≤ segsF d l v s - 1
    · rw [show firstN d l v s fr = fr * 16 + 1 by simp [firstN, hm]; omega] at HF HT
      rw [show firstE d l v s fr = 0 by simp [firstE, hm]; omega] at HF
      have hbd := (segsF_bd d l v s)
      have ht : tierF d l v s (fr * 16 + 1) ≠ 0 := by
        have := tier0_iff d l v s hm fr.toNat n hn.symm (by omega)
        rw [show ((fr.toNat : Nat) : Int) = fr by omega] at this
        rw [Ne, this]
        intro hlt
        simp [freeOk, hm, hn] at h
        omega
      obtain ⟨t, hte⟩ : ∃ t, t = tierF d l v s (fr * 16 + 1) := ⟨_, rfl⟩
      rw [← hte] at HT ht
      have hne : (t != 0) = true := by simpa using ht
      clear hte ht h hc hn hr hm hbd
      go_enter Try.func14, Try.ntmps14
      go_wp2_with (first
        | (go_at_call 24; refine (HC.out _ (Kept.uses (by repeat (first | exact Kept.refl _ | assumption | refine Kept.alloc ?_ _ | refine Kept.drew ?_ | refine Kept.drewN ?_ _ | refine Kept.setCell ?_ (by simp; try omega) _ | refine Kept.trans ?_ (by assumption))) HU.out)).mono ?_; rintro e w1 ⟨rfl, k1⟩; have bk0 := k1.keeps (b := w.heap.size) (o := 0) (s := none) (v := .int .i64 d) (by simp [go_sem]); have bk1 := k1.keeps (b := w.heap.size) (o := 1) (s := none) (v := .int .i64 l) (by simp [go_sem]); have bk2 := k1.keeps (b := w.heap.size) (o := 2) (s := none) (v := .int .i64 v) (by simp [go_sem]); have bk3 := k1.keeps (b := w.heap.size) (o := 3) (s := none) (v := .int .i64 s) (by simp [go_sem]); have bf := k1.keeps (b := w.heap.size + 1 + 1) (o := 0) (s := none) (v := .int .i64 fr) (by simp [go_sem]))
        | (go_at_call 25; refine (HF.out _).mono ?_; rintro e w2 ⟨rfl, k2⟩; have bk0 := k2.keeps bk0; have bk1 := k2.keeps bk1; have bk2 := k2.keeps bk2; have bk3 := k2.keeps bk3)
        | (go_at_call 18; refine (HT.out _).mono ?_; rintro e w3 ⟨rfl, k3⟩))
      go_ret
      exact ⟨_, rfl, ints_nil _, (by repeat (first | exact Kept.refl _ | assumption | refine Kept.alloc ?_ _ | refine Kept.drew ?_ | refine Kept.drewN ?_ _ | refine Kept.setCell ?_ (by simp; try omega) _ | refine Kept.trans ?_ (by assumption)))⟩
    · rw [show firstE d l v s fr = 4 by simp [firstE, hm]; omega] at HF
      generalize firstN d l v s fr = fn at *
      clear HT h hc hn hr hm
      go_enter Try.func14, Try.ntmps14
      go_wp2_with (first
        | (go_at_call 24; refine (HC.out _ (Kept.uses (by repeat (first | exact Kept.refl _ | assumption | refine Kept.alloc ?_ _ | refine Kept.drew ?_ | refine Kept.drewN ?_ _ | refine Kept.setCell ?_ (by simp; try omega) _ | refine Kept.trans ?_ (by assumption))) HU.out)).mono ?_; rintro e w1 ⟨rfl, k1⟩; have bk0 := k1.keeps (b := w.heap.size) (o := 0) (s := none) (v := .int .i64 d) (by simp [go_sem]); have bk1 := k1.keeps (b := w.heap.size) (o := 1) (s := none) (v := .int .i64 l) (by simp [go_sem]); have bk2 := k1.keeps (b := w.heap.size) (o := 2) (s := none) (v := .int .i64 v) (by simp [go_sem]); have bk3 := k1.keeps (b := w.heap.size) (o := 3) (s := none) (v := .int .i64 s) (by simp [go_sem]); have bf := k1.keeps (b := w.heap.size + 1 + 1) (o := 0) (s := none) (v := .int .i64 fr) (by simp [go_sem]))
        | (go_at_call 25; refine (HF.out _).mono ?_; rintro e w2 ⟨rfl, k2⟩))
      go_ret
      exact ⟨_, rfl, ints_nil _, (by repeat (first | exact Kept.refl _ | assumption | refine Kept.alloc ?_ _ | refine Kept.drew ?_ | refine Kept.drewN ?_ _ | refine Kept.setCell ?_ (by simp; try omega) _ | refine Kept.trans ?_ (by assumption)))⟩
  · have hc' : (mayB d l v s && decide ((n : Int) = segsF d l v s)) = false := by simpa using hc
    rw [hc'] at HC
    clear hc hc' h
    go_enter Try.func14, Try.ntmps14
    go_wp2_with (first
      | (go_at_call 24; refine (HC.out _ (Kept.uses (by repeat (first | exact Kept.refl _ | assumption | refine Kept.alloc ?_ _ | refine Kept.drew ?_ | refine Kept.drewN ?_ _ | refine Kept.setCell ?_ (by simp; try omega) _ | refine Kept.trans ?_ (by assumption))) HU.out)).mono ?_; rintro e w1 ⟨rfl, k1⟩))
    go_ret
    exact ⟨_, rfl, ints_nil _, (by repeat (first | exact Kept.refl _ | assumption | refine Kept.alloc ?_ _ | refine Kept.drew ?_ | refine Kept.drewN ?_ _ | refine Kept.setCell ?_ (by simp; try omega) _ | refine Kept.trans ?_ (by assumption)))⟩
end Go.Proofs.Ytnpkoncflplpiaa
