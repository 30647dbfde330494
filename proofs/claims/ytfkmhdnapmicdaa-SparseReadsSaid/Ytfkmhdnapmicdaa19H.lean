/- sparse: agrees, Same. -/
import Derived.Test.Ytfkmhdnapmicdaa19G
import Derived.Lib.Strings
namespace Go.Proofs.Ytfkmhdnapmicdaa
set_option linter.unusedSimpArgs false
set_option linter.unusedVariables false
open Go.RowKit

theorem bstr_ne {a b : List UInt8} (h : a ≠ b) : ((bstr a).toList == (bstr b).toList) = false := by
  rw [beq_eq_false_iff_ne, Lib.toList_data, Lib.toList_data, bstr_list, bstr_list]; exact h
/-- does a block agree with a file? -/
def agr (M : List Pc) (p : Pc) : Bool := match findL M p.n with
  | none => zerosB p.b
  | some q => decide (q.b = p.b)
def agreesB (L M : List Pc) : Bool := L.all (agr M)
theorem agrees_f {L M : List Pc} {k : Nat} {p : Pc} (hp : L[k]? = some p) (h : agr M p = false) : agreesB L M = false := by
  rw [agreesB, List.all_eq_false]; exact ⟨p, List.mem_of_getElem? hp, by rw [h]; simp⟩
theorem agrees_t {L M : List Pc} (h : ∀ (i : Nat) (p : Pc), i < L.length → L[i]? = some p → agr M p = true) : agreesB L M = true := by
  rw [agreesB, List.all_eq_true]
  intro p hp
  obtain ⟨i, hi, rfl⟩ := List.getElem_of_mem hp
  exact h i _ hi (List.getElem?_eq_getElem hi)
set_option maxHeartbeats 4000000 in
theorem agrees_any (f g : Fl) (v u : Value) (w : World) (h : Sp w v f) (hg : Sp w u g) (hS : Srt g.L) (hl : g.L.length ≤ 100000) : Calls Try.prog 31 #[v, u] w (BoolPost (agreesB f.L g.L) w) := by
  obtain ⟨vl, rfl, hP⟩ := h
  obtain ⟨A, c, rfl⟩ := hP.shape
  obtain ⟨ul, rfl, hQ⟩ := hg
  obtain ⟨A', c', rfl⟩ := hQ.shape
  obtain ⟨s, L⟩ := f
  obtain ⟨s', M⟩ := g
  dsimp only at *
  have HBN := hid (fun (n : Int) (hf : findL M n = none) (w' : World) (k : Kept w w') => block_none s' M A' M.length c' n w' (k.pcs hQ) hS hl hf)
  have HBS := hid (fun (n : Int) (p : Pc) (hf : findL M n = some p) (w' : World) (k : Kept w w') => block_some s' M A' M.length c' n w' (k.pcs hQ) hS hl p hf)
  generalize M.length = m' at *
  obtain ⟨h0, h1, h2, -, -⟩ := hP.open_
  obtain ⟨m, hm⟩ : ∃ m, L.length = m := ⟨_, rfl⟩
  rw [hm] at hP h1 ⊢
  have HP := hid hP; have HM := hid hm
  clear hP h0 hm hQ hS hl
  have HF := hid (fun k p => @agrees_f L M k p)
  have HT := hid (@agrees_t L M)
  generalize agreesB L M = ab at *
  go_enter Try.func31, Try.ntmps31
  go_wp2
  have hk0 : Kept w ((w.alloc (.cells #[.int .i64 s, .slice A m c] 24)).alloc (.cells #[.int .i64 s', .slice A' m' c'] 24)) := ((Kept.refl w).alloc _).alloc _
  have b0 : ((w.alloc (.cells #[.int .i64 s, .slice A m c] 24)).alloc (.cells #[.int .i64 s', .slice A' m' c'] 24)).cell? ⟨w.heap.size + 1, 0, none⟩ = some (.int .i64 s') := by simp [go_sem]
  have b1 : ((w.alloc (.cells #[.int .i64 s, .slice A m c] 24)).alloc (.cells #[.int .i64 s', .slice A' m' c'] 24)).cell? ⟨w.heap.size + 1, 1, none⟩ = some (.slice A' m' c') := by simp [go_sem]
  generalize ((w.alloc (.cells #[.int .i64 s, .slice A m c] 24)).alloc (.cells #[.int .i64 s', .slice A' m' c'] 24)) = W at *
  generalize w.heap.size = bx at *
  have HK0 := hid hk0; have B0 := hid b0; have B1 := hid b1
  clear hk0 b0 b1
  go_loopw [12] (fun t wr => ∃ k : Nat, k ≤ m ∧ t = .int .i64 k ∧ (∀ i p, i < k → L[i]? = some p → agr M p = true) ∧ Kept W wr) (fun t _ => m - (intOf t).toNat)
  case atStart => exact ⟨0, by omega, rfl, fun i p hi => by omega, Kept.refl _⟩
  case round =>
    obtain ⟨k, hk, rfl, ha, hkw⟩ := hrel
    have HA := hid ha; have HK := hid hkw
    clear ha hkw
    by_cases hlt : k < m
    · obtain ⟨b, o, p, rfl, hp, hc1, vb, hc2, hby⟩ := HP.out.at_ k hlt
      have k0 : (0 : Int) ≤ (k : Int) := by omega
      have k1 : (k : Int) < (m : Int) := by omega
      have c1 := (HK0.out.trans HK.out).keeps hc1; have c2 := (HK0.out.trans HK.out).keeps hc2
      have d0 := HK.out.keeps B0.out; have d1 := HK.out.keeps B1.out
      obtain ⟨A1, c3, rfl⟩ := hby.shape
      have HFA := hid (HF.out k p hp)
      have HST := hid (show agr M p = true → ∀ i q, i < k + 1 → L[i]? = some q → agr M q = true from fun h i q hi hq => by
        rcases Nat.lt_or_ge i k with h' | h'
        · exact HA.out i q h' hq
        · obtain rfl : i = k := by omega
          rw [hp] at hq; cases hq; exact h)
      have HBY := hid hby
      obtain ⟨pn, pb⟩ := p
      dsimp only at *
      rcases hf : findL M pn with _ | q
      · have HB := hid (HBN.out pn hf)
        have HZ := hid (fun w' (k : Kept w w') => zeros_any pb _ w' (k.byts HBY.out))
        have HAG := hid (show agr M ⟨pn, pb⟩ = zerosB pb by rw [agr]; dsimp only; rw [hf])
        generalize pb.length = q at *
        clear hp hc1 hc2 hby hf
        cases hz : zerosB pb with
        | false =>
          rw [hz] at HZ HAG
          obtain rfl := HFA.out HAG.out
          clear hz
          go_wp2_with (first
            | (go_at_call 26; (with_reducible refine (HB.out _ ?_).mono ?_); exact HK0.out.trans (HK.out.trans (by repeat (first | exact Kept.refl _ | assumption | refine Kept.alloc ?_ _ | refine Kept.drew ?_ | refine Kept.drewN ?_ _ | refine Kept.setCell ?_ (by simp; try omega) _ | refine Kept.trans ?_ (by assumption)))); rintro e w2 ⟨rfl, k2⟩; have e1 := k2.keeps (b := wr.heap.size) (o := 1) (s := none) (v := .slice A1 q c3) (by simp [go_sem]); have K2 := hid (HK.out.trans (((Kept.refl wr).alloc _).trans k2)))
            | (go_at_call 30; (with_reducible refine (HZ.out _ ?_).mono ?_); exact HK0.out.trans K2.out; rintro e w3 ⟨rfl, rfl⟩))
          go_ret
          exact ⟨rfl, HK0.out.trans K2.out⟩
        | true =>
          rw [hz] at HZ HAG
          clear hz
          go_wp2_with (first
            | (go_at_call 26; (with_reducible refine (HB.out _ ?_).mono ?_); exact HK0.out.trans (HK.out.trans (by repeat (first | exact Kept.refl _ | assumption | refine Kept.alloc ?_ _ | refine Kept.drew ?_ | refine Kept.drewN ?_ _ | refine Kept.setCell ?_ (by simp; try omega) _ | refine Kept.trans ?_ (by assumption)))); rintro e w2 ⟨rfl, k2⟩; have e1 := k2.keeps (b := wr.heap.size) (o := 1) (s := none) (v := .slice A1 q c3) (by simp [go_sem]); have K2 := hid (HK.out.trans (((Kept.refl wr).alloc _).trans k2)))
            | (go_at_call 30; (with_reducible refine (HZ.out _ ?_).mono ?_); exact HK0.out.trans K2.out; rintro e w3 ⟨rfl, rfl⟩))
          go_roundw
          case rel => exact ⟨k + 1, by omega, by go_num, HST.out HAG.out, K2.out⟩
          case measure => simp [intOf]; omega
      · have HB := hid (HBS.out pn q hf)
        have HAG := hid (show agr M ⟨pn, pb⟩ = decide (q.b = pb) by rw [agr]; dsimp only; rw [hf])
        generalize hpl : pb.length = n1 at *
        clear hp hc1 hc2 hby hf hpl
        by_cases hqp : q.b = pb
        · rw [decide_eq_true hqp] at HAG
          have HQP := hid hqp
          clear hqp
          obtain ⟨cs, hcs⟩ : ∃ cs, bstr pb = cs := ⟨_, rfl⟩
          have HCS := hid hcs
          clear hcs
          go_wp2_with (go_at_call 26; (with_reducible refine (HB.out _ ?_).mono ?_); exact HK0.out.trans (HK.out.trans (by repeat (first | exact Kept.refl _ | assumption | refine Kept.alloc ?_ _ | refine Kept.drew ?_ | refine Kept.drewN ?_ _ | refine Kept.setCell ?_ (by simp; try omega) _ | refine Kept.trans ?_ (by assumption)))); rintro e w2 ⟨v2, rfl, k2, hv2, -⟩; have e1 := k2.keeps (b := wr.heap.size) (o := 1) (s := none) (v := .slice A1 n1 c3) (by simp [go_sem]); have K2 := hid (HK.out.trans (((Kept.refl wr).alloc _).trans k2)); have hv2 := k2.byts hv2; obtain ⟨A5, c5, rfl⟩ := hv2.shape; have hcv := conv_byts hv2; clear hv2; generalize q.b.length = n5 at *; rw [HQP.out, HCS.out] at hcv; have hcw := conv_byts ((HK0.out.trans K2.out).byts HBY.out); rw [HCS.out] at hcw; generalize pb.length = n6 at *)
          go_roundw
          case rel => exact ⟨k + 1, by omega, by go_num, HST.out HAG.out, K2.out⟩
          case measure => simp [intOf]; omega
        · rw [decide_eq_false hqp] at HAG
          obtain rfl := HFA.out HAG.out
          have hne := bstr_ne hqp
          clear hqp
          generalize hcs : bstr q.b = cs at *
          generalize hds : bstr pb = ds at *
          have HCS := hid hcs; have HDS := hid hds
          clear hcs hds
          go_wp2_with (go_at_call 26; (with_reducible refine (HB.out _ ?_).mono ?_); exact HK0.out.trans (HK.out.trans (by repeat (first | exact Kept.refl _ | assumption | refine Kept.alloc ?_ _ | refine Kept.drew ?_ | refine Kept.drewN ?_ _ | refine Kept.setCell ?_ (by simp; try omega) _ | refine Kept.trans ?_ (by assumption)))); rintro e w2 ⟨v2, rfl, k2, hv2, -⟩; have e1 := k2.keeps (b := wr.heap.size) (o := 1) (s := none) (v := .slice A1 n1 c3) (by simp [go_sem]); have K2 := hid (HK.out.trans (((Kept.refl wr).alloc _).trans k2)); have hv2 := k2.byts hv2; obtain ⟨A5, c5, rfl⟩ := hv2.shape; have hcv := conv_byts hv2; rw [HCS.out] at hcv; have hcw := conv_byts ((HK0.out.trans K2.out).byts HBY.out); rw [HDS.out] at hcw; generalize q.b.length = n5 at *; generalize pb.length = n6 at *; clear hv2)
          go_ret
          exact ⟨rfl, HK0.out.trans K2.out⟩
    · obtain rfl : k = m := by omega
      obtain rfl := HT.out (fun i p hi hp => HA.out i p (by rw [← HM.out]; exact hi) hp)
      go_wp2
      go_ret
      exact ⟨rfl, HK0.out.trans HK.out⟩
/-- are two files the same? -/
noncomputable def sameB (f g : Fl) : Bool := mayB f && mayB g && decide (f.size = g.size) && agreesB f.L g.L && agreesB g.L f.L
set_option maxHeartbeats 4000000 in
theorem ssame_any (f g : Fl) (v u : Value) (w : World) (h : Sp w v f) (hg : Sp w u g) : Calls Try.prog 22 #[v, u] w (BoolPost (sameB f g) w) := by
  have HMF := hid (fun (w' : World) (k : Kept w w') => may_any f v w' (k.sp h))
  have HMG := hid (fun (w' : World) (k : Kept w w') => may_any g u w' (k.sp hg))
  have HAF := hid (fun (hv : mayB g = true) (w' : World) (k : Kept w w') => agrees_any f g v u w' (k.sp h) (k.sp hg) (mayB_iff.1 hv).ord (by have := (mayB_iff.1 hv).len; omega))
  have HAG := hid (fun (hv : mayB f = true) (w' : World) (k : Kept w w') => agrees_any g f u v w' (k.sp hg) (k.sp h) (mayB_iff.1 hv).ord (by have := (mayB_iff.1 hv).len; omega))
  obtain ⟨vl, rfl, hP⟩ := h
  obtain ⟨A, c, rfl⟩ := hP.shape
  obtain ⟨ul, rfl, hQ⟩ := hg
  obtain ⟨A', c', rfl⟩ := hQ.shape
  obtain ⟨s, L⟩ := f
  obtain ⟨s', M⟩ := g
  have HE := hid (show sameB ⟨s, L⟩ ⟨s', M⟩ = (mayB ⟨s, L⟩ && mayB ⟨s', M⟩ && decide (s = s') && agreesB L M && agreesB M L) from rfl)
  dsimp only at *
  generalize M.length = m' at *
  generalize L.length = m at *
  clear hP hQ
  generalize sameB ⟨s, L⟩ ⟨s', M⟩ = r at *
  generalize mayB ⟨s, L⟩ = mf at *
  generalize mayB ⟨s', M⟩ = mg at *
  generalize agreesB L M = af at *
  generalize agreesB M L = ag at *
  cases mf with
  | false =>
    obtain rfl : r = false := HE.out.trans (by simp)
    go_enter Try.func22, Try.ntmps22
    go_wp2_with (go_at_call 21; (with_reducible refine (HMF.out _ ?_).mono ?_); exact (by repeat (first | exact Kept.refl _ | assumption | refine Kept.alloc ?_ _ | refine Kept.drew ?_ | refine Kept.drewN ?_ _ | refine Kept.setCell ?_ (by simp; try omega) _ | refine Kept.trans ?_ (by assumption))); rintro e w1 ⟨rfl, k1⟩)
    go_ret
    exact ⟨rfl, (by repeat (first | exact Kept.refl _ | assumption | refine Kept.alloc ?_ _ | refine Kept.drew ?_ | refine Kept.drewN ?_ _ | refine Kept.setCell ?_ (by simp; try omega) _ | refine Kept.trans ?_ (by assumption)))⟩
  | true =>
  cases mg with
  | false =>
    obtain rfl : r = false := HE.out.trans (by simp)
    go_enter Try.func22, Try.ntmps22
    go_wp2_with (first
      | (go_at_call 21; (with_reducible refine (HMF.out _ ?_).mono ?_); exact (by repeat (first | exact Kept.refl _ | assumption | refine Kept.alloc ?_ _ | refine Kept.drew ?_ | refine Kept.drewN ?_ _ | refine Kept.setCell ?_ (by simp; try omega) _ | refine Kept.trans ?_ (by assumption))); rintro e w1 ⟨rfl, k1⟩; have c0 := k1.keeps (b := w.heap.size) (o := 0) (s := none) (v := .int .i64 s) (by simp [go_sem]); have c1 := k1.keeps (b := w.heap.size) (o := 1) (s := none) (v := .slice A m c) (by simp [go_sem]); have c2 := k1.keeps (b := w.heap.size + 1) (o := 0) (s := none) (v := .int .i64 s') (by simp [go_sem]); have c3 := k1.keeps (b := w.heap.size + 1) (o := 1) (s := none) (v := .slice A' m' c') (by simp [go_sem]))
      | (go_at_call 21; (with_reducible refine (HMG.out _ ?_).mono ?_); exact (by repeat (first | exact Kept.refl _ | assumption | refine Kept.alloc ?_ _ | refine Kept.drew ?_ | refine Kept.drewN ?_ _ | refine Kept.setCell ?_ (by simp; try omega) _ | refine Kept.trans ?_ (by assumption))); rintro e w2 ⟨rfl, k2⟩; have d0 := k2.keeps c0; have d1 := k2.keeps c1; have d2 := k2.keeps c2; have d3 := k2.keeps c3))
    go_ret
    exact ⟨rfl, (by repeat (first | exact Kept.refl _ | assumption | refine Kept.alloc ?_ _ | refine Kept.drew ?_ | refine Kept.drewN ?_ _ | refine Kept.setCell ?_ (by simp; try omega) _ | refine Kept.trans ?_ (by assumption)))⟩
  | true =>
  by_cases hs : s = s'
  · subst hs
    have he : (s == s) = true := by simp
    cases af with
    | false =>
      obtain rfl : r = false := HE.out.trans (by simp)
      go_enter Try.func22, Try.ntmps22
      go_wp2_with (first
        | (go_at_call 21; (with_reducible refine (HMF.out _ ?_).mono ?_); exact (by repeat (first | exact Kept.refl _ | assumption | refine Kept.alloc ?_ _ | refine Kept.drew ?_ | refine Kept.drewN ?_ _ | refine Kept.setCell ?_ (by simp; try omega) _ | refine Kept.trans ?_ (by assumption))); rintro e w1 ⟨rfl, k1⟩; have c0 := k1.keeps (b := w.heap.size) (o := 0) (s := none) (v := .int .i64 s) (by simp [go_sem]); have c1 := k1.keeps (b := w.heap.size) (o := 1) (s := none) (v := .slice A m c) (by simp [go_sem]); have c2 := k1.keeps (b := w.heap.size + 1) (o := 0) (s := none) (v := .int .i64 s) (by simp [go_sem]); have c3 := k1.keeps (b := w.heap.size + 1) (o := 1) (s := none) (v := .slice A' m' c') (by simp [go_sem]))
        | (go_at_call 21; (with_reducible refine (HMG.out _ ?_).mono ?_); exact (by repeat (first | exact Kept.refl _ | assumption | refine Kept.alloc ?_ _ | refine Kept.drew ?_ | refine Kept.drewN ?_ _ | refine Kept.setCell ?_ (by simp; try omega) _ | refine Kept.trans ?_ (by assumption))); rintro e w2 ⟨rfl, k2⟩; have d0 := k2.keeps c0; have d1 := k2.keeps c1; have d2 := k2.keeps c2; have d3 := k2.keeps c3)
        | (go_at_call 31; (with_reducible refine (HAF.out (by trivial) _ ?_).mono ?_); exact (by repeat (first | exact Kept.refl _ | assumption | refine Kept.alloc ?_ _ | refine Kept.drew ?_ | refine Kept.drewN ?_ _ | refine Kept.setCell ?_ (by simp; try omega) _ | refine Kept.trans ?_ (by assumption))); rintro e w3 ⟨rfl, k3⟩; have f0 := k3.keeps d0; have f1 := k3.keeps d1; have f2 := k3.keeps d2; have f3 := k3.keeps d3))
      go_ret
      exact ⟨rfl, (by repeat (first | exact Kept.refl _ | assumption | refine Kept.alloc ?_ _ | refine Kept.drew ?_ | refine Kept.drewN ?_ _ | refine Kept.setCell ?_ (by simp; try omega) _ | refine Kept.trans ?_ (by assumption)))⟩
    | true =>
      obtain rfl : r = ag := HE.out.trans (by simp)
      go_enter Try.func22, Try.ntmps22
      go_wp2_with (first
        | (go_at_call 21; (with_reducible refine (HMF.out _ ?_).mono ?_); exact (by repeat (first | exact Kept.refl _ | assumption | refine Kept.alloc ?_ _ | refine Kept.drew ?_ | refine Kept.drewN ?_ _ | refine Kept.setCell ?_ (by simp; try omega) _ | refine Kept.trans ?_ (by assumption))); rintro e w1 ⟨rfl, k1⟩; have c0 := k1.keeps (b := w.heap.size) (o := 0) (s := none) (v := .int .i64 s) (by simp [go_sem]); have c1 := k1.keeps (b := w.heap.size) (o := 1) (s := none) (v := .slice A m c) (by simp [go_sem]); have c2 := k1.keeps (b := w.heap.size + 1) (o := 0) (s := none) (v := .int .i64 s) (by simp [go_sem]); have c3 := k1.keeps (b := w.heap.size + 1) (o := 1) (s := none) (v := .slice A' m' c') (by simp [go_sem]))
        | (go_at_call 21; (with_reducible refine (HMG.out _ ?_).mono ?_); exact (by repeat (first | exact Kept.refl _ | assumption | refine Kept.alloc ?_ _ | refine Kept.drew ?_ | refine Kept.drewN ?_ _ | refine Kept.setCell ?_ (by simp; try omega) _ | refine Kept.trans ?_ (by assumption))); rintro e w2 ⟨rfl, k2⟩; have d0 := k2.keeps c0; have d1 := k2.keeps c1; have d2 := k2.keeps c2; have d3 := k2.keeps c3)
        | (go_at_call 31; (with_reducible refine (HAF.out (by trivial) _ ?_).mono ?_); exact (by repeat (first | exact Kept.refl _ | assumption | refine Kept.alloc ?_ _ | refine Kept.drew ?_ | refine Kept.drewN ?_ _ | refine Kept.setCell ?_ (by simp; try omega) _ | refine Kept.trans ?_ (by assumption))); rintro e w3 ⟨rfl, k3⟩; have f0 := k3.keeps d0; have f1 := k3.keeps d1; have f2 := k3.keeps d2; have f3 := k3.keeps d3)
        | (go_at_call 31; (with_reducible refine (HAG.out (by trivial) _ ?_).mono ?_); exact (by repeat (first | exact Kept.refl _ | assumption | refine Kept.alloc ?_ _ | refine Kept.drew ?_ | refine Kept.drewN ?_ _ | refine Kept.setCell ?_ (by simp; try omega) _ | refine Kept.trans ?_ (by assumption))); rintro e w4 ⟨rfl, k4⟩))
      go_ret
      exact ⟨rfl, (by repeat (first | exact Kept.refl _ | assumption | refine Kept.alloc ?_ _ | refine Kept.drew ?_ | refine Kept.drewN ?_ _ | refine Kept.setCell ?_ (by simp; try omega) _ | refine Kept.trans ?_ (by assumption)))⟩
  · obtain rfl : r = false := HE.out.trans (by simp [hs])
    have he : (s == s') = false := by simpa using hs
    clear hs
    go_enter Try.func22, Try.ntmps22
    go_wp2_with (first
      | (go_at_call 21; (with_reducible refine (HMF.out _ ?_).mono ?_); exact (by repeat (first | exact Kept.refl _ | assumption | refine Kept.alloc ?_ _ | refine Kept.drew ?_ | refine Kept.drewN ?_ _ | refine Kept.setCell ?_ (by simp; try omega) _ | refine Kept.trans ?_ (by assumption))); rintro e w1 ⟨rfl, k1⟩; have c0 := k1.keeps (b := w.heap.size) (o := 0) (s := none) (v := .int .i64 s) (by simp [go_sem]); have c1 := k1.keeps (b := w.heap.size) (o := 1) (s := none) (v := .slice A m c) (by simp [go_sem]); have c2 := k1.keeps (b := w.heap.size + 1) (o := 0) (s := none) (v := .int .i64 s') (by simp [go_sem]); have c3 := k1.keeps (b := w.heap.size + 1) (o := 1) (s := none) (v := .slice A' m' c') (by simp [go_sem]))
      | (go_at_call 21; (with_reducible refine (HMG.out _ ?_).mono ?_); exact (by repeat (first | exact Kept.refl _ | assumption | refine Kept.alloc ?_ _ | refine Kept.drew ?_ | refine Kept.drewN ?_ _ | refine Kept.setCell ?_ (by simp; try omega) _ | refine Kept.trans ?_ (by assumption))); rintro e w2 ⟨rfl, k2⟩; have d0 := k2.keeps c0; have d1 := k2.keeps c1; have d2 := k2.keeps c2; have d3 := k2.keeps c3))
    go_ret
    exact ⟨rfl, (by repeat (first | exact Kept.refl _ | assumption | refine Kept.alloc ?_ _ | refine Kept.drew ?_ | refine Kept.drewN ?_ _ | refine Kept.setCell ?_ (by simp; try omega) _ | refine Kept.trans ?_ (by assumption)))⟩
end Go.Proofs.Ytfkmhdnapmicdaa
