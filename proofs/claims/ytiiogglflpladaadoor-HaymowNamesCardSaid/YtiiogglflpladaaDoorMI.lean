/- HaymowNames: entry.May. -/
import Derived.Test.YtiiogglflpladaaDoorMH
namespace Go.Proofs.YtiiogglflpladaaDoor
set_option linter.unusedSimpArgs false
set_option linter.unusedVariables false
open Go.RowKit

theorem Kept.enAt {w w1 : World} (k : Kept w w1) {b o : Nat} {e : En} (h : EnAt w b o e) : EnAt w1 b o e := ⟨k.keeps h.1, k.keeps h.2.1, k.keeps h.2.2⟩
set_option maxHeartbeats 4000000 in
set_option maxRecDepth 100000 in
theorem may_yes (v : Value) (L : List En) (w : World) (h : Ents w v L) (hv : ValidE L) : Calls Tryd.prog 19 #[v] w fun e w' => e = .returned (.bool true) ∧ Kept w w' := by
  obtain ⟨A, c, rfl⟩ := h.shape
  obtain ⟨n, hn⟩ : ∃ n, L.length = n := ⟨_, rfl⟩
  rw [hn] at h ⊢
  have HE := hid h
  have HV := hid hv
  have h30 : n ≤ 30 := by rw [← hn]; exact hv.len
  have HN := hid hn
  obtain ⟨-, hc1, hc2, -⟩ := h.open_
  clear h hv hn
  go_enter Tryd.func19, Tryd.ntmps19
  go_wp2
  go_loopw [10] (fun t wr => ∃ k : Nat, k ≤ n ∧ t = .int .i64 k ∧ Kept w wr) (fun t _ => n - (intOf t).toNat)
  case atStart => exact ⟨0, by omega, rfl, Kept.refl _⟩
  case round =>
    obtain ⟨k, hk, rfl, hkr⟩ := hrel
    have HK := hid hkr
    clear hkr
    by_cases hlt : k < n
    · obtain ⟨b, o, e, rfl, he, hc⟩ := HE.out.at_ k hlt
      have hb := HV.out.all e (List.mem_of_getElem? he)
      have hc := HK.out.enAt hc
      obtain ⟨c1, c2, c3⟩ := hc
      have hk0 : (0 : Int) ≤ (k : Int) := by omega
      have hk1 : (k : Int) < (n : Int) := by omega
      have C1 := hid (fun w => is_any e.name (by have := (nameB_len hb.1).2; omega) w)
      rw [hb.1] at C1
      have C2 := hid (fun w s => isInode_yes s e.ino hb.2.1 hb.2.2 w)
      have HHE := hid he
      obtain ⟨s, hs⟩ : ∃ s, bstr e.name = s := ⟨_, rfl⟩
      obtain ⟨x, hx⟩ : ∃ x, e.ino = x := ⟨_, rfl⟩
      rw [hs] at c1 C1
      rw [hx] at c2 C2
      have HS := hid hs
      clear hb he hs hx
      by_cases h0 : 0 < k
      · obtain ⟨p, hp⟩ : ∃ p, L[k - 1]? = some p := ⟨_, List.getElem?_eq_getElem (by rw [HN.out]; omega)⟩
        have hlt' := HV.out.lt (show k - 1 < k by omega) hp HHE.out
        have hor : ordI p.name e.name = -1 := by unfold ordI; rw [if_pos hlt']
        obtain ⟨b', o', p', hA', hp', hcp⟩ := HE.out.at_ (k - 1) (by omega)
        cases hA'
        obtain rfl : p' = p := by rw [hp] at hp'; exact (Option.some.inj hp').symm
        have q1 := (HK.out.enAt hcp).1
        have C3 := hid (fun w => order_any p'.name e.name w)
        rw [hor, HS.out] at C3
        obtain ⟨t, ht⟩ : ∃ t, bstr p'.name = t := ⟨_, rfl⟩
        rw [ht] at q1 C3
        obtain ⟨j, rfl⟩ : ∃ j, k = j + 1 := ⟨k - 1, by omega⟩
        rw [show o + (j + 1 - 1) * 3 = o + j * 3 by omega] at q1
        have hj0 : (0 : Int) ≤ (j : Int) := by omega
        have hj1 : (j : Int) < (n : Int) := by omega
        clear hcp hp hp' hlt' hor ht h0 HS HHE
        go_wp2_with (first | (go_at_call 18; (with_reducible refine (C1.out _).mono ?_); rintro e w1 ⟨rfl, k1⟩; have d0 := k1.keeps (b := wr.heap.size) (o := 0) (s := none) (v := .string s) (by simp [go_sem]); have d1 := k1.keeps (b := wr.heap.size) (o := 1) (s := none) (v := .int .i64 x) (by simp [go_sem]); have d2 := k1.keeps (b := wr.heap.size) (o := 2) (s := none) (v := .int .i64 1) (by simp [go_sem])) | (go_at_call 16; (with_reducible refine (C2.out _ _).mono ?_); rintro e w2 ⟨rfl, k2⟩; have d0 := k2.keeps d0; have d1 := k2.keeps d1; have d2 := k2.keeps d2))
        have q3 := k2.keeps (k1.keeps (((Kept.refl wr).alloc _).keeps q1))
        go_quiet (first | (go_at_call 34; exact quiet_l (C3.out _)))
        go_wp2
        go_roundw
        case rel => exact ⟨j + 1 + 1, by omega, by go_num, (((HK.out.trans ((Kept.refl wr).alloc _)).trans k1).trans k2).drewN nq⟩
        case measure => simp [intOf]; omega
      · have hd : decide (0 < k) = false := decide_eq_false h0
        clear h0
        go_wp2_with (first | (go_at_call 18; (with_reducible refine (C1.out _).mono ?_); rintro e w1 ⟨rfl, k1⟩; have d0 := k1.keeps (b := wr.heap.size) (o := 0) (s := none) (v := .string s) (by simp [go_sem]); have d1 := k1.keeps (b := wr.heap.size) (o := 1) (s := none) (v := .int .i64 x) (by simp [go_sem]); have d2 := k1.keeps (b := wr.heap.size) (o := 2) (s := none) (v := .int .i64 1) (by simp [go_sem])) | (go_at_call 16; (with_reducible refine (C2.out _ _).mono ?_); rintro e w2 ⟨rfl, k2⟩; have d0 := k2.keeps d0; have d1 := k2.keeps d1; have d2 := k2.keeps d2))
        go_quiet (fail)
        go_wp2
        go_roundw
        case rel => exact ⟨k + 1, by omega, by go_num, (((HK.out.trans ((Kept.refl wr).alloc _)).trans k1).trans k2).drewN nq⟩
        case measure => simp [intOf]; omega
    · obtain rfl : k = n := by omega
      go_wp2
      go_ret
      exact ⟨rfl, HK.out⟩
end Go.Proofs.YtiiogglflpladaaDoor
