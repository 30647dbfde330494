/- sparse: zeros, find, block, clone; reach.Size. -/
import Derived.Test.YtiiogglflpladaaDoor19A
import Derived.Deep.QuietTactic
import Derived.BigQuiet
import Derived.Deep.RegionHeld3
namespace Go.Proofs.YtiiogglflpladaaDoor
set_option linter.unusedSimpArgs false
set_option linter.unusedVariables false
open Go.RowKit

theorem size_any (n : Int) (hn : n ≤ 9223372036854775807) (w : World) : Calls Tryd.prog 12 #[.int .i64 n] w fun e w' => e = .returned (.int .i64 (needI n)) ∧ w = w' := by
  by_cases h : n ≤ 0
  · have e : needI n = 0 := by simp [needI, h]
    rw [e]; clear e
    go_enter Tryd.func12, Tryd.ntmps12
    go_wp2
    go_ret
    exact ⟨rfl, rfl⟩
  · have e : needI n = (n - 1) / 128 + 1 := by simp [needI, h]
    rw [e]; clear e
    go_enter Tryd.func12, Tryd.ntmps12
    go_wp2
    go_ret
    exact ⟨rfl, rfl⟩

def zerosB (l : List UInt8) : Bool := l.all (fun c => c == 0)
theorem zerosB_f {l : List UInt8} (k : Nat) (h : l.getD k 0 ≠ 0) : zerosB l = false := by
  rw [zerosB, List.all_eq_false]
  have hk : k < l.length := by
    rcases Nat.lt_or_ge k l.length with h' | h'
    · exact h'
    · exact absurd (by rw [List.getD_eq_getElem?_getD, List.getElem?_eq_none h']; rfl) h
  refine ⟨l[k], List.getElem_mem hk, ?_⟩
  rw [List.getD_eq_getElem?_getD, List.getElem?_eq_getElem hk] at h
  simpa using h
theorem zerosB_iff {l : List UInt8} : zerosB l = true ↔ ∀ k, l.getD k 0 = 0 := by
  constructor
  · intro h k
    rw [zerosB, List.all_eq_true] at h
    rw [List.getD_eq_getElem?_getD]
    rcases Nat.lt_or_ge k l.length with h' | h'
    · rw [List.getElem?_eq_getElem h']
      have := h _ (List.getElem_mem h')
      simpa using this
    · rw [List.getElem?_eq_none h']; rfl
  · intro h
    rw [zerosB, List.all_eq_true]
    intro x hx
    obtain ⟨i, hi, rfl⟩ := List.getElem_of_mem hx
    have := h i
    rw [List.getD_eq_getElem?_getD, List.getElem?_eq_getElem hi] at this
    simpa using this
set_option maxHeartbeats 1000000 in
theorem zeros_any (l : List UInt8) (v : Value) (w : World) (h : Byts w v l) : Calls Tryd.prog 43 #[v] w fun e w' => e = .returned (.bool (zerosB l)) ∧ w = w' := by
  obtain ⟨A, c, rfl⟩ := h.shape
  obtain ⟨n, hn⟩ : ∃ n, l.length = n := ⟨_, rfl⟩
  rw [hn] at h ⊢
  have HB := hid h
  have hb := h.open_
  have HN := hid hn
  have hc1 := hb.2.1; have hc2 := hb.2.2.1
  clear h hb hn
  go_enter Tryd.func43, Tryd.ntmps43
  go_wp2
  go_loopw [7] (fun t wr => ∃ k : Nat, k ≤ n ∧ t = .int .i64 k ∧ wr = w ∧ ∀ j, j < k → l.getD j 0 = 0) (fun t _ => n - (intOf t).toNat)
  case atStart => exact ⟨0, by omega, rfl, rfl, fun j hj => by omega⟩
  case round =>
    obtain ⟨k, hk, rfl, rfl, hz⟩ := hrel
    have HZ := hid hz
    clear hz
    by_cases hlt : k < n
    · obtain ⟨b, o, rfl, hcell⟩ := HB.out.cell k hlt
      have hk0 : (0 : Int) ≤ (k : Int) := by omega
      have hk1 : (k : Int) < (n : Int) := by omega
      obtain ⟨x, hx⟩ : ∃ x, ((l.getD k 0).toNat : Int) = x := ⟨_, rfl⟩
      rw [hx] at hcell
      have HX := hid hx
      clear hx
      by_cases hx0 : x = 0
      · subst hx0
        go_wp2
        go_roundw
        case rel => exact ⟨k + 1, by omega, by go_num, trivial, fun j hj => by
          rcases Nat.lt_or_ge j k with h | h
          · exact HZ.out j h
          · obtain rfl : j = k := by omega
            have := HX.out
            exact UInt8.toNat_inj.1 (by simpa using this)⟩
        case measure => simp [intOf]; omega
      · have hxf : (x != 0) = true := by simpa using hx0
        clear hx0
        go_wp2
        go_ret
        refine ⟨ret_bool (zerosB_f k ?_).symm, rfl⟩
        intro e
        have := HX.out
        rw [e] at this
        subst this
        cases hxf
    · obtain rfl : k = n := by omega
      go_wp2
      go_ret
      refine ⟨ret_bool (zerosB_iff.2 fun j => ?_).symm, rfl⟩
      rcases Nat.lt_or_ge j k with h | h
      · exact HZ.out j h
      · rw [List.getD_eq_getElem?_getD, List.getElem?_eq_none (by rw [HN.out]; exact h)]; rfl

set_option maxHeartbeats 1000000 in
/-- the closure of find -/
theorem find1_any (bf bn : Nat) (A : Option Addr) (m c : Nat) (L : List Pc) (n : Int) (i : Nat) (p : Pc) (hp : L[i]? = some p) (w : World) (hf : w.cell? ⟨bf, 1, none⟩ = some (.slice A m c)) (hn : w.cell? ⟨bn, 0, none⟩ = some (.int .i64 n)) (hL : Pcs w (.slice A m c) L) :
    Calls Tryd.prog 44 #[.int .i64 (i : Int), .pointer (some ⟨bf, 0, none⟩), .pointer (some ⟨bn, 0, none⟩)] w fun e w' => e = .returned (.bool (decide (n ≤ p.n))) ∧ Kept w w' := by
  obtain ⟨h0, h1, h2, -, -⟩ := hL.open_
  have hi : i < m := by rw [← h0]; exact (List.getElem?_eq_some_iff.1 hp).1
  obtain ⟨b, o, p', rfl, hp', hc⟩ := hL.at_ i hi
  obtain rfl : p' = p := by rw [hp] at hp'; exact (Option.some.inj hp').symm
  have hc := hc.1
  have i0 : (0 : Int) ≤ (i : Int) := by omega
  have i1 : (i : Int) < (m : Int) := by omega
  generalize p'.n = x at *
  clear hL hp hp' h0
  go_enter Tryd.func44, Tryd.ntmps44
  go_wp2
  go_quiet (fail)
  go_wp2
  go_ret
  exact ⟨rfl, (by repeat (first | exact Kept.refl _ | assumption | refine Kept.alloc ?_ _ | refine Kept.drew ?_ | refine Kept.drewN ?_ _ | refine Kept.setCell ?_ (by simp; try omega) _ | refine Kept.trans ?_ (by assumption)))⟩
theorem lt_len {L : List Pc} {n : Int} (k : Nat) (hk : k ≤ L.length) (h1 : ∀ t p, t < k → L[t]? = some p → p.n < n) (h2 : ∀ t p, k ≤ t → L[t]? = some p → n ≤ p.n) : (ltL L n).length = k := by
  have e : ltL L n = ltL (L.take k) n ++ ltL (L.drop k) n := by rw [ltL, ltL, ltL, ← List.filter_append, List.take_append_drop]
  have e1 : ltL (L.take k) n = L.take k := by
    rw [ltL, List.filter_eq_self]
    intro p hp
    obtain ⟨t, ht, rfl⟩ := List.getElem_of_mem hp
    have ht' : t < k := by rw [List.length_take] at ht; omega
    have := h1 t _ ht' (by rw [List.getElem?_eq_getElem (by omega)])
    simpa using this
  have e2 : ltL (L.drop k) n = [] := by
    rw [ltL, List.filter_eq_nil_iff]
    intro p hp
    obtain ⟨t, ht, rfl⟩ := List.getElem_of_mem hp
    have ht' : k + t < L.length := by rw [List.length_drop] at ht; omega
    have := h2 (k + t) _ (by omega) (List.getElem?_eq_getElem ht')
    rw [List.getElem_drop]; simp; omega
  rw [e, e1, e2]; simp; omega
set_option maxHeartbeats 2000000 in
theorem search_any (bf bn : Nat) (A : Option Addr) (m c : Nat) (L : List Pc) (n : Int) (w : World) (hf : w.cell? ⟨bf, 1, none⟩ = some (.slice A m c)) (hn : w.cell? ⟨bn, 0, none⟩ = some (.int .i64 n)) (hL : Pcs w (.slice A m c) L) (hS : Srt L) (hm62 : m < 4611686018427387904) :
    Calls Tryd.prog 32 #[.int .i64 (m : Int), .func (.func 44) #[] #[.pointer (some ⟨bf, 0, none⟩), .pointer (some ⟨bn, 0, none⟩)]] w fun e w' => e = .returned (.int .i64 ((ltL L n).length : Int)) ∧ Kept w w' := by
  obtain ⟨h0, h1, h2, -, -⟩ := hL.open_
  have HF := hid (fun (w' : World) (k : Kept w w') i p hp => find1_any bf bn A m c L n i p hp w' (k.keeps hf) (k.keeps hn) (k.pcs hL))
  have HM := hid h0
  have hm63 : (m : Int) ≤ 9223372036854775807 := by omega
  have HS := hid (show ∀ (a b : Nat) (p q : Pc), a < b → L[a]? = some p → L[b]? = some q → p.n < q.n from fun a b p q hab ha hb => by
    obtain ⟨ha1, rfl⟩ := List.getElem?_eq_some_iff.1 ha
    obtain ⟨hb1, rfl⟩ := List.getElem?_eq_some_iff.1 hb
    exact List.pairwise_iff_getElem.1 hS a b ha1 hb1 hab)
  clear hf hn hL hS h0 h1 h2
  go_enter Tryd.func32, Tryd.ntmps32
  go_wp2
  go_loopw [5, 6] (fun t5 t6 wr => ∃ lo hi : Nat, t5 = .int .i64 lo ∧ t6 = .int .i64 hi ∧ lo ≤ hi ∧ hi ≤ m ∧ Kept w wr ∧ (∀ t p, t < lo → L[t]? = some p → p.n < n) ∧ (∀ t p, hi ≤ t → L[t]? = some p → n ≤ p.n)) (fun t5 t6 _ => (intOf t6).toNat - (intOf t5).toNat)
  case atStart => exact ⟨0, m, rfl, rfl, by omega, by omega, Kept.refl _, fun t p ht => by omega, fun t p ht hp => by
    have := (List.getElem?_eq_some_iff.1 hp).1
    rw [HM.out] at this; omega⟩
  case round =>
    obtain ⟨lo, hi, rfl, rfl, hlh, hhm, hk, r1, r2⟩ := hrel
    have HK := hid hk; have R1 := hid r1; have R2 := hid r2
    clear hk r1 r2
    by_cases hlt : lo < hi
    · obtain ⟨p, hp⟩ : ∃ p, L[(lo + hi) / 2]? = some p := ⟨_, List.getElem?_eq_getElem (by rw [HM.out]; omega)⟩
      have HC := hid (HF.out _ HK.out ((lo + hi) / 2) p hp)
      have HP := hid hp
      clear hp
      rw [show (((lo + hi) / 2 : Nat) : Int) = ((lo : Int) + (hi : Int)) / 2 by omega] at HC
      by_cases hx : n ≤ p.n
      · rw [decide_eq_true hx] at HC
        have HX := hid hx
        clear hx
        go_wp2_with (go_at_call 44; (with_reducible refine HC.out.mono ?_); rintro e w' ⟨rfl, k'⟩)
        go_roundw
        case rel => exact ⟨lo, (lo + hi) / 2, rfl, by rw [show (((lo + hi) / 2 : Nat) : Int) = ((lo : Int) + (hi : Int)) / 2 by omega], by omega, by omega, HK.out.trans k', R1.out, fun t q ht hq => by
          rcases Nat.eq_or_lt_of_le ht with e | e
          · subst e
            rw [HP.out] at hq; cases hq; exact HX.out
          · have := HS.out _ _ _ _ e HP.out hq
            have := HX.out
            omega⟩
        case measure => simp [intOf]; omega
      · rw [decide_eq_false hx] at HC
        have HX := hid hx
        clear hx
        go_wp2_with (go_at_call 44; (with_reducible refine HC.out.mono ?_); rintro e w' ⟨rfl, k'⟩)
        go_roundw
        case rel => exact ⟨(lo + hi) / 2 + 1, hi, by rw [show (((lo + hi) / 2 + 1 : Nat) : Int) = ((lo : Int) + (hi : Int)) / 2 + 1 by omega], rfl, by omega, by omega, HK.out.trans k', fun t q ht hq => by
          have hx := HX.out
          rcases Nat.eq_or_lt_of_le (show t ≤ (lo + hi) / 2 by omega) with e | e
          · subst e
            rw [HP.out] at hq; cases hq; omega
          · have := HS.out _ _ _ _ e hq HP.out
            omega, R2.out⟩
        case measure => simp [intOf]; omega
    · obtain rfl : lo = hi := by omega
      have HLL := hid (lt_len lo (by rw [HM.out]; exact hhm) R1.out R2.out)
      go_wp2
      go_ret
      exact ⟨ret_int (by rw [HLL.out]), HK.out⟩
end Go.Proofs.YtiiogglflpladaaDoor
