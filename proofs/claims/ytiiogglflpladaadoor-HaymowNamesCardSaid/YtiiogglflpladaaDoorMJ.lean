/- HaymowNames: entry.search, Find. -/
import Derived.Test.YtiiogglflpladaaDoorMI
namespace Go.Proofs.YtiiogglflpladaaDoor
set_option linter.unusedSimpArgs false
set_option linter.unusedVariables false
open Go.RowKit

set_option maxHeartbeats 2000000 in
/-- the closure of search -/
theorem esearch1_any (bf bn : Nat) (A : Option Addr) (m c : Nat) (L : List En) (s : List UInt8) (i : Nat) (e : En) (he : L[i]? = some e) (w : World) (hf : w.cell? ⟨bf, 0, none⟩ = some (.slice A m c)) (hn : w.cell? ⟨bn, 0, none⟩ = some (.string (bstr s))) (hL : Ents w (.slice A m c) L) :
    Calls Tryd.prog 33 #[.int .i64 (i : Int), .pointer (some ⟨bf, 0, none⟩), .pointer (some ⟨bn, 0, none⟩)] w fun e' w' => e' = .returned (.bool (!bl e.name s)) ∧ Kept w w' := by
  obtain ⟨h0, h1, h2, -, -⟩ := hL.open_
  have hi : i < m := by rw [← h0]; exact (List.getElem?_eq_some_iff.1 he).1
  obtain ⟨b, o, e', rfl, he', hc⟩ := hL.at_ i hi
  obtain rfl : e' = e := by rw [he] at he'; exact (Option.some.inj he').symm
  have hc := hc.1
  have i0 : (0 : Int) ≤ (i : Int) := by omega
  have i1 : (i : Int) < (m : Int) := by omega
  have C3 := hid (fun w => order_any e'.name s w)
  have hle := ordI_lt e'.name s
  have hlt : decide (0 ≤ ordI e'.name s) = !bl e'.name s := by
    simp only [hle]
    cases bl e'.name s <;> rfl
  generalize ordI e'.name s = x at *
  generalize bl e'.name s = y at *
  generalize bstr e'.name = t at *
  generalize bstr s = s' at *
  clear hL he he' h0 hle
  go_enter Tryd.func33, Tryd.ntmps33
  go_wp2
  go_quiet (first | (go_at_call 34; exact quiet_l (C3.out _)))
  go_wp2
  go_ret
  exact ⟨rfl, (by repeat (first | exact Kept.refl _ | assumption | refine Kept.alloc ?_ _ | refine Kept.drew ?_ | refine Kept.drewN ?_ _ | refine Kept.setCell ?_ (by simp; try omega) _ | refine Kept.trans ?_ (by assumption)))⟩
set_option maxHeartbeats 2000000 in
theorem esort_any (bf bn : Nat) (A : Option Addr) (m c : Nat) (L : List En) (s : List UInt8) (w : World) (hf : w.cell? ⟨bf, 0, none⟩ = some (.slice A m c)) (hn : w.cell? ⟨bn, 0, none⟩ = some (.string (bstr s))) (hL : Ents w (.slice A m c) L) (hS : ValidE L) :
    Calls Tryd.prog 32 #[.int .i64 (m : Int), .func (.func 33) #[] #[.pointer (some ⟨bf, 0, none⟩), .pointer (some ⟨bn, 0, none⟩)]] w fun e w' => e = .returned (.int .i64 (befN L s : Int)) ∧ Kept w w' := by
  obtain ⟨h0, h1, h2, -, -⟩ := hL.open_
  have HF := hid (fun (w' : World) (k : Kept w w') i e he => esearch1_any bf bn A m c L s i e he w' (k.keeps hf) (k.keeps hn) (k.ents hL))
  have HM := hid h0
  have hm30 : m ≤ 30 := by rw [← h0]; exact hS.len
  have HS := hid (fun (a b : Nat) (p q : En) (hab : a < b) (ha : L[a]? = some p) (hb : L[b]? = some q) => hS.lt hab ha hb)
  have HB := hid (fun k hk h1 h2 => befN_at L s k hk h1 h2)
  clear hf hn hL hS h0 h1 h2
  go_enter Tryd.func32, Tryd.ntmps32
  go_wp2
  go_loopw [5, 6] (fun t5 t6 wr => ∃ lo hi : Nat, t5 = .int .i64 lo ∧ t6 = .int .i64 hi ∧ lo ≤ hi ∧ hi ≤ m ∧ Kept w wr ∧ (∀ t p, t < lo → L[t]? = some p → bl p.name s = true) ∧ (∀ t p, hi ≤ t → L[t]? = some p → bl p.name s = false)) (fun t5 t6 _ => (intOf t6).toNat - (intOf t5).toNat)
  case atStart => exact ⟨0, m, rfl, rfl, by omega, by omega, Kept.refl _, fun t p ht => by omega, fun t p ht hp => by
    have := (List.getElem?_eq_some_iff.1 hp).1
    rw [HM.out] at this; omega⟩
  case round =>
    obtain ⟨lo, hi, rfl, rfl, hlh, hhm, hk, r1, r2⟩ := hrel
    have HK := hid hk; have R1 := hid r1; have R2 := hid r2
    clear hk r1 r2
    by_cases hlt : lo < hi
    · obtain ⟨p, hp⟩ : ∃ p, L[(lo + hi) / 2]? = some p := ⟨_, List.getElem?_eq_getElem (by rw [HM.out]; omega)⟩
      have HC := hid (HF.out _ HK.out ((lo + hi) / 2) p hp)
      have HP := hid hp
      clear hp
      rw [show (((lo + hi) / 2 : Nat) : Int) = ((lo : Int) + (hi : Int)) / 2 by omega] at HC
      cases hx : bl p.name s with
      | false =>
        rw [hx] at HC
        have HX := hid hx
        clear hx
        go_wp2_with (go_at_call 33; (with_reducible refine HC.out.mono ?_); rintro e w' ⟨rfl, k'⟩)
        go_roundw
        case rel => exact ⟨lo, (lo + hi) / 2, rfl, by rw [show (((lo + hi) / 2 : Nat) : Int) = ((lo : Int) + (hi : Int)) / 2 by omega], by omega, by omega, HK.out.trans k', R1.out, fun t q ht hq => by
          rcases Nat.eq_or_lt_of_le ht with e | e
          · subst e
            rw [HP.out] at hq; cases hq; exact HX.out
          · have := HS.out _ _ _ _ e HP.out hq
            cases hy : bl q.name s with
            | false => rfl
            | true => have := bl_trans _ _ _ this hy; rw [HX.out] at this; cases this⟩
        case measure => simp [intOf]; omega
      | true =>
        rw [hx] at HC
        have HX := hid hx
        clear hx
        go_wp2_with (go_at_call 33; (with_reducible refine HC.out.mono ?_); rintro e w' ⟨rfl, k'⟩)
        go_roundw
        case rel => exact ⟨(lo + hi) / 2 + 1, hi, by rw [show (((lo + hi) / 2 + 1 : Nat) : Int) = ((lo : Int) + (hi : Int)) / 2 + 1 by omega], rfl, by omega, by omega, HK.out.trans k', fun t q ht hq => by
          rcases Nat.eq_or_lt_of_le (show t ≤ (lo + hi) / 2 by omega) with e | e
          · subst e
            rw [HP.out] at hq; cases hq; exact HX.out
          · exact bl_trans _ _ _ (HS.out _ _ _ _ e hq HP.out) HX.out, R2.out⟩
        case measure => simp [intOf]; omega
    · obtain rfl : lo = hi := by omega
      have HLL := hid (HB.out lo (by rw [HM.out]; exact hhm) R1.out R2.out)
      go_wp2
      go_ret
      exact ⟨ret_int (by rw [HLL.out]), HK.out⟩

set_option maxHeartbeats 4000000 in
set_option maxRecDepth 100000 in
theorem esearch_any (v : Value) (L : List En) (s : List UInt8) (w : World) (h : Ents w v L) (hv : ValidE L) (hs : nameB s = true) :
    Calls Tryd.prog 15 #[v, .string (bstr s)] w fun e w' => e = .returned (.tuple #[.int .i64 (befN L s : Int), .int .i64 (if hasN L s then 0 else 6)]) ∧ Kept w w' := by
  obtain ⟨A, c, rfl⟩ := h.shape
  obtain ⟨n, hn⟩ : ∃ n, L.length = n := ⟨_, rfl⟩
  rw [hn] at h ⊢
  have hs24 := (nameB_len hs).2
  have M1 := hid (fun w' (k : Kept w w') => may_yes _ L w' (k.ents h) hv)
  have M2 := hid (fun w' => is_any s (by omega) w')
  rw [hs] at M2
  have M3 := hid (fun (w' : World) (k : Kept w w') (hf : w'.cell? ⟨w.heap.size, 0, none⟩ = some (.slice A n c)) (hn : w'.cell? ⟨w.heap.size + 1, 0, none⟩ = some (.string (bstr s))) => esort_any w.heap.size (w.heap.size + 1) A n c L s w' hf hn (k.ents h) hv)
  have hb : befN L s ≤ n := by rw [← hn]; exact befN_le L s
  have HH := hid (hv.has s)
  have HE := hid h
  have HN := hid hn
  have hc1 := h.open_.2.1
  have h30 : n ≤ 30 := by rw [← hn]; exact hv.len
  have hbl := bstr_toList s
  obtain ⟨i, hi⟩ : ∃ i, befN L s = i := ⟨_, rfl⟩
  rw [hi] at M3 HH hb ⊢
  obtain ⟨t, ht⟩ : ∃ t, bstr s = t := ⟨_, rfl⟩
  rw [ht] at M2 M3 hbl ⊢
  clear hi hs24 h hv hs hn ht
  have ee : ∀ e : En, L[i]? = some e → i < n := fun e he => by rw [← HN.out]; exact (List.getElem?_eq_some_iff.1 he).1
  have walkM1 : True := trivial
  cases hh : hasN L s with
  | true =>
    obtain ⟨e, he, hes⟩ := HH.out.1 hh
    have hin := ee e he
    obtain ⟨b, o, e', rfl, he', hc⟩ := HE.out.at_ i hin
    obtain rfl : e' = e := by rw [he] at he'; exact (Option.some.inj he').symm
    have hc := hc.1
    have hel := bstr_toList e'.name
    rw [hes] at hc hel
    generalize bstr s = s' at *
    have i0 : (0 : Int) ≤ (i : Int) := by omega
    have i1 : (i : Int) < (n : Int) := by omega
    have HC := hid hc
    have hne : ((i : Int) == (n : Int)) = false := by simp; omega
    have hne2 : (i == n) = false := by simp; omega
    clear hh he he' hes ee HH hc walkM1
    rw [if_pos rfl]
    go_enter Tryd.func15, Tryd.ntmps15
    go_wp2_with (first
      | (go_at_call 19; (with_reducible refine (M1.out _ ?_).mono ?_); exact (by repeat (first | exact Kept.refl _ | assumption | refine Kept.alloc ?_ _ | refine Kept.drew ?_ | refine Kept.drewN ?_ _ | refine Kept.setCell ?_ (by simp; try omega) _ | refine Kept.trans ?_ (by assumption))); rintro e w1 ⟨rfl, k1⟩; have d0 := k1.keeps (b := w.heap.size) (o := 0) (s := none) (v := .slice (some ⟨b, o, none⟩) n c) (by simp [go_sem]); have d1 := k1.keeps (b := w.heap.size + 1) (o := 0) (s := none) (v := .string t) (by simp [go_sem]))
      | (go_at_call 18; (with_reducible refine (M2.out _).mono ?_); rintro e w2 ⟨rfl, k2⟩; have d0 := k2.keeps d0; have d1 := k2.keeps d1)
      | (go_at_call 32; (with_reducible refine (M3.out _ ?_ d0 d1).mono ?_); exact (by repeat (first | exact Kept.refl _ | assumption | refine Kept.alloc ?_ _ | refine Kept.drew ?_ | refine Kept.drewN ?_ _ | refine Kept.setCell ?_ (by simp; try omega) _ | refine Kept.trans ?_ (by assumption))); rintro e w3 ⟨rfl, k3⟩; have d0 := k3.keeps d0; have d1 := k3.keeps d1))
    have kk : Kept w w3 := (by repeat (first | exact Kept.refl _ | assumption | refine Kept.alloc ?_ _ | refine Kept.drew ?_ | refine Kept.drewN ?_ _ | refine Kept.setCell ?_ (by simp; try omega) _ | refine Kept.trans ?_ (by assumption)))
    have q := kk.keeps HC.out
    go_quiet (fail)
    go_wp2
    go_ret2
    exact ⟨rfl, kk.drewN nq⟩
  | false =>
    rw [if_neg (by simp)]
    rcases Nat.lt_or_ge i n with hin | hin
    · obtain ⟨b, o, e, rfl, he, hc⟩ := HE.out.at_ i hin
      have hnes : (e.name == s) = false := by
        rw [beq_eq_false_iff_ne]
        intro c
        have := HH.out.2 ⟨e, he, c⟩
        rw [hh] at this; cases this
      have hc := hc.1
      have hel := bstr_toList e.name
      generalize bstr e.name = s' at *
      have i0 : (0 : Int) ≤ (i : Int) := by omega
      have i1 : (i : Int) < (n : Int) := by omega
      have HC := hid hc
      have hne : ((i : Int) == (n : Int)) = false := by simp; omega
      have hne2 : (i == n) = false := by simp; omega
      clear hh he ee HH hc walkM1
      go_enter Tryd.func15, Tryd.ntmps15
      go_wp2_with (first
        | (go_at_call 19; (with_reducible refine (M1.out _ ?_).mono ?_); exact (by repeat (first | exact Kept.refl _ | assumption | refine Kept.alloc ?_ _ | refine Kept.drew ?_ | refine Kept.drewN ?_ _ | refine Kept.setCell ?_ (by simp; try omega) _ | refine Kept.trans ?_ (by assumption))); rintro e w1 ⟨rfl, k1⟩; have d0 := k1.keeps (b := w.heap.size) (o := 0) (s := none) (v := .slice (some ⟨b, o, none⟩) n c) (by simp [go_sem]); have d1 := k1.keeps (b := w.heap.size + 1) (o := 0) (s := none) (v := .string t) (by simp [go_sem]))
        | (go_at_call 18; (with_reducible refine (M2.out _).mono ?_); rintro e w2 ⟨rfl, k2⟩; have d0 := k2.keeps d0; have d1 := k2.keeps d1)
        | (go_at_call 32; (with_reducible refine (M3.out _ ?_ d0 d1).mono ?_); exact (by repeat (first | exact Kept.refl _ | assumption | refine Kept.alloc ?_ _ | refine Kept.drew ?_ | refine Kept.drewN ?_ _ | refine Kept.setCell ?_ (by simp; try omega) _ | refine Kept.trans ?_ (by assumption))); rintro e w3 ⟨rfl, k3⟩; have d0 := k3.keeps d0; have d1 := k3.keeps d1))
      have kk : Kept w w3 := (by repeat (first | exact Kept.refl _ | assumption | refine Kept.alloc ?_ _ | refine Kept.drew ?_ | refine Kept.drewN ?_ _ | refine Kept.setCell ?_ (by simp; try omega) _ | refine Kept.trans ?_ (by assumption)))
      have q := kk.keeps HC.out
      go_quiet (fail)
      go_wp2
      go_ret2
      exact ⟨rfl, kk.drewN nq⟩
    · obtain rfl : i = n := by omega
      clear hh ee HH walkM1
      go_enter Tryd.func15, Tryd.ntmps15
      go_wp2_with (first
        | (go_at_call 19; (with_reducible refine (M1.out _ ?_).mono ?_); exact (by repeat (first | exact Kept.refl _ | assumption | refine Kept.alloc ?_ _ | refine Kept.drew ?_ | refine Kept.drewN ?_ _ | refine Kept.setCell ?_ (by simp; try omega) _ | refine Kept.trans ?_ (by assumption))); rintro e w1 ⟨rfl, k1⟩; have d0 := k1.keeps (b := w.heap.size) (o := 0) (s := none) (v := .slice A i c) (by simp [go_sem]); have d1 := k1.keeps (b := w.heap.size + 1) (o := 0) (s := none) (v := .string t) (by simp [go_sem]))
        | (go_at_call 18; (with_reducible refine (M2.out _).mono ?_); rintro e w2 ⟨rfl, k2⟩; have d0 := k2.keeps d0; have d1 := k2.keeps d1)
        | (go_at_call 32; (with_reducible refine (M3.out _ ?_ d0 d1).mono ?_); exact (by repeat (first | exact Kept.refl _ | assumption | refine Kept.alloc ?_ _ | refine Kept.drew ?_ | refine Kept.drewN ?_ _ | refine Kept.setCell ?_ (by simp; try omega) _ | refine Kept.trans ?_ (by assumption))); rintro e w3 ⟨rfl, k3⟩; have d0 := k3.keeps d0; have d1 := k3.keeps d1))
      have kk : Kept w w3 := (by repeat (first | exact Kept.refl _ | assumption | refine Kept.alloc ?_ _ | refine Kept.drew ?_ | refine Kept.drewN ?_ _ | refine Kept.setCell ?_ (by simp; try omega) _ | refine Kept.trans ?_ (by assumption)))
      go_quiet (fail)
      go_wp2
      go_ret2
      exact ⟨rfl, kk.drewN nq⟩
set_option maxHeartbeats 2000000 in
theorem find_yes (v : Value) (L : List En) (s : List UInt8) (w : World) (h : Ents w v L) (hv : ValidE L) (hs : nameB s = true) (hh : hasN L s = true) :
    Calls Tryd.prog 13 #[v, .string (bstr s)] w fun e w' => ∃ a b, e = .returned (.tuple #[.agg #[.string a, .int .i64 b, .int .i64 1], .int .i64 0]) ∧ Kept w w' := by
  have M1 := hid (fun w' (k : Kept w w') => esearch_any v L s w' (k.ents h) hv hs)
  rw [if_pos hh] at M1
  obtain ⟨e, he, hes⟩ := (hv.has s).1 hh
  obtain ⟨A, c, rfl⟩ := h.shape
  obtain ⟨n, hn⟩ : ∃ n, L.length = n := ⟨_, rfl⟩
  obtain ⟨i, hi⟩ : ∃ i, befN L s = i := ⟨_, rfl⟩
  have hin : i < n := by rw [← hn, ← hi]; exact (List.getElem?_eq_some_iff.1 he).1
  rw [hn] at h M1 ⊢
  rw [hi] at M1
  have h30 : n ≤ 30 := by rw [← hn]; exact hv.len
  have hc1 := h.open_.2.1
  obtain ⟨b, o, e', rfl, he', hc⟩ := h.at_ i hin
  have HC := hid hc
  generalize bstr s = t at *
  have i0 : (0 : Int) ≤ (i : Int) := by omega
  have i1 : (i : Int) < (n : Int) := by omega
  clear h hv hs hh he hes hn hi he' hc
  obtain ⟨a', b', c', f1, f2, f3⟩ : ∃ a b c, bstr e'.name = a ∧ e'.ino = b ∧ c = HC := ⟨_, _, _, rfl, rfl, rfl⟩
  clear f3 c'
  go_enter Tryd.func13, Tryd.ntmps13
  go_wp2_with (go_at_call 15; (with_reducible refine (M1.out _ ?_).mono ?_); exact (by repeat (first | exact Kept.refl _ | assumption | refine Kept.alloc ?_ _ | refine Kept.drew ?_ | refine Kept.drewN ?_ _ | refine Kept.setCell ?_ (by simp; try omega) _ | refine Kept.trans ?_ (by assumption))); rintro e w1 ⟨rfl, k1⟩; obtain ⟨q1, q2, q3⟩ := (Kept.trans (show Kept w _ from (by repeat (first | exact Kept.refl _ | assumption | refine Kept.alloc ?_ _ | refine Kept.drew ?_ | refine Kept.drewN ?_ _ | refine Kept.setCell ?_ (by simp; try omega) _ | refine Kept.trans ?_ (by assumption)))) k1).enAt HC.out; have d0 := k1.keeps (b := w.heap.size) (o := 0) (s := none) (v := .string ⟨#[]⟩) (by simp [go_sem]); have d1 := k1.keeps (b := w.heap.size) (o := 1) (s := none) (v := .int .i64 0) (by simp [go_sem]); have d2 := k1.keeps (b := w.heap.size) (o := 2) (s := none) (v := .int .i64 0) (by simp [go_sem]); have z0 := k1.free (b := w.heap.size) (o := 0) (s := none) (v := .string ⟨#[]⟩) (by simp [go_sem]) (by simp [go_sem]); have z1 := k1.free (b := w.heap.size) (o := 1) (s := none) (v := .int .i64 0) (by simp [go_sem]) (by simp [go_sem]); have z2 := k1.free (b := w.heap.size) (o := 2) (s := none) (v := .int .i64 0) (by simp [go_sem]) (by simp [go_sem]))
  exact bodyPost_ret (v := .tuple #[.agg #[.string a', .int .i64 b', .int .i64 1], .int .i64 0]) (by simp [results, Tryd.results13, go_sem, d0, d1, d2]) rfl ⟨_, _, rfl, (by repeat (first | exact Kept.refl _ | assumption | refine Kept.alloc ?_ _ | refine Kept.drew ?_ | refine Kept.drewN ?_ _ | refine Kept.setCell ?_ (by simp; try omega) _ | refine Kept.trans ?_ (by assumption)))⟩
end Go.Proofs.YtiiogglflpladaaDoor
