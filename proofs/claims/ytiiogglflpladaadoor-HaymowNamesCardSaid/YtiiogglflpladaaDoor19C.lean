/- sparse: find, block, clone. -/
import Derived.Test.YtiiogglflpladaaDoor19B
namespace Go.Proofs.YtiiogglflpladaaDoor
set_option linter.unusedSimpArgs false
set_option linter.unusedVariables false
open Go.RowKit

theorem srt_len {L : List Pc} (h : Srt L) (B : Nat) (hb : ∀ p ∈ L, 0 ≤ p.n ∧ p.n < B) : L.length ≤ B := by
  have key : ∀ i (hi : i < L.length), (i : Int) ≤ L[i].n := by
    intro i
    induction i with
    | zero => intro hi; exact (hb _ (List.getElem_mem hi)).1
    | succ i ih =>
      intro hi
      have h1 := ih (by omega)
      have h2 := List.pairwise_iff_getElem.1 h i (i + 1) (by omega) hi (by omega)
      omega
  rcases Nat.lt_or_ge B L.length with h' | h'
  · have h1 := key (L.length - 1) (by omega)
    have h2 := (hb _ (List.getElem_mem (show L.length - 1 < L.length by omega))).2
    omega
  · exact h'
theorem Valid.len {f : Fl} (h : Valid f) : f.L.length ≤ 3621 := srt_len h.ord 3621 fun p hp => by
  have h1 := h.s1
  obtain ⟨h2, h3, -⟩ := h.pc p hp
  omega
theorem idx_some {L : List Pc} (h : Srt L) {n : Int} {p : Pc} (hp : findL L n = some p) : L[(ltL L n).length]? = some p ∧ p.n = n := by
  obtain ⟨hm, hn⟩ := find_some hp
  obtain ⟨t, ht, e⟩ := List.getElem_of_mem hm
  have hpt : L[t]? = some p := by rw [List.getElem?_eq_getElem ht, e]
  have hk : (ltL L n).length = t := by
    refine lt_len t (by omega) (fun s q hs hq => ?_) (fun s q hs hq => ?_)
    · obtain ⟨hs1, rfl⟩ := List.getElem?_eq_some_iff.1 hq
      have := List.pairwise_iff_getElem.1 h s t hs1 ht hs
      rw [e] at this; omega
    · obtain ⟨hs1, rfl⟩ := List.getElem?_eq_some_iff.1 hq
      rcases Nat.eq_or_lt_of_le hs with e2 | e2
      · subst e2; rw [e]; omega
      · have := List.pairwise_iff_getElem.1 h t s ht hs1 e2
        rw [e] at this; omega
  rw [hk]; exact ⟨hpt, hn⟩
theorem lt_le (L : List Pc) (n : Int) : (ltL L n).length ≤ L.length := List.length_filter_le _ _

set_option maxHeartbeats 1000000 in
theorem find_any (f : Fl) (v : Value) (n : Int) (w : World) (h : Sp w v f) (hS : Srt f.L) (hl : f.L.length ≤ 100000) :
    Calls Tryd.prog 24 #[v, .int .i64 n] w fun e w' => e = .returned (.int .i64 ((ltL f.L n).length : Int)) ∧ Kept w w' := by
  obtain ⟨vl, rfl, hP⟩ := h
  obtain ⟨A, c, rfl⟩ := hP.shape
  obtain ⟨s, L⟩ := f
  dsimp only at *
  obtain ⟨m, hm⟩ : ∃ m, L.length = m := ⟨_, rfl⟩
  rw [hm] at hP hl ⊢
  have HP := hid hP; have HS := hid hS
  clear hP hS hm
  generalize hr : (ltL L n).length = r at *
  have HR := hid hr
  clear hr
  go_enter Tryd.func24, Tryd.ntmps24
  go_wp2_with (go_at_call 32; (refine (search_any w.heap.size (w.heap.size + 1) A m c L n _ ?_ ?_ (Kept.pcs (by repeat (first | exact Kept.refl _ | assumption | refine Kept.alloc ?_ _ | refine Kept.drew ?_ | refine Kept.drewN ?_ _ | refine Kept.setCell ?_ (by simp; try omega) _ | refine Kept.trans ?_ (by assumption))) HP.out) HS.out (by omega)).mono ?_); (simp [go_sem]); (simp [go_sem]); rintro e w1 ⟨rfl, k1⟩)
  go_ret
  exact ⟨ret_int (by rw [HR.out]), (by repeat (first | exact Kept.refl _ | assumption | refine Kept.alloc ?_ _ | refine Kept.drew ?_ | refine Kept.drewN ?_ _ | refine Kept.setCell ?_ (by simp; try omega) _ | refine Kept.trans ?_ (by assumption)))⟩

/-- the block that is found, where it lies -/
def BlockPost (w : World) (A : Option Addr) (L : List Pc) (n : Int) (e : Ending) (w' : World) : Prop :=
  ∃ v, e = .returned (.tuple #[v, .bool (findL L n).isSome]) ∧ Kept w w' ∧ match findL L n with
    | none => v = .slice none 0 0
    | some p => ∃ b o k, A = some ⟨b, o, none⟩ ∧ L[k]? = some p ∧ p.n = n ∧ w.cell? ⟨b, o + k * 2 + 1, none⟩ = some v ∧ Byts w v p.b
set_option maxHeartbeats 2000000 in
theorem block_any (s : Int) (L : List Pc) (A : Option Addr) (m c : Nat) (n : Int) (w : World) (hP : Pcs w (.slice A m c) L) (hS : Srt L) (hl : L.length ≤ 100000) :
    Calls Tryd.prog 25 #[.agg #[.int .i64 s, .slice A m c], .int .i64 n] w (BlockPost w A L n) := by
  obtain ⟨h0, h1, h2, -, -⟩ := hP.open_
  have HF := hid (fun (w' : World) (k : Kept w w') => find_any ⟨s, L⟩ (.agg #[.int .i64 s, .slice A m c]) n w' ⟨_, rfl, k.pcs hP⟩ hS hl)
  have hle : (ltL L n).length ≤ m := h0 ▸ lt_le L n
  have HK := hid (fun (k : Kept w w) => k)
  rcases hf : findL L n with _ | p
  · have HFN := hid (find_none hf)
    have HPO := hid (show ∀ (w' : World), Kept w w' → BlockPost w A L n (.returned (.tuple #[.slice none 0 0, .bool false])) w' from fun w' k => ⟨_, by rw [hf]; rfl, k, by rw [hf]⟩)
    have HP := hid hP; have H0 := hid h0
    dsimp only at HF
    generalize (ltL L n).length = r at *
    clear hP h0 hf hS hl
    by_cases hr : r = m
    · subst hr
      have e1 : ((r : Int) == r) = true := by simp
      go_enter Tryd.func25, Tryd.ntmps25
      go_wp2_with (go_at_call 24; (with_reducible refine (HF.out _ ?_).mono ?_); exact (by repeat (first | exact Kept.refl _ | assumption | refine Kept.alloc ?_ _ | refine Kept.drew ?_ | refine Kept.drewN ?_ _ | refine Kept.setCell ?_ (by simp; try omega) _ | refine Kept.trans ?_ (by assumption))); rintro e w1 ⟨rfl, k1⟩; have hc2 := k1.keeps (b := w.heap.size) (o := 1) (s := none) (v := .slice A r c) (by simp [go_sem]))
      go_ret2
      exact HPO.out _ (by repeat (first | exact Kept.refl _ | assumption | refine Kept.alloc ?_ _ | refine Kept.drew ?_ | refine Kept.drewN ?_ _ | refine Kept.setCell ?_ (by simp; try omega) _ | refine Kept.trans ?_ (by assumption)))
    · obtain ⟨b, o, q, rfl, hq, hc⟩ := HP.out.at_ r (by omega)
      have hq1 := HFN.out q (List.mem_of_getElem? hq)
      have hc := hc.1
      have e1 : ((r : Int) == m) = false := by simp; omega
      have e2 : (q.n != n) = true := by simpa using hq1
      have i0 : (0 : Int) ≤ (r : Int) := by omega
      have i1 : (r : Int) < (m : Int) := by omega
      generalize q.n = x at *
      have HC := hid hc
      clear hq hq1 hr hc
      go_enter Tryd.func25, Tryd.ntmps25
      go_wp2_with (go_at_call 24; (with_reducible refine (HF.out _ ?_).mono ?_); exact (by repeat (first | exact Kept.refl _ | assumption | refine Kept.alloc ?_ _ | refine Kept.drew ?_ | refine Kept.drewN ?_ _ | refine Kept.setCell ?_ (by simp; try omega) _ | refine Kept.trans ?_ (by assumption))); rintro e w1 ⟨rfl, k1⟩; have hc1 := (show Kept w w1 from (by repeat (first | exact Kept.refl _ | assumption | refine Kept.alloc ?_ _ | refine Kept.drew ?_ | refine Kept.drewN ?_ _ | refine Kept.setCell ?_ (by simp; try omega) _ | refine Kept.trans ?_ (by assumption)))).keeps HC.out; have hc2 := k1.keeps (b := w.heap.size) (o := 1) (s := none) (v := .slice (some ⟨b, o, none⟩) m c) (by simp [go_sem]))
      go_ret2
      exact HPO.out _ (by repeat (first | exact Kept.refl _ | assumption | refine Kept.alloc ?_ _ | refine Kept.drew ?_ | refine Kept.drewN ?_ _ | refine Kept.setCell ?_ (by simp; try omega) _ | refine Kept.trans ?_ (by assumption)))
  · obtain ⟨hi, hn⟩ := idx_some hS hf
    have hlt : (ltL L n).length < m := by rw [← h0]; exact (List.getElem?_eq_some_iff.1 hi).1
    obtain ⟨b, o, q, rfl, hq, hc⟩ := hP.at_ _ hlt
    obtain rfl : q = p := by rw [hi] at hq; exact (Option.some.inj hq).symm
    obtain ⟨hc1, vb, hc2, hb⟩ := hc
    have HPO := hid (show ∀ (w' : World), Kept w w' → BlockPost w (some ⟨b, o, none⟩) L n (.returned (.tuple #[vb, .bool true])) w' from fun w' k => ⟨_, by rw [hf]; rfl, k, by rw [hf]; exact ⟨b, o, _, rfl, hi, hn, hc2, hb⟩⟩)
    obtain ⟨A1, c1, rfl⟩ := hb.shape
    dsimp only at HF
    generalize (ltL L n).length = r at *
    rw [hn] at hc1
    have HC1 := hid hc1; have HC2 := hid hc2
    have e1 : ((r : Int) == m) = false := by simp; omega
    have e2 : (n != n) = false := by simp
    have i0 : (0 : Int) ≤ (r : Int) := by omega
    have i1 : (r : Int) < (m : Int) := by omega
    generalize q.b.length = n1 at *
    clear hP h0 hf hS hl hi hq hn hc1 hc2 hb
    go_enter Tryd.func25, Tryd.ntmps25
    go_wp2_with (go_at_call 24; (with_reducible refine (HF.out _ ?_).mono ?_); exact (by repeat (first | exact Kept.refl _ | assumption | refine Kept.alloc ?_ _ | refine Kept.drew ?_ | refine Kept.drewN ?_ _ | refine Kept.setCell ?_ (by simp; try omega) _ | refine Kept.trans ?_ (by assumption))); rintro e w1 ⟨rfl, k1⟩; have d1 := (show Kept w w1 from (by repeat (first | exact Kept.refl _ | assumption | refine Kept.alloc ?_ _ | refine Kept.drew ?_ | refine Kept.drewN ?_ _ | refine Kept.setCell ?_ (by simp; try omega) _ | refine Kept.trans ?_ (by assumption)))).keeps HC1.out; have d2 := (show Kept w w1 from (by repeat (first | exact Kept.refl _ | assumption | refine Kept.alloc ?_ _ | refine Kept.drew ?_ | refine Kept.drewN ?_ _ | refine Kept.setCell ?_ (by simp; try omega) _ | refine Kept.trans ?_ (by assumption)))).keeps HC2.out; have d3 := k1.keeps (b := w.heap.size) (o := 1) (s := none) (v := .slice (some ⟨b, o, none⟩) m c) (by simp [go_sem]))
    go_ret2
    exact HPO.out _ (by repeat (first | exact Kept.refl _ | assumption | refine Kept.alloc ?_ _ | refine Kept.drew ?_ | refine Kept.drewN ?_ _ | refine Kept.setCell ?_ (by simp; try omega) _ | refine Kept.trans ?_ (by assumption)))
theorem block_none (s : Int) (L : List Pc) (A : Option Addr) (m c : Nat) (n : Int) (w : World) (hP : Pcs w (.slice A m c) L) (hS : Srt L) (hl : L.length ≤ 100000) (hf : findL L n = none) :
    Calls Tryd.prog 25 #[.agg #[.int .i64 s, .slice A m c], .int .i64 n] w fun e w' => e = .returned (.tuple #[.slice none 0 0, .bool false]) ∧ Kept w w' := by
  refine (block_any s L A m c n w hP hS hl).mono ?_
  rintro e w' ⟨v, rfl, k, hm⟩
  rw [hf] at hm ⊢
  exact ⟨by rw [hm]; rfl, k⟩
theorem block_some (s : Int) (L : List Pc) (A : Option Addr) (m c : Nat) (n : Int) (w : World) (hP : Pcs w (.slice A m c) L) (hS : Srt L) (hl : L.length ≤ 100000) (p : Pc) (hf : findL L n = some p) :
    Calls Tryd.prog 25 #[.agg #[.int .i64 s, .slice A m c], .int .i64 n] w fun e w' => ∃ v, e = .returned (.tuple #[v, .bool true]) ∧ Kept w w' ∧ Byts w v p.b ∧ ∃ b o k, A = some ⟨b, o, none⟩ ∧ L[k]? = some p ∧ w.cell? ⟨b, o + k * 2 + 1, none⟩ = some v := by
  refine (block_any s L A m c n w hP hS hl).mono ?_
  rintro e w' ⟨v, rfl, k, hm⟩
  rw [hf] at hm ⊢
  obtain ⟨b, o, j, h1, h2, h3, h4, h5⟩ := hm
  exact ⟨v, rfl, k, h5, b, o, j, h1, h2, h4⟩
end Go.Proofs.YtiiogglflpladaaDoor
