/- sparse.May. -/
import Derived.Test.YtiiogglflpladaaDoor19E
namespace Go.Proofs.YtiiogglflpladaaDoor
set_option linter.unusedSimpArgs false
set_option linter.unusedVariables false
open Go.RowKit

structure Good (L : List Pc) (cnt : Int) (k : Nat) (last : Int) : Prop where
  srt : Srt (L.take k)
  all : ∀ p ∈ L.take k, 0 ≤ p.n ∧ p.n ≤ last ∧ p.n < cnt ∧ p.b.length = 128
  z : k = 0 → last = -1
  l : ∀ p, 0 < k → L[k - 1]? = some p → p.n = last
  lo : -1 ≤ last
  hi : last ≤ 4000
theorem good_0 (L : List Pc) (cnt : Int) : Good L cnt 0 (-1) := ⟨by simp, by simp, fun _ => rfl, by simp, by omega, by omega⟩
theorem Good.step {L : List Pc} {cnt : Int} {k : Nat} {last : Int} (h : Good L cnt k last) {p : Pc} (hp : L[k]? = some p) (h1 : last < p.n) (h2 : p.n < cnt) (h3 : p.b.length = 128) (hc : cnt ≤ 4000) : Good L cnt (k + 1) p.n := by
  have e := take_snoc hp
  have hlo := h.lo
  refine ⟨?_, ?_, by omega, fun q _ hq => ?_, by omega, by omega⟩
  · rw [e, Srt, List.pairwise_append]
    exact ⟨h.srt, List.pairwise_singleton _ _, fun a ha b hb => by
      obtain rfl := List.mem_singleton.1 hb
      have := h.all a ha; omega⟩
  · rw [e]
    intro q hq
    rcases List.mem_append.1 hq with hq | hq
    · have := h.all q hq; exact ⟨this.1, by omega, this.2.2⟩
    · obtain rfl := List.mem_singleton.1 hq
      exact ⟨by omega, by omega, h2, h3⟩
  · rw [Nat.add_sub_cancel, hp] at hq; cases hq; rfl
theorem Good.bad {f : Fl} {k : Nat} {last : Int} (h : Good f.L (needI f.size) k last) {p : Pc} (hp : f.L[k]? = some p) (hb : p.n ≤ last ∨ needI f.size ≤ p.n ∨ p.b.length ≠ 128) : ¬ Valid f := by
  intro hv
  obtain ⟨c1, c2, c3, c4⟩ := hv.pc p (List.mem_of_getElem? hp)
  rcases hb with hb | hb | hb
  · rcases Nat.eq_zero_or_pos k with e | e
    · have := h.z e; omega
    · obtain ⟨hk, e2⟩ := List.getElem?_eq_some_iff.1 hp
      have e1 : f.L[k - 1]? = some f.L[k - 1] := List.getElem?_eq_getElem (by omega)
      have h1 := h.l _ e e1
      have h2 := List.pairwise_iff_getElem.1 hv.ord (k - 1) k (by omega) hk (by omega)
      rw [e2] at h2; omega
  · unfold needI at hb; split at hb <;> omega
  · exact hb c3
theorem Good.ok {f : Fl} {last : Int} (h : Good f.L (needI f.size) f.L.length last) (s0 : 0 ≤ f.size) (s1 : f.size ≤ 463488) (hz : ∀ p, f.L[f.L.length - 1]? = some p → ∀ k : Nat, k < 128 → f.size ≤ 128 * p.n + k → p.b.getD k 0 = 0) : Valid f := by
  have hs := h.srt; have ha := h.all
  rw [List.take_length] at hs ha
  refine ⟨s0, s1, hs, fun p hp => ?_⟩
  obtain ⟨c1, c2, c3, c4⟩ := ha p hp
  refine ⟨c1, needI_lt c3 c1, c4, fun k hk hh => ?_⟩
  obtain ⟨i, hi, e⟩ := List.getElem_of_mem hp
  have hl : f.L[f.L.length - 1]? = some f.L[f.L.length - 1] := List.getElem?_eq_getElem (by omega)
  rcases Nat.eq_or_lt_of_le (show i ≤ f.L.length - 1 by omega) with e2 | e2
  · subst e2
    exact hz p (by rw [hl, e]) k hk hh
  · exfalso
    have h1 := List.pairwise_iff_getElem.1 hs i (f.L.length - 1) hi (by omega) e2
    have h2 := ha _ (List.getElem_mem (show f.L.length - 1 < f.L.length by omega))
    have h3 := needI_lt h2.2.2.1 h2.1
    rw [e] at h1; omega
theorem needI_le {s : Int} (h : s ≤ 463488) : 0 ≤ needI s ∧ needI s ≤ 3621 := by unfold needI; split <;> omega
theorem elem_u8 : Tryd.prog.elem 33 = 5 := by kernel_rfl
theorem elem_pc : Tryd.prog.elem 24 = 64 := by kernel_rfl
theorem size_u8 (w : World) : (sizeOf 5).run Tryd.prog w = .ok 1 w := by kernel_rfl
theorem size_pc (w : World) : (sizeOf 64).run Tryd.prog w = .ok 2 w := by kernel_rfl
/-- 'b[k:]' -/
theorem byts_cut {A : Option Addr} {n c : Nat} (k : Nat) (hk : k ≤ n) (w : World) : (Instr.sliceAt 33 (.slice A n c) (some (.int .i64 (k : Int))) none none).run Tryd.prog w = .ok (.slice (restA A c k 1) (n - k) (c - k)) w := by
  have h : Tryd.prog.underlying 33 = some (.slice (Tryd.prog.elem 33)) := by rw [elem_u8]; exact Tryd.underlying33
  rw [run_sliceAt_slice (h := h), run_slice_l (ht := h) (h0 := by omega) (h1 := by omega), elem_u8, size_u8]
  rfl
def BoolPost (b : Bool) (w : World) (e : Ending) (w' : World) : Prop := e = .returned (.bool b) ∧ Kept w w'
set_option maxHeartbeats 4000000 in
theorem may_any (f : Fl) (v : Value) (w : World) (h : Sp w v f) : Calls Tryd.prog 22 #[v] w (BoolPost (mayB f) w) := by
  obtain ⟨vl, rfl, hP⟩ := h
  obtain ⟨A, c, rfl⟩ := hP.shape
  obtain ⟨h0, h1, h2, -, -⟩ := hP.open_
  have HVT := hid (fun hv => mayB_t (f := f) hv)
  have HVF := hid (fun hv => mayB_f (f := f) hv)
  obtain ⟨s, L⟩ := f
  dsimp only at *
  generalize hmb : mayB ⟨s, L⟩ = mb at *
  obtain ⟨m, hm⟩ : ∃ m, L.length = m := ⟨_, rfl⟩
  rw [hm] at hP h1 ⊢
  have HP := hid hP; have HM := hid hm
  clear hP h0 hm hmb
  by_cases hs0 : s < 0
  · obtain rfl := HVF.out (fun hv => by have := hv.s0; dsimp only at this; omega)
    go_enter Tryd.func22, Tryd.ntmps22
    go_wp2
    go_ret
    exact ⟨rfl, (by repeat (first | exact Kept.refl _ | assumption | refine Kept.alloc ?_ _ | refine Kept.drew ?_ | refine Kept.drewN ?_ _ | refine Kept.setCell ?_ (by simp; try omega) _ | refine Kept.trans ?_ (by assumption)))⟩
  by_cases hs1 : 463488 < s
  · obtain rfl := HVF.out (fun hv => by have := hv.s1; dsimp only at this; omega)
    go_enter Tryd.func22, Tryd.ntmps22
    go_wp2
    go_ret
    exact ⟨rfl, (by repeat (first | exact Kept.refl _ | assumption | refine Kept.alloc ?_ _ | refine Kept.drew ?_ | refine Kept.drewN ?_ _ | refine Kept.setCell ?_ (by simp; try omega) _ | refine Kept.trans ?_ (by assumption)))⟩
  have hn := needI_le (show s ≤ 463488 by omega)
  have HN := hid (rfl : needI s = needI s)
  obtain ⟨cnt, hcnt⟩ : ∃ cnt, needI s = cnt := ⟨_, rfl⟩
  rw [hcnt] at hn
  have HC := hid hcnt
  have HSZ := hid (fun w => size_any s (by omega) w)
  rw [hcnt] at HSZ
  clear hcnt HN
  go_enter Tryd.func22, Tryd.ntmps22
  go_wp2_with (go_at_call 12; (with_reducible refine (HSZ.out _).mono ?_); rintro e w1 ⟨rfl, rfl⟩)
  have hk0 : Kept w (w.alloc (.cells #[.int .i64 s, .slice A m c] 26)) := (Kept.refl w).alloc _
  have b0 : (w.alloc (.cells #[.int .i64 s, .slice A m c] 26)).cell? ⟨w.heap.size, 0, none⟩ = some (.int .i64 s) := by simp [go_sem]
  have b1 : (w.alloc (.cells #[.int .i64 s, .slice A m c] 26)).cell? ⟨w.heap.size, 1, none⟩ = some (.slice A m c) := by simp [go_sem]
  generalize (w.alloc (.cells #[.int .i64 s, .slice A m c] 26)) = W at *
  generalize w.heap.size = bx at *
  have HK0 := hid hk0; have B0 := hid b0; have B1 := hid b1
  clear hk0 b0 b1
  go_loopw [4, 22] (fun tl t wr => ∃ (k : Nat) (last : Int), k ≤ m ∧ t = .int .i64 k ∧ tl = .int .i64 last ∧ Good L cnt k last ∧ Kept W wr) (fun _ t _ => m - (intOf t).toNat)
  case atStart => exact ⟨0, -1, by omega, rfl, rfl, good_0 _ _, Kept.refl _⟩
  case round =>
    obtain ⟨k, last, hk, rfl, rfl, hg, hkw⟩ := hrel
    have HG := hid hg; have HK := hid hkw
    have hlo := hg.lo; have hhi := hg.hi
    clear hg hkw
    by_cases hlt : k < m
    · obtain ⟨b, o, p, rfl, hp, hc1, vb, hc2, hby⟩ := HP.out.at_ k hlt
      have k0 : (0 : Int) ≤ (k : Int) := by omega
      have k1 : (k : Int) < (m : Int) := by omega
      have c1 := (HK0.out.trans HK.out).keeps hc1; have c2 := (HK0.out.trans HK.out).keeps hc2
      have HPI := hid hp
      obtain ⟨A1, c3, rfl⟩ := hby.shape
      have HBD := hid (fun hb => HVF.out (Good.bad (f := ⟨s, L⟩) (k := k) (last := last) (by rw [HC.out]; exact HG.out) (p := p) hp hb))
      have HST := hid (fun x1 x2 x3 => HG.out.step hp x1 x2 x3 (by omega))
      obtain ⟨pn, pb⟩ := p
      dsimp only at *
      rw [HC.out] at HBD
      obtain ⟨q, hq⟩ : ∃ q, pb.length = q := ⟨_, rfl⟩
      rw [hq] at c2 HBD HST
      clear hp hc1 hc2 hby hq
      by_cases g1 : pn ≤ last
      · obtain rfl := HBD.out (.inl g1)
        go_wp2
        go_ret
        exact ⟨rfl, HK0.out.trans (HK.out.trans (by repeat (first | exact Kept.refl _ | assumption | refine Kept.alloc ?_ _ | refine Kept.drew ?_ | refine Kept.drewN ?_ _ | refine Kept.setCell ?_ (by simp; try omega) _ | refine Kept.trans ?_ (by assumption))))⟩
      by_cases g2 : cnt ≤ pn
      · obtain rfl := HBD.out (.inr (.inl g2))
        go_wp2
        go_ret
        exact ⟨rfl, HK0.out.trans (HK.out.trans (by repeat (first | exact Kept.refl _ | assumption | refine Kept.alloc ?_ _ | refine Kept.drew ?_ | refine Kept.drewN ?_ _ | refine Kept.setCell ?_ (by simp; try omega) _ | refine Kept.trans ?_ (by assumption))))⟩
      by_cases g3 : q = 128
      · subst g3
        go_wp2
        go_roundw
        case rel => exact ⟨k + 1, pn, by omega, by go_num, rfl, HST.out (by omega) (by omega) rfl, HK.out.trans (by repeat (first | exact Kept.refl _ | assumption | refine Kept.alloc ?_ _ | refine Kept.drew ?_ | refine Kept.drewN ?_ _ | refine Kept.setCell ?_ (by simp; try omega) _ | refine Kept.trans ?_ (by assumption)))⟩
        case measure => simp [intOf]; omega
      · obtain rfl := HBD.out (.inr (.inr g3))
        have g4 : ((q : Int) != 128) = true := by simp; omega
        go_wp2
        go_ret
        exact ⟨rfl, HK0.out.trans (HK.out.trans (by repeat (first | exact Kept.refl _ | assumption | refine Kept.alloc ?_ _ | refine Kept.drew ?_ | refine Kept.drewN ?_ _ | refine Kept.setCell ?_ (by simp; try omega) _ | refine Kept.trans ?_ (by assumption))))⟩
    · obtain rfl : k = m := by omega
      by_cases hl : last < 0
      · have hz : k = 0 := by
          rcases Nat.eq_zero_or_pos k with e | e
          · exact e
          · have hkl : k - 1 < L.length := by rw [HM.out]; omega
            have e1 : L[k - 1]? = some L[k - 1] := List.getElem?_eq_getElem hkl
            have h1 := HG.out.l _ e e1
            have h2 := HG.out.all L[k - 1] (by rw [List.take_of_length_le (by rw [HM.out]; exact Nat.le_refl _)]; exact List.getElem_mem _)
            omega
        subst hz
        obtain rfl := List.eq_nil_of_length_eq_zero HM.out
        obtain rfl := HVT.out ⟨hs0, hs1, by simp, by simp⟩
        go_wp2
        go_ret
        exact ⟨rfl, HK0.out.trans HK.out⟩
      · have hkp : 0 < k := by
          rcases Nat.eq_zero_or_pos k with e | e
          · have := HG.out.z e; omega
          · exact e
        obtain ⟨b, o, p, rfl, hp, -, vb, hc2, hby⟩ := HP.out.at_ (k - 1) (by omega)
        have hpn := HG.out.l p hkp hp
        have hpa := HG.out.all p (by rw [List.take_of_length_le (by rw [HM.out]; exact Nat.le_refl _)]; exact List.mem_of_getElem? hp)
        obtain ⟨A1, c3, rfl⟩ := hby.shape
        have c2 := (HK0.out.trans HK.out).keeps hc2
        have hlt2 := needI_lt (show last < needI s by rw [HC.out]; omega) (by omega)
        obtain ⟨e, he⟩ : ∃ e : Nat, min (s - last * 128) 128 = (e : Int) := ⟨(min (s - last * 128) 128).toNat, by omega⟩
        have he1 : e ≤ 128 := by omega
        have HHE := hid he
        have HOK := hid (fun hz => HVT.out (Good.ok (f := ⟨s, L⟩) (last := last) (by rw [HC.out]; show Good L cnt L.length last; rw [HM.out]; exact HG.out) hs0 hs1 hz))
        have HNO := hid (fun (hz : ¬ ∀ i, (p.b.drop e).getD i 0 = 0) => HVF.out fun hv => hz fun i => by
          have h5 := (hv.pc p (List.mem_of_getElem? hp)).2.2
          rw [List.getD_eq_getElem?_getD, List.getElem?_drop, ← List.getD_eq_getElem?_getD]
          rcases Nat.lt_or_ge (e + i) 128 with h6 | h6
          · exact h5.2 (e + i) h6 (by show s ≤ _; omega)
          · rw [List.getD_eq_getElem?_getD, List.getElem?_eq_none (by rw [h5.1]; exact h6)]; rfl)
        rw [hpa.2.2.2] at c2 hby
        have hk0 : (0 : Int) ≤ (k : Int) - 1 := by omega
        have hk1 : (k : Int) - 1 < (k : Int) := by omega
        have hkn : ((k : Int) - 1).toNat = k - 1 := by omega
        have hcut := byts_cut (A := A1) (c := c3) e he1
        have HZ := hid (fun w' (k : Kept w w') => zeros_any (p.b.drop e) _ w' (k.byts (hby.drop e he1)))
        have hko : o + (k - 1) * 2 + 1 = o + (k - 1) * 2 + 1 := rfl
        have HP1 := hid hp; have HPN := hid hpn
        clear hc2 hp hby hpa hpn hko
        generalize hzb : zerosB (p.b.drop e) = zb at *
        have HZB := hid hzb
        clear hzb
        generalize restA A1 c3 e 1 = A2 at *
        generalize 128 - e = n2 at *
        generalize c3 - e = c4 at *
        have HFIN := hid (show zb = mb by
          have h6 := HZB.out
          cases zb with
          | true =>
            refine (HOK.out fun q hq i hi hh => ?_).symm
            rw [HM.out, HP1.out] at hq
            cases hq
            have h7 := zerosB_iff.1 h6 (i - e)
            rw [List.getD_eq_getElem?_getD, List.getElem?_drop, ← List.getD_eq_getElem?_getD, show e + (i - e) = i by have := HPN.out; have := HHE.out; dsimp only at hh; omega] at h7
            exact h7
          | false =>
            refine (HNO.out fun hz => ?_).symm
            rw [zerosB_iff.2 hz] at h6; cases h6)
        have d0 := HK.out.keeps B0.out
        have d1 := HK.out.keeps B1.out
        rcases (by omega : (s - last * 128 = (e : Int) ∧ (e : Int) < 128) ∨ (s - last * 128 = 128 ∧ e = 128) ∨ (128 < s - last * 128 ∧ e = 128)) with ⟨he2, he3⟩ | ⟨he2, he3⟩ | ⟨he2, he3⟩
        · clear he he1 hlt2
          go_wp2_with (go_at_call 43; (with_reducible refine (HZ.out _ ?_).mono ?_); exact HK0.out.trans HK.out; rintro e' w2 ⟨rfl, rfl⟩)
          go_ret
          exact ⟨ret_bool HFIN.out, HK0.out.trans HK.out⟩
        · subst he3
          have hcut : ∀ w, (Instr.sliceAt 33 (.slice A1 128 c3) (some (.int .i64 128)) none none).run Tryd.prog w = .ok (.slice A2 n2 c4) w := hcut
          clear he he1 hlt2
          go_wp2_with (go_at_call 43; (with_reducible refine (HZ.out _ ?_).mono ?_); exact HK0.out.trans HK.out; rintro e' w2 ⟨rfl, rfl⟩)
          go_ret
          exact ⟨ret_bool HFIN.out, HK0.out.trans HK.out⟩
        · subst he3
          have hcut : ∀ w, (Instr.sliceAt 33 (.slice A1 128 c3) (some (.int .i64 128)) none none).run Tryd.prog w = .ok (.slice A2 n2 c4) w := hcut
          clear he he1 hlt2
          go_wp2_with (go_at_call 43; (with_reducible refine (HZ.out _ ?_).mono ?_); exact HK0.out.trans HK.out; rintro e' w2 ⟨rfl, rfl⟩)
          go_ret
          exact ⟨ret_bool HFIN.out, HK0.out.trans HK.out⟩
end Go.Proofs.YtiiogglflpladaaDoor
