/- UsageOnce: the walk. -/
import Derived.Test.Ytnpkoncflplpiaa15V
import Derived.Test.Ytnpkoncflplpiaa15X
import Derived.Deep.QuietTactic
import Derived.BigQuiet
namespace Go.Proofs.Ytnpkoncflplpiaa
set_option linter.unusedSimpArgs false
set_option linter.unusedVariables false
open Go.RowKit

def tsum (g : Nat → Int) : Nat → Int
  | 0 => 0
  | k + 1 => tsum g k + g k
theorem tsum_bd (g : Nat → Int) (hg : ∀ k, 0 ≤ g k ∧ g k ≤ 138240) (k : Nat) : 0 ≤ tsum g k ∧ tsum g k ≤ 138240 * k := by
  induction k with
  | zero => simp [tsum]
  | succ k ih => have := hg k; rw [tsum]; push_cast; omega

set_option maxRecDepth 100000 in
set_option maxHeartbeats 4000000 in
theorem once_walk (d l v s : Int) (L : List Int) (vl : Value) (w : World) (hL : Ints w vl L) :
    Calls Try.prog 6 #[.agg #[.int .i64 d, .int .i64 l, .int .i64 v, .int .i64 s], vl] w fun e w' => e = .returned (.bool true) ∧ Kept w w' := by
  obtain ⟨A, c, rfl⟩ := hL.shape
  have HLT : Hid (Ints w (.slice A (min L.length 60) c) (L.take 60)) := by have := hL.take (min L.length 60) (by omega); rw [take_min] at this; exact hid this
  obtain ⟨-, hl1, hl2⟩ := hL.len
  have hlen : (L.take 60).length = min L.length 60 := by rw [List.length_take]; omega
  obtain ⟨m, hm⟩ : ∃ m, m = min L.length 60 := ⟨_, rfl⟩
  rw [← hm] at HLT hlen
  have HF := hid (fun w => few_val A L.length c m w hl1 hl2 hm)
  have hm60 : m ≤ 60 := by omega
  have hmc : m ≤ c := by omega
  generalize L.length = n0 at *
  generalize L.take 60 = M at *
  subst hlen
  clear hL hm
  have hmk := make_ints M.length (by omega)
  have HCA := hid (cnt_at d l v s M)
  have HAW := hid awake_any
  have HMD := hid (fun w t => ints_made w M.length t hm60)
  obtain ⟨E, hE⟩ : ∃ E, E = cntE d l v s M (zs M.length) := ⟨_, rfl⟩
  obtain ⟨N, hN⟩ : ∃ N, N = cntN d l v s M (zs M.length) := ⟨_, rfl⟩
  obtain ⟨f, hf⟩ : ∃ f : Nat → Int, f = fun k : Nat => liveTo M (k : Int) M.length := ⟨_, rfl⟩
  have HE := hid hE; have HN := hid hN
  rw [← hE, ← hN, ← hf] at HCA
  have hfb : ∀ n k, k < n → 0 ≤ f k ∧ f k ≤ 60 := fun n k _ => by
    rw [hf]; have := liveTo_bd M k M.length; dsimp only; omega
  have HFB := hid hfb
  have HFE := hid hf
  clear hf hfb
  clear hE hN
  obtain ⟨m, hm⟩ : ∃ m, m = M.length := ⟨_, rfl⟩
  rw [← hm] at HLT HF hm60 hmc hmk HMD HCA HE HN HFE
  have HM := hid hm
  clear hm
  go_enter Try.func6, Try.ntmps6
  go_wp2_with (go_at_call 7; refine (HF.out _).mono ?_; rintro e w1 ⟨rfl, rfl⟩)
  obtain ⟨H, hH⟩ : ∃ H, H = w.heap.size := ⟨_, rfl⟩
  obtain ⟨W1, hW1⟩ : ∃ W1 : World, W1 = w.alloc (.cells #[.int .i64 d, .int .i64 l, .int .i64 v, .int .i64 s] 23) := ⟨_, rfl⟩
  have KW : Kept w W1 := by rw [hW1]; exact (Kept.refl w).alloc _
  have c0 : W1.cell? ⟨H, 0, none⟩ = some (.int .i64 d) := by rw [hW1, hH]; simp [go_sem]
  have c1 : W1.cell? ⟨H, 1, none⟩ = some (.int .i64 l) := by rw [hW1, hH]; simp [go_sem]
  have c2 : W1.cell? ⟨H, 2, none⟩ = some (.int .i64 v) := by rw [hW1, hH]; simp [go_sem]
  have c3 : W1.cell? ⟨H, 3, none⟩ = some (.int .i64 s) := by rw [hW1, hH]; simp [go_sem]
  rw [← hW1, ← hH]
  have HK := hid KW
  have HS := hid (fun (w' : World) (hk : Kept W1 w') => (⟨hk, hk.keeps c0, hk.keeps c1, hk.keeps c2, hk.keeps c3⟩ : Kept W1 w' ∧ w'.cell? ⟨H, 0, none⟩ = some (.int .i64 d) ∧ w'.cell? ⟨H, 1, none⟩ = some (.int .i64 l) ∧ w'.cell? ⟨H, 2, none⟩ = some (.int .i64 v) ∧ w'.cell? ⟨H, 3, none⟩ = some (.int .i64 s)))
  clear hW1 hH KW c0 c1 c2 c3
  go_region_held3 (fun w' => Kept W1 w' ∧ w'.cell? ⟨H, 0, none⟩ = some (.int .i64 d) ∧ w'.cell? ⟨H, 1, none⟩ = some (.int .i64 l) ∧ w'.cell? ⟨H, 2, none⟩ = some (.int .i64 v) ∧ w'.cell? ⟨H, 3, none⟩ = some (.int .i64 s))
    (first | exact HS.out _ (Kept.refl _) | (go_split_ands; exact HS.out _ (by repeat (first | exact Kept.refl _ | assumption | refine Kept.alloc ?_ _ | refine Kept.drew ?_ | refine Kept.drewN ?_ _ | refine Kept.setCell ?_ (by simp; try omega) _ | refine Kept.trans ?_ (by assumption)))))
    (first
    | (go_at_call 8; refine (HCA.out _ _ _ ?_ ?_).mono ?_; (focus exact (Kept.ints (HK.out.trans (show Kept W1 _ from (by repeat (first | exact Kept.refl _ | assumption | refine Kept.alloc ?_ _ | refine Kept.drew ?_ | refine Kept.drewN ?_ _ | refine Kept.setCell ?_ (by simp; try omega) _ | refine Kept.trans ?_ (by assumption))))) HLT.out)); (focus exact HMD.out _ _); rintro e w2 ⟨x, rfl, hx, k2⟩; have HX := hid hx; have K2 := hid (show Kept W1 w2 from (by repeat (first | exact Kept.refl _ | assumption | refine Kept.alloc ?_ _ | refine Kept.drew ?_ | refine Kept.drewN ?_ _ | refine Kept.setCell ?_ (by simp; try omega) _ | refine Kept.trans ?_ (by assumption)))); clear hx))
  all_goals (
    have hKX : Kept W1 w2 := K2.out
    obtain ⟨Ax, cx, rfl⟩ := HX.out.shape
    by_cases hE0 : E = 0
    · subst hE0
      have hzz : mayB d l v s = true ∧ okL (segsF d l v s) M = true := by
        have h := HE.out
        rw [HM.out, cntE_zs] at h
        cases hb : mayB d l v s with
        | false => rw [hb] at h; simp at h
        | true =>
          cases hb2 : okL (segsF d l v s) M with
          | true => exact ⟨rfl, rfl⟩
          | false => rw [hb, hb2] at h; simp at h
      obtain ⟨hmay, hok⟩ := hzz
      have hNs : (N : Int) = segsF d l v s := by
        have h := HN.out
        rw [cntN, if_pos HE.out.symm] at h
        have := segsF_bd d l v s
        omega
      have hNb : (N : Int) ≤ 2304 := by have := segsF_bd d l v s; omega
      have hdl : 1 ≤ d - l ∧ d ≤ 256 ∧ 0 ≤ l := by
        obtain ⟨b1, b2, b3, b4, b5, b6, b7, b8⟩ := mayB_of hmay
        omega
      obtain ⟨hd1, hd2, hl0⟩ := hdl
      have hML := (okL_iff _ _).1 hok
      rw [← hNs] at hML
      have HTI := hid (fun t x w' (h : Uses w' x N f (fun _ => 0)) => tier_yes d l v s t x N f (fun _ => 0) w' h (HFB.out N) hmay hNs)
      have HFA := hid (fun x w' (h : Uses w' x N f (fun _ => 0)) => free_any d l v s 0 x (.slice none 0 0) N f (fun _ => 0) [] w' h (ints_nil _) (by simp) (fun k hk => by have := HFB.out N k hk; omega))
      have hsum : sumF f (vals (segsTo d l v s 0 N N)) + sumF f (vals (segsTo d l v s 1 N N)) + sumF f (vals (segsTo d l v s 2 N N)) = (m : Int) := by
        rw [sum_tiers d l v s hmay N hNs.symm f N (Nat.le_refl _), HFE.out]
        rw [HM.out] at hm60 ⊢
        exact live_sum M N (fun j hj => by have := hML j hj; omega) M.length (Nat.le_refl _)
      have hgb : ∀ k : Nat, 0 ≤ sumF f (vals (segsTo d l v s (k : Int) N N)) ∧ sumF f (vals (segsTo d l v s (k : Int) N N)) ≤ 138240 := fun k => by
        have h1 := sumF_bd f N (HFB.out N) _ (vals_mem (segsTo d l v s (k : Int) N N))
        have h2 := vals_len_le (segsTo d l v s (k : Int) N N) (List.prefix_refl _)
        omega
      obtain ⟨gg, hgg⟩ : ∃ gg : Nat → Int, gg = fun k : Nat => sumF f (vals (segsTo d l v s (k : Int) N N)) := ⟨_, rfl⟩
      have HTK := hid (fun (k : Nat) x w' (h : Uses w' x N f (fun _ => 0)) => HTI.out (k : Int) x w' h)
      have hg3 : tsum gg 3 = (m : Int) := by
        rw [hgg]; simp only [tsum]; push_cast; omega
      have HG3 := hid hg3
      have HGE := hid (fun k : Nat => (congrFun hgg k : gg k = sumF f (vals (segsTo d l v s (k : Int) N N))))
      have hgb2 : ∀ k, 0 ≤ gg k ∧ gg k ≤ 138240 := fun k => by rw [HGE.out k]; exact hgb k
      have HGB := hid (tsum_bd gg hgb2)
      have HGB2 := hid hgb2
      clear hg3 hgg hsum hgb hgb2 HTI
      have HFN := hid (fun i hi => free_nought d l v s N f hmay hNs (by omega) i hi)
      have hA0 := free_len_le d l v s N f [] 0
      obtain ⟨A0, hA0e⟩ : ∃ A0, A0 = freeAns d l v s N f [] 0 := ⟨_, rfl⟩
      rw [← hA0e] at HFA HFN hA0
      have hA1 : A0.length ≤ 512 := by omega
      have HNO := hid (show ∀ i k, i < A0.length → k < m → (((M.getD k 0 - 1) / 16 == A0.getD i 0) = false) ∧ 0 ≤ M.getD k 0 - 1 ∧ M.getD k 0 ≤ 40000 from fun i k hi hk => by
        obtain ⟨q, hq, hfq⟩ := HFN.out i hi
        have hkl : k < M.length := by rw [← HM.out]; exact hk
        have h1 := hML k hkl
        refine ⟨?_, by omega, by omega⟩
        rw [hq, beq_eq_false_iff_ne]
        intro he
        have := live_pos M q k hkl h1.1 he
        rw [HFE.out] at hfq
        rw [HM.out] at hfq
        dsimp only at hfq
        omega)
      clear hA0e hA0 hmay hok hNs hML HFN hd1 hd2 hl0
      go_wp2_with fail
      go_loopw [7, 8] (fun al t wr => ∃ k : Nat, k ≤ 3 ∧ t = .int .i64 k ∧ al = .int .i64 (tsum gg k) ∧ Kept w2 wr) (fun _ t _ => 3 - (intOf t).toNat)
      case atStart => exact ⟨0, by omega, rfl, rfl, Kept.refl _⟩
      case round =>
        obtain ⟨k, hk, rfl, rfl, hkr⟩ := hrel
        have HKR := hid hkr
        obtain ⟨-, z0, z1, z2, z3⟩ := HS.out _ (hKX.trans hkr)
        have hb1 := HGB.out k
        have hb2 := HGB2.out k
        clear hkr
        by_cases hlt : k < 3
        · have HST := hid (show tsum gg (k + 1) = tsum gg k + gg k from rfl)
          have HT1 := hid (fun x w' h => HTK.out k x w' h)
          rw [← HGE.out k] at HT1
          generalize tsum gg k = S at *
          generalize gg k = G at *
          go_wp2_with (go_at_call 16; refine (HT1.out _ _ ?_).mono ?_; (focus exact (Kept.uses HKR.out HX.out)); rintro e w3 ⟨rfl, k3⟩)
          go_roundw
          case rel => exact ⟨k + 1, by omega, by go_num, by rw [HST.out], HKR.out.trans k3⟩
          case measure => simp [intOf]; omega
        · obtain rfl : k = 3 := by omega
          rw [HG3.out]
          clear hb1 hb2 hlt hk
          obtain ⟨Wr, rfl⟩ : ∃ Wr : World, Wr = wr := ⟨_, rfl⟩
          go_wp2_with (go_at_call 14; refine (HFA.out _ _ ?_).mono ?_; (focus exact (Kept.uses HKR.out HX.out)); rintro e w4 ⟨xa, rfl, ha, k4⟩)
          obtain ⟨Aa, ca, rfl⟩ := ha.shape
          obtain ⟨p, hp⟩ : ∃ p, p = A0.length := ⟨_, rfl⟩
          rw [← hp] at ha hA1 HNO ⊢
          obtain ⟨-, ha1, ha2⟩ := (show Ints w4 (.slice Aa p ca) A0 from ha).len
          have HAA := hid ha
          have HK4 := hid (show Kept w w4 from (HK.out.trans hKX).trans (HKR.out.trans k4))
          clear ha k4 z0 z1 z2 z3 hp hKX
          go_loopw [12] (fun t wr => ∃ i : Nat, i ≤ p ∧ t = .int .i64 i ∧ Kept w4 wr) (fun t _ => p - (intOf t).toNat)
          case atStart => exact ⟨0, by omega, rfl, Kept.refl _⟩
          case round =>
            obtain ⟨i, hi, rfl, hki⟩ := hrel
            have HKI := hid hki; clear hki
            obtain ⟨Wi, rfl⟩ : ∃ Wi : World, Wi = wr := ⟨_, rfl⟩
            by_cases hlt : i < p
            · have hi0 : (0 : Int) ≤ (i : Int) := by omega
              have hi1 : (i : Int) < (p : Int) := by omega
              go_wp2
              go_loopw [13] (fun t wr => ∃ k : Nat, k ≤ m ∧ t = .int .i64 k ∧ Kept Wi wr) (fun t _ => m - (intOf t).toNat)
              case atStart => exact ⟨0, by omega, rfl, Kept.refl _⟩
              case round =>
                obtain ⟨k, hk, rfl, hkk⟩ := hrel
                have HKK := hid hkk; clear hkk
                by_cases hlk : k < m
                · obtain ⟨hn1, hn2, hn3⟩ := HNO.out i k hlt hlk
                  obtain ⟨ba, oa, rfl, hcl⟩ := HAA.out.cells (by omega)
                  have hca := HKK.out.keeps (HKI.out.keeps (hcl i hlt))
                  clear hcl
                  obtain ⟨bm, om, rfl, hcl⟩ := HLT.out.cells (by omega)
                  have hcm := HKK.out.keeps (HKI.out.keeps (HK4.out.keeps (hcl k hlk)))
                  clear hcl
                  have hk0 : (0 : Int) ≤ (k : Int) := by omega
                  have hk1 : (k : Int) < (m : Int) := by omega
                  generalize M.getD k 0 = a at *
                  generalize A0.getD i 0 = y at *
                  have hwr : IntKind.i64.wrap (a - 1) = a - 1 := IntWalk.i64_in _ (by omega)
                  go_wp2
                  go_quiet (fail)
                  go_wp2
                  go_roundw
                  case rel => exact ⟨k + 1, by omega, by go_num, HKK.out.trans (by repeat (first | exact Kept.refl _ | assumption | refine Kept.alloc ?_ _ | refine Kept.drew ?_ | refine Kept.drewN ?_ _ | refine Kept.setCell ?_ (by simp; try omega) _ | refine Kept.trans ?_ (by assumption)))⟩
                  case measure => simp [intOf]; omega
                · obtain rfl : k = m := by omega
                  go_wp2
                  go_roundw
                  case rel => exact ⟨i + 1, by omega, by go_num, HKI.out.trans HKK.out⟩
                  case measure => simp [intOf]; omega
            · obtain rfl : i = p := by omega
              go_wp2_with (go_at_call 11; refine (HAW.out _).mono ?_; rintro e w6 ⟨rfl, k6⟩)
              go_ret
              exact ⟨rfl, (HK4.out.trans HKI.out).trans k6⟩
    · have hN0 : N = 0 := by rw [HN.out, cntN, if_neg (by rw [← HE.out]; exact hE0)]
      have hne : (E != 0) = true := by simpa using hE0
      subst hN0
      clear hE0
      go_wp2_with (first
        | (go_at_call 11; refine (HAW.out _).mono ?_; rintro e w6 ⟨rfl, k6⟩))
      go_ret
      exact ⟨rfl, (HK.out.trans K2.out).trans (by repeat (first | exact Kept.refl _ | assumption | refine Kept.alloc ?_ _ | refine Kept.drew ?_ | refine Kept.drewN ?_ _ | refine Kept.setCell ?_ (by simp; try omega) _ | refine Kept.trans ?_ (by assumption)))⟩)
theorem once_at {w : World} (d l v s : Int) (L : List Int) (vl : Value) (hL : Ints w vl L) (_ : World) :
    Calls Try.prog 6 #[.agg #[.int .i64 d, .int .i64 l, .int .i64 v, .int .i64 s], vl] w fun e w' => e = .returned (.bool true) ∧ Kept w w' := once_walk d l v s L vl w hL
end Go.Proofs.Ytnpkoncflplpiaa
