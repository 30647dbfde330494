/- UsageRound: the walk. -/
import Derived.Test.Ytnpkoncflplpiaa15U
import Derived.Deep.Cut
import Derived.Outline
namespace Go.Proofs.Ytnpkoncflplpiaa
set_option linter.unusedSimpArgs false
set_option linter.unusedVariables false
open Go.RowKit

def CntAt (E : Int) (N : Nat) (f : Nat → Int) (w : World) (e : Ending) (w' : World) : Prop :=
  ∃ x, e = .returned (.tuple #[x, .int .i64 E]) ∧ Uses w' x N f (fun _ => 0) ∧ Kept w w'
theorem cnt_at (d l v s : Int) (M : List Int) (a b : Value) (w : World) (ha : Ints w a M) (hb : Ints w b (zs M.length)) :
    Calls Try.prog 8 #[.agg #[.int .i64 d, .int .i64 l, .int .i64 v, .int .i64 s], a, b] w (CntAt (cntE d l v s M (zs M.length)) (cntN d l v s M (zs M.length)) (fun k : Nat => liveTo M (k : Int) M.length) w) := by
  refine (cntp_any d l v s M (zs M.length) a b w ha hb).mono fun e w' h => ?_
  obtain ⟨x, he, hu, hk⟩ := h.out
  refine ⟨x, he, ?_, hk⟩
  have : (fun k : Nat => tickTo M (zs M.length) k M.length) = fun _ => 0 := funext fun k => tick_zs _ _ _ _
  rwa [this] at hu
theorem cnt_rev (d l v s : Int) (M : List Int) (a b : Value) (w : World) (ha : Ints w a M.reverse) (hb : Ints w b (zs M.length)) :
    Calls Try.prog 8 #[.agg #[.int .i64 d, .int .i64 l, .int .i64 v, .int .i64 s], a, b] w (CntAt (cntE d l v s M (zs M.length)) (cntN d l v s M (zs M.length)) (fun k : Nat => liveTo M (k : Int) M.length) w) := by
  refine (cntp_any d l v s M.reverse (zs M.length) a b w ha hb).mono fun e w' h => ?_
  obtain ⟨x, he, hu, hk⟩ := h.out
  rw [cntE_rev] at he
  refine ⟨x, he, ?_, hk⟩
  have h1 : (fun k : Nat => tickTo M.reverse (zs M.length) k M.reverse.length) = fun _ => 0 := funext fun k => tick_zs _ _ _ _
  have h2 : (fun k : Nat => liveTo M.reverse (k : Int) M.reverse.length) = fun k : Nat => liveTo M (k : Int) M.length := funext fun k => live_rev M k
  have h3 : cntN d l v s M.reverse (zs M.length) = cntN d l v s M (zs M.length) := cntN_rev d l v s M
  rwa [h1, h2, h3] at hu

/-- a number put behind the numbers so far, from the last one on -/
theorem rev_snoc (M : List Int) (q : Nat) (hq : q < M.length) : M.reverse.take (M.length - (q + 1)) ++ [M.getD q 0] = M.reverse.take (M.length - q) := by
  rw [show M.length - q = (M.length - (q + 1)) + 1 by omega, List.take_succ_eq_append_getElem (by rw [List.length_reverse]; omega), List.getElem_reverse]
  congr 2
  rw [List.getD_eq_getElem?_getD, List.getElem?_eq_getElem hq]
  show M[q] = _
  congr 1; omega

set_option maxRecDepth 100000 in
set_option maxHeartbeats 4000000 in
theorem round_walk (d l v s u : Int) (L : List Int) (vl : Value) (w : World) (hL : Ints w vl L) (hu0 : 0 ≤ u) (hu1 : u ≤ 255) :
    Calls Try.prog 5 #[.agg #[.int .i64 d, .int .i64 l, .int .i64 v, .int .i64 s], vl, .int .u8 u] w fun e w' => e = .returned (.bool true) ∧ Kept w w' := by
  obtain ⟨A, c, rfl⟩ := hL.shape
  have HLT : Hid (Ints w (.slice A (min L.length 60) c) (L.take 60)) := by have := hL.take (min L.length 60) (by omega); rw [take_min] at this; exact hid this
  obtain ⟨-, hl1, hl2⟩ := hL.len
  have hlen : (L.take 60).length = min L.length 60 := by rw [List.length_take]; omega
  obtain ⟨m, hm⟩ : ∃ m, m = min L.length 60 := ⟨_, rfl⟩
  rw [← hm] at HLT hlen
  have HF := hid (fun w => few_val A L.length c m w hl1 hl2 hm)
  have hm60 : m ≤ 60 := by omega
  have hmc : m ≤ c := by omega
  generalize L.length = n0 at *
  generalize L.take 60 = M at *
  subst hlen
  clear hL hm
  have hmk := make_ints M.length (by omega)
  have HCA := hid (cnt_at d l v s M)
  have HCB := hid (cnt_rev d l v s M)
  have HAW := hid awake_any
  have HMD := hid (fun w t => ints_made w M.length t hm60)
  have HRV := hid (rev_snoc M)
  have HRL := hid (show M.reverse.length = M.length from List.length_reverse)
  obtain ⟨E, hE⟩ : ∃ E, E = cntE d l v s M (zs M.length) := ⟨_, rfl⟩
  obtain ⟨N, hN⟩ : ∃ N, N = cntN d l v s M (zs M.length) := ⟨_, rfl⟩
  obtain ⟨f, hf⟩ : ∃ f : Nat → Int, f = fun k : Nat => liveTo M (k : Int) M.length := ⟨_, rfl⟩
  have HE := hid hE; have HN := hid hN
  rw [← hE, ← hN, ← hf] at HCA HCB
  have HFB := hid (show ∀ n k, k < n → -9223372036854775808 ≤ f k ∧ f k ≤ 9223372036854775807 from fun n k _ => by
    rw [hf]; have := liveTo_bd M k M.length; dsimp only; omega)
  clear hf
  clear hE hN
  obtain ⟨m, hm⟩ : ∃ m, m = M.length := ⟨_, rfl⟩
  rw [← hm] at HLT HF hm60 hmc hmk HMD HRL HCA HCB HE HN
  simp only [← hm] at HRV
  have HM := hid hm
  clear hm
  go_enter Try.func5, Try.ntmps5
  go_wp2_with (go_at_call 7; refine (HF.out _).mono ?_; rintro e w1 ⟨rfl, rfl⟩)
  obtain ⟨H, hH⟩ : ∃ H, H = w.heap.size := ⟨_, rfl⟩
  obtain ⟨W1, hW1⟩ : ∃ W1 : World, W1 = w.alloc (.cells #[.int .i64 d, .int .i64 l, .int .i64 v, .int .i64 s] 23) := ⟨_, rfl⟩
  have KW : Kept w W1 := by rw [hW1]; exact (Kept.refl w).alloc _
  have c0 : W1.cell? ⟨H, 0, none⟩ = some (.int .i64 d) := by rw [hW1, hH]; simp [go_sem]
  have c1 : W1.cell? ⟨H, 1, none⟩ = some (.int .i64 l) := by rw [hW1, hH]; simp [go_sem]
  have c2 : W1.cell? ⟨H, 2, none⟩ = some (.int .i64 v) := by rw [hW1, hH]; simp [go_sem]
  have c3 : W1.cell? ⟨H, 3, none⟩ = some (.int .i64 s) := by rw [hW1, hH]; simp [go_sem]
  rw [← hW1, ← hH]
  have HK := hid KW
  have HS := hid (fun (w' : World) (hk : Kept W1 w') => (⟨hk, hk.keeps c0, hk.keeps c1, hk.keeps c2, hk.keeps c3⟩ : Kept W1 w' ∧ w'.cell? ⟨H, 0, none⟩ = some (.int .i64 d) ∧ w'.cell? ⟨H, 1, none⟩ = some (.int .i64 l) ∧ w'.cell? ⟨H, 2, none⟩ = some (.int .i64 v) ∧ w'.cell? ⟨H, 3, none⟩ = some (.int .i64 s)))
  clear hW1 hH KW c0 c1 c2 c3
  go_region_held3 (fun w' => Kept W1 w' ∧ w'.cell? ⟨H, 0, none⟩ = some (.int .i64 d) ∧ w'.cell? ⟨H, 1, none⟩ = some (.int .i64 l) ∧ w'.cell? ⟨H, 2, none⟩ = some (.int .i64 v) ∧ w'.cell? ⟨H, 3, none⟩ = some (.int .i64 s))
    (first | exact HS.out _ (Kept.refl _) | (go_split_ands; exact HS.out _ (by repeat (first | exact Kept.refl _ | assumption | refine Kept.alloc ?_ _ | refine Kept.drew ?_ | refine Kept.drewN ?_ _ | refine Kept.setCell ?_ (by simp; try omega) _ | refine Kept.trans ?_ (by assumption)))))
    (first
    | (go_at_call 8; refine (HCA.out _ _ _ ?_ ?_).mono ?_; (focus exact (Kept.ints (HK.out.trans (show Kept W1 _ from (by repeat (first | exact Kept.refl _ | assumption | refine Kept.alloc ?_ _ | refine Kept.drew ?_ | refine Kept.drewN ?_ _ | refine Kept.setCell ?_ (by simp; try omega) _ | refine Kept.trans ?_ (by assumption))))) HLT.out)); (focus exact HMD.out _ _); rintro e w2 ⟨x, rfl, hx, k2⟩; have HX := hid hx; have K2 := hid (show Kept W1 w2 from (by repeat (first | exact Kept.refl _ | assumption | refine Kept.alloc ?_ _ | refine Kept.drew ?_ | refine Kept.drewN ?_ _ | refine Kept.setCell ?_ (by simp; try omega) _ | refine Kept.trans ?_ (by assumption)))); clear hx))
  all_goals (
    have hKX : Kept W1 w2 := K2.out
    go_wp2_with fail
    go_loopw [9, 10] (fun bk i wr => ∃ j : Nat, j ≤ m ∧ i = .int .i64 ((j : Int) - 1) ∧ wr.ownsRow w2.heap.size 3 1 bk (m - j) ((M.reverse.take (m - j)).map (Value.int .i64)) ∧ Kept w2 wr) (fun _ i _ => (intOf i + 1).toNat)
    case atStart => exact ⟨m, Nat.le_refl _, by simp, by rw [Nat.sub_self]; exact World.ownsRow_nil _ _ _ _, Kept.refl _⟩
    case round =>
      obtain ⟨j, hj, rfl, hown, hkr⟩ := hrel
      have HO := hid hown; have HKR := hid hkr
      clear hown hkr
      rcases j with _ | q
      · have hB : (M.reverse.take (m - 0)) = M.reverse := List.take_of_length_le (by rw [HRL.out]; omega)
        have hbk := (ints_own HO.out).1
        rw [hB] at hbk
        have HBK := hid hbk
        have HKR1 := hid (hKX.trans HKR.out)
        clear hbk hB HRV
        obtain ⟨Wr, rfl⟩ : ∃ Wr : World, Wr = wr := ⟨_, rfl⟩
        obtain ⟨z0, z1, z2, z3⟩ := (HS.out _ HKR1.out).2
        have HS2 := hid (fun (w' : World) (hk : Kept Wr w') => (⟨hk, hk.keeps z0, hk.keeps z1, hk.keeps z2, hk.keeps z3⟩ : Kept Wr w' ∧ w'.cell? ⟨H, 0, none⟩ = some (.int .i64 d) ∧ w'.cell? ⟨H, 1, none⟩ = some (.int .i64 l) ∧ w'.cell? ⟨H, 2, none⟩ = some (.int .i64 v) ∧ w'.cell? ⟨H, 3, none⟩ = some (.int .i64 s)))
        clear z0 z1 z2 z3 hKX
        have hneg : decide ((0 : Int) ≤ -1) = false := rfl
        rw [show (((0 : Nat) : Int) - 1) = -1 from rfl]
        go_wp2_with fail
        go_region_held3 (fun w' => Kept Wr w' ∧ w'.cell? ⟨H, 0, none⟩ = some (.int .i64 d) ∧ w'.cell? ⟨H, 1, none⟩ = some (.int .i64 l) ∧ w'.cell? ⟨H, 2, none⟩ = some (.int .i64 v) ∧ w'.cell? ⟨H, 3, none⟩ = some (.int .i64 s))
          (first | exact HS2.out _ (Kept.refl _) | (go_split_ands; exact HS2.out _ (by repeat (first | exact Kept.refl _ | assumption | refine Kept.alloc ?_ _ | refine Kept.drew ?_ | refine Kept.drewN ?_ _ | refine Kept.setCell ?_ (by simp; try omega) _ | refine Kept.trans ?_ (by assumption)))))
          (first
          | (go_at_call 8; refine (HCB.out _ _ _ ?_ ?_).mono ?_; (focus exact (Kept.ints (show Kept Wr _ from (by repeat (first | exact Kept.refl _ | assumption | refine Kept.alloc ?_ _ | refine Kept.drew ?_ | refine Kept.drewN ?_ _ | refine Kept.setCell ?_ (by simp; try omega) _ | refine Kept.trans ?_ (by assumption)))) HBK.out)); (focus exact HMD.out _ _); rintro e w4 ⟨y, rfl, hy, k4⟩; have HY := hid hy; have K4 := hid (show Kept Wr w4 from (by repeat (first | exact Kept.refl _ | assumption | refine Kept.alloc ?_ _ | refine Kept.drew ?_ | refine Kept.drewN ?_ _ | refine Kept.setCell ?_ (by simp; try omega) _ | refine Kept.trans ?_ (by assumption)))); clear hy))
        all_goals (
          obtain ⟨Ax, cx, rfl⟩ := HX.out.shape
          have hEE : (E != E) = false := by simp
          have hKW := HKR.out
          by_cases hE0 : E = 0
          · subst hE0
            have hmay : mayB d l v s = true := by
              have h := HE.out
              rw [HM.out, cntE_zs] at h
              cases hb : mayB d l v s with
              | true => rfl
              | false => rw [hb] at h; simp at h
            have hNs : (N : Int) = segsF d l v s := by
              have h := HN.out
              rw [cntN, if_pos HE.out.symm] at h
              have := segsF_bd d l v s
              omega
            have hdl : 1 ≤ d - l ∧ 0 ≤ l ∧ d ≤ 256 := by
              obtain ⟨b1, b2, b3, b4, b5, b6, b7, b8⟩ := mayB_of hmay
              omega
            obtain ⟨hd1, hl0, hd2⟩ := hdl
            have hq0 : 0 ≤ u % (d - l) := Int.emod_nonneg _ (by omega)
            have hq1 : u % (d - l) < d - l := Int.emod_lt_of_pos _ (by omega)
            obtain ⟨at', hat⟩ : ∃ at' : Nat, u % (d - l) = (at' : Int) := ⟨(u % (d - l)).toNat, by omega⟩
            rw [hat] at hq1
            have HFA := hid (fun x w' (h : Uses w' x N f (fun _ => 0)) => free_any d l v s 0 x (.slice none 0 0) N f (fun _ => 0) [] w' h (ints_nil _) (by simp) (HFB.out N))
            have HFT := hid (fun x w' (h : Uses w' x N f (fun _ => 0)) => free_any d l v s (at' : Int) x (.slice none 0 0) N f (fun _ => 0) [] w' h (ints_nil _) (by simp) (HFB.out N))
            have HRL2 := hid (round_len d l v s N f at' hmay hNs hq1)
            have HRA := hid (fun k => round_ans d l v s N f at' k hmay hNs hq1)
            have hA0 := free_len_le d l v s N f [] 0
            obtain ⟨A0, hA0e⟩ : ∃ A0, A0 = freeAns d l v s N f [] 0 := ⟨_, rfl⟩
            obtain ⟨A1, hA1e⟩ : ∃ A1, A1 = freeAns d l v s N f [] at' := ⟨_, rfl⟩
            rw [← hA0e] at HFA HRL2 HRA hA0
            rw [← hA1e] at HFT HRL2 HRA
            obtain ⟨p, hp⟩ : ∃ p, p = A0.length := ⟨_, rfl⟩
            rw [← hp] at HRL2 HRA hA0
            have hp1 : p ≤ 512 := by omega
            have HP := hid hp
            have HMAY := hid hmay
            clear hA0e hA1e hA0 hp hmay hNs hq0 hEE
            have hndl : ¬ d ≤ l := by omega
            go_wp2_with (first
              | (go_at_call 10; (with_reducible refine (usame_t _ _ N f (fun _ => 0) _ ?_ ?_).mono ?_); (focus exact (Kept.uses (w := w2) (hKW.trans (show Kept Wr _ from (by repeat (first | exact Kept.refl _ | assumption | refine Kept.alloc ?_ _ | refine Kept.drew ?_ | refine Kept.drewN ?_ _ | refine Kept.setCell ?_ (by simp; try omega) _ | refine Kept.trans ?_ (by assumption))))) HX.out)); (focus exact (Kept.uses (w := w4) (by repeat (first | exact Kept.refl _ | assumption | refine Kept.alloc ?_ _ | refine Kept.drew ?_ | refine Kept.drewN ?_ _ | refine Kept.setCell ?_ (by simp; try omega) _ | refine Kept.trans ?_ (by assumption))) HY.out)); rintro e w5 ⟨rfl, k5⟩; obtain ⟨-, z0, z1, z2, z3⟩ := HS2.out w5 (by repeat (first | exact Kept.refl _ | assumption | refine Kept.alloc ?_ _ | refine Kept.drew ?_ | refine Kept.drewN ?_ _ | refine Kept.setCell ?_ (by simp; try omega) _ | refine Kept.trans ?_ (by assumption)))))
            have HK5 := hid (show Kept Wr w5 from (by repeat (first | exact Kept.refl _ | assumption | refine Kept.alloc ?_ _ | refine Kept.drew ?_ | refine Kept.drewN ?_ _ | refine Kept.setCell ?_ (by simp; try omega) _ | refine Kept.trans ?_ (by assumption))))
            have HX5 := hid (Kept.uses (w := w2) (hKW.trans HK5.out) HX.out)
            have HS5 := hid (fun (w' : World) (hk : Kept w5 w') => (⟨hk, hk.keeps z0, hk.keeps z1, hk.keeps z2, hk.keeps z3⟩ : Kept w5 w' ∧ w'.cell? ⟨H, 0, none⟩ = some (.int .i64 d) ∧ w'.cell? ⟨H, 1, none⟩ = some (.int .i64 l) ∧ w'.cell? ⟨H, 2, none⟩ = some (.int .i64 v) ∧ w'.cell? ⟨H, 3, none⟩ = some (.int .i64 s)))
            rw [hat]
            clear z0 z1 z2 z3 k5 k4 hKW hat hq1
            go_cut [14, 15] from 17 (fun v14 v15 w' => Ints w' v14 A0 ∧ Ints w' v15 A1 ∧ Kept w5 w')
            case first =>
              go_region_held3 (fun w' => Kept w5 w' ∧ w'.cell? ⟨H, 0, none⟩ = some (.int .i64 d) ∧ w'.cell? ⟨H, 1, none⟩ = some (.int .i64 l) ∧ w'.cell? ⟨H, 2, none⟩ = some (.int .i64 v) ∧ w'.cell? ⟨H, 3, none⟩ = some (.int .i64 s))
                (first | exact HS5.out _ (Kept.refl _) | (go_split_ands; exact HS5.out _ (by repeat (first | exact Kept.refl _ | assumption | refine Kept.alloc ?_ _ | refine Kept.drew ?_ | refine Kept.drewN ?_ _ | refine Kept.setCell ?_ (by simp; try omega) _ | refine Kept.trans ?_ (by assumption)))))
                (first
                | (go_at_call 14; (with_reducible refine (HFA.out _ _ ?_).mono ?_); (focus exact (Kept.uses (w := w5) (by repeat (first | exact Kept.refl _ | assumption | refine Kept.alloc ?_ _ | refine Kept.drew ?_ | refine Kept.drewN ?_ _ | refine Kept.setCell ?_ (by simp; try omega) _ | refine Kept.trans ?_ (by assumption))) HX5.out)); rintro e w6 ⟨xa, rfl, ha, k6⟩; have HXA := hid ha; clear ha)
                | (go_at_call 14; (with_reducible refine (HFT.out _ _ ?_).mono ?_); (focus exact (Kept.uses (w := w5) (by repeat (first | exact Kept.refl _ | assumption | refine Kept.alloc ?_ _ | refine Kept.drew ?_ | refine Kept.drewN ?_ _ | refine Kept.setCell ?_ (by simp; try omega) _ | refine Kept.trans ?_ (by assumption))) HX5.out)); rintro e w7 ⟨xb, rfl, hb, k7⟩; have HXB := hid hb; clear hb))
              all_goals (
                go_wp2_with fail
                go_meet
                exact ⟨Kept.ints (w := w6) (by repeat (first | exact Kept.refl _ | assumption | refine Kept.alloc ?_ _ | refine Kept.drew ?_ | refine Kept.drewN ?_ _ | refine Kept.setCell ?_ (by simp; try omega) _ | refine Kept.trans ?_ (by assumption))) HXA.out, Kept.ints (w := w7) (by repeat (first | exact Kept.refl _ | assumption | refine Kept.alloc ?_ _ | refine Kept.drew ?_ | refine Kept.drewN ?_ _ | refine Kept.setCell ?_ (by simp; try omega) _ | refine Kept.trans ?_ (by assumption))) HXB.out, (by repeat (first | exact Kept.refl _ | assumption | refine Kept.alloc ?_ _ | refine Kept.drew ?_ | refine Kept.drewN ?_ _ | refine Kept.setCell ?_ (by simp; try omega) _ | refine Kept.trans ?_ (by assumption)))⟩)
            case rest =>
              obtain ⟨ha, hb, hkc⟩ := hcut
              have hc6 := ha.shape
              obtain ⟨Aa, ca, rfl⟩ := hc6
              obtain ⟨Ab, cb, rfl⟩ := hb.shape
              obtain ⟨-, ha1, ha2⟩ := ha.len
              rw [HRL2.out] at hb ⊢
              rw [← HP.out] at ha ha1 ⊢
              have HAA := hid ha; have HBB := hid hb; have HKC := hid hkc
              clear ha hb hkc
              have hpp : ((p : Int) != (p : Int)) = false := by simp
              go_wp2_with fail
              go_loop [16] (fun t => ∃ k : Nat, k ≤ p ∧ t = .int .i64 k ∧ ∀ j, j < k → A0.getD j 0 < (at' : Int)) (fun t => p - (intOf t).toNat)
              case atStart => exact ⟨0, by omega, rfl, fun j hj => by omega⟩
              case round =>
                obtain ⟨k, hkp, rfl, hlt⟩ := hrel
                have HLTS := hid hlt; clear hlt
                by_cases hgo : k < p ∧ A0.getD k 0 < (at' : Int)
                · obtain ⟨h1, h2⟩ := hgo
                  have HNX := hid (show ∀ j, j < k + 1 → A0.getD j 0 < (at' : Int) from fun j hj => by
                    rcases Nat.lt_or_ge j k with h | h
                    · exact HLTS.out j h
                    · obtain rfl : j = k := by omega
                      exact h2)
                  obtain ⟨bq, oq, rfl, hcl⟩ := HAA.out.cells (by omega)
                  have hck := hcl k h1
                  have hk0 : (0 : Int) ≤ (k : Int) := by omega
                  have hk1 : (k : Int) < (p : Int) := by omega
                  clear hcl
                  generalize A0.getD k 0 = y at *
                  go_wp2
                  go_round
                  case rel => exact ⟨k + 1, by omega, by go_num, HNX.out⟩
                  case measure => simp [intOf]; omega
                · have HANS := hid (HRA.out k (by omega) HLTS.out (fun h => by
                    rcases Int.lt_or_le (A0.getD k 0) (at' : Int) with h' | h'
                    · exact absurd ⟨h, h'⟩ hgo
                    · exact h'))
                  have HD := hid (HAA.out.drop k hkp)
                  have HT := hid (HAA.out.take k hkp)
                  have hkc : k ≤ ca := by omega
                  have hk0 : (0 : Int) ≤ (k : Int) := by omega
                  have hk1 : (k : Int) ≤ (p : Int) := by omega
                  have hk2 : (k : Int) ≤ (ca : Int) := by omega
                  have hl1 : (A0.drop k).length ≤ 512 := by rw [List.length_drop, ← HP.out]; omega
                  have hl2 : (A0.take k).length ≤ 512 := by rw [List.length_take, ← HP.out]; omega
                  obtain ⟨D, hDe⟩ : ∃ D, D = A0.drop k := ⟨_, rfl⟩
                  obtain ⟨Tk, hTe⟩ : ∃ Tk, Tk = A0.take k := ⟨_, rfl⟩
                  rw [← hDe] at HANS HD hl1
                  rw [← hTe] at HANS HT hl2
                  clear hDe hTe HLTS
                  obtain ⟨Wc, rfl⟩ : ∃ Wc : World, Wc = wc := ⟨_, rfl⟩
                  by_cases hlt : k < p
                  · have hge : (at' : Int) ≤ A0.getD k 0 := by
                      rcases Int.lt_or_le (A0.getD k 0) (at' : Int) with h' | h'
                      · exact absurd ⟨hlt, h'⟩ hgo
                      · exact h'
                    obtain ⟨bq, oq, rfl, hcl⟩ := HAA.out.cells (by omega)
                    have hck := hcl k hlt
                    clear hcl hgo
                    generalize A0.getD k 0 = y at *
                    have hck2 : ¬ ca = k := by omega
                    rw [if_neg hck2, Option.map_some, addr_add] at HD
                    go_wp2_with fail
                    go_region_held3 (fun w' => Kept Wc w') (first | exact Kept.refl _ | (go_split_ands; exact (by repeat (first | exact Kept.refl _ | assumption | refine Kept.alloc ?_ _ | refine Kept.drew ?_ | refine Kept.drewN ?_ _ | refine Kept.setCell ?_ (by simp; try omega) _ | refine Kept.trans ?_ (by assumption)))))
                      (first
                      | (refine step_append_ints rfl (.tmp 110) (.tmp 113) (by rfl) Wc.heap.size (.slice (some ⟨Wc.heap.size, 0, none⟩) 0 0) 0 [] D _ (by rfl) ?_ (by rfl) ?_ ?_ ?_ ?_; (focus exact (World.ownsRow_made Wc _ 0 (Nat.le_refl _) (by decide) (by simp))); (focus exact (Kept.ints (w := Wc) (by repeat (first | exact Kept.refl _ | assumption | refine Kept.alloc ?_ _ | refine Kept.drew ?_ | refine Kept.drewN ?_ _ | refine Kept.setCell ?_ (by simp; try omega) _ | refine Kept.trans ?_ (by assumption))) HD.out)); (focus omega); (focus exact Kept.size (show Kept Wc _ from (by repeat (first | exact Kept.refl _ | assumption | refine Kept.alloc ?_ _ | refine Kept.drew ?_ | refine Kept.drewN ?_ _ | refine Kept.setCell ?_ (by simp; try omega) _ | refine Kept.trans ?_ (by assumption))))); intro v8 w8 ho8 hg8; have O8 := hid ho8; have K8 := hid (show Kept Wc w8 from Kept.grown (show Kept Wc _ from (by repeat (first | exact Kept.refl _ | assumption | refine Kept.alloc ?_ _ | refine Kept.drew ?_ | refine Kept.drewN ?_ _ | refine Kept.setCell ?_ (by simp; try omega) _ | refine Kept.trans ?_ (by assumption)))) hg8 (fun k e => by cases e; exact Nat.le_refl _)); clear ho8)
                      | (refine step_append_ints rfl (.tmp 114) (.tmp 117) (by rfl) Wc.heap.size v8 (0 + D.length) ([] ++ D) Tk _ (by rfl) ?_ (by rfl) ?_ ?_ ?_ ?_; (focus exact O8.out); (focus exact (Kept.ints K8.out HT.out)); (focus omega); (focus exact K8.out.size); intro v9 w9 ho9 hg9; have O9 := hid (ints_own ho9).1; have K9 := hid (show Kept Wc w9 from Kept.grown K8.out hg9 (fun k e => (O8.out.lt k e).1)); clear ho9)
                      | (go_at_call 13; (with_reducible refine (same_t _ v9 A1 ([] ++ D ++ Tk) _ (Kept.ints ?_ HBB.out) O9.out ?_).mono ?_); (focus exact K9.out); (focus (rw [HANS.out]; rfl)); rintro e w10 ⟨rfl, k10⟩)
                      | (go_at_call 11; refine (HAW.out _).mono ?_; rintro e w11 ⟨rfl, k11⟩))
                    all_goals (
                      go_wp2_with fail
                      go_ret
                      exact ⟨rfl, ((HK.out.trans HKR1.out).trans (HK5.out.trans HKC.out)).trans ((K9.out.trans k10).trans k11)⟩)
                  · obtain rfl : k = p := by omega
                    obtain rfl : D = [] := by
                      have h := HD.out.len.1
                      exact List.eq_nil_of_length_eq_zero (by omega)
                    have HDE := hid (fun (w : World) (X : Option Addr) (c : Nat) (h : c ≤ 9223372036854775807) (hz : X = none → c = 0) => (⟨X, c, rfl, by simp, h, hz, by simp⟩ : Ints w (.slice X 0 c) []))
                    have hca : ca - k ≤ 9223372036854775807 := by omega
                    clear hgo hlt hkp hk1
                    by_cases hck2 : ca = k
                    · subst hck2
                      rw [if_pos rfl] at HD
                      go_wp2_with fail
                      go_region_held3 (fun w' => Kept Wc w') (first | exact Kept.refl _ | (go_split_ands; exact (by repeat (first | exact Kept.refl _ | assumption | refine Kept.alloc ?_ _ | refine Kept.drew ?_ | refine Kept.drewN ?_ _ | refine Kept.setCell ?_ (by simp; try omega) _ | refine Kept.trans ?_ (by assumption)))))
                        (first
                        | (refine step_append_ints rfl (.tmp 110) (.tmp 113) (by rfl) Wc.heap.size (.slice (some ⟨Wc.heap.size, 0, none⟩) 0 0) 0 [] [] _ (by rfl) ?_ (by rfl) ?_ ?_ ?_ ?_; (focus exact (World.ownsRow_made Wc _ 0 (Nat.le_refl _) (by decide) (by simp))); (focus exact HDE.out _ _ _ (by omega) (by simp)); (focus omega); (focus exact Kept.size (show Kept Wc _ from (by repeat (first | exact Kept.refl _ | assumption | refine Kept.alloc ?_ _ | refine Kept.drew ?_ | refine Kept.drewN ?_ _ | refine Kept.setCell ?_ (by simp; try omega) _ | refine Kept.trans ?_ (by assumption))))); intro v8 w8 ho8 hg8; have O8 := hid ho8; have K8 := hid (show Kept Wc w8 from Kept.grown (show Kept Wc _ from (by repeat (first | exact Kept.refl _ | assumption | refine Kept.alloc ?_ _ | refine Kept.drew ?_ | refine Kept.drewN ?_ _ | refine Kept.setCell ?_ (by simp; try omega) _ | refine Kept.trans ?_ (by assumption)))) hg8 (fun k e => by cases e; exact Nat.le_refl _)); clear ho8)
                        | (refine step_append_ints rfl (.tmp 114) (.tmp 117) (by rfl) Wc.heap.size v8 (0 + ([] : List Int).length) ([] ++ []) Tk _ (by rfl) ?_ (by rfl) ?_ ?_ ?_ ?_; (focus exact O8.out); (focus exact (Kept.ints K8.out HT.out)); (focus omega); (focus exact K8.out.size); intro v9 w9 ho9 hg9; have O9 := hid (ints_own ho9).1; have K9 := hid (show Kept Wc w9 from Kept.grown K8.out hg9 (fun k e => (O8.out.lt k e).1)); clear ho9)
                        | (go_at_call 13; (with_reducible refine (same_t _ v9 A1 ([] ++ [] ++ Tk) _ (Kept.ints ?_ HBB.out) O9.out ?_).mono ?_); (focus exact K9.out); (focus (rw [HANS.out]; rfl)); rintro e w10 ⟨rfl, k10⟩)
                        | (go_at_call 11; refine (HAW.out _).mono ?_; rintro e w11 ⟨rfl, k11⟩))
                      all_goals (
                        go_wp2_with fail
                        go_ret
                        exact ⟨rfl, ((HK.out.trans HKR1.out).trans (HK5.out.trans HKC.out)).trans ((K9.out.trans k10).trans k11)⟩)
                    · rw [if_neg hck2] at HD
                      rcases Aa with _ | ad
                      · have := HAA.out.nil0
                        omega
                      rw [Option.map_some] at HD
                      have hk3 : (k : Int) < (ca : Int) := by omega
                      go_wp2_with fail
                      go_region_held3 (fun w' => Kept Wc w') (first | exact Kept.refl _ | (go_split_ands; exact (by repeat (first | exact Kept.refl _ | assumption | refine Kept.alloc ?_ _ | refine Kept.drew ?_ | refine Kept.drewN ?_ _ | refine Kept.setCell ?_ (by simp; try omega) _ | refine Kept.trans ?_ (by assumption)))))
                        (first
                        | (refine step_append_ints rfl (.tmp 110) (.tmp 113) (by rfl) Wc.heap.size (.slice (some ⟨Wc.heap.size, 0, none⟩) 0 0) 0 [] [] _ (by rfl) ?_ (by rfl) ?_ ?_ ?_ ?_; (focus exact (World.ownsRow_made Wc _ 0 (Nat.le_refl _) (by decide) (by simp))); (focus exact HDE.out _ _ _ (by omega) (by simp)); (focus omega); (focus exact Kept.size (show Kept Wc _ from (by repeat (first | exact Kept.refl _ | assumption | refine Kept.alloc ?_ _ | refine Kept.drew ?_ | refine Kept.drewN ?_ _ | refine Kept.setCell ?_ (by simp; try omega) _ | refine Kept.trans ?_ (by assumption))))); intro v8 w8 ho8 hg8; have O8 := hid ho8; have K8 := hid (show Kept Wc w8 from Kept.grown (show Kept Wc _ from (by repeat (first | exact Kept.refl _ | assumption | refine Kept.alloc ?_ _ | refine Kept.drew ?_ | refine Kept.drewN ?_ _ | refine Kept.setCell ?_ (by simp; try omega) _ | refine Kept.trans ?_ (by assumption)))) hg8 (fun k e => by cases e; exact Nat.le_refl _)); clear ho8)
                        | (refine step_append_ints rfl (.tmp 114) (.tmp 117) (by rfl) Wc.heap.size v8 (0 + ([] : List Int).length) ([] ++ []) Tk _ (by rfl) ?_ (by rfl) ?_ ?_ ?_ ?_; (focus exact O8.out); (focus exact (Kept.ints K8.out HT.out)); (focus omega); (focus exact K8.out.size); intro v9 w9 ho9 hg9; have O9 := hid (ints_own ho9).1; have K9 := hid (show Kept Wc w9 from Kept.grown K8.out hg9 (fun k e => (O8.out.lt k e).1)); clear ho9)
                        | (go_at_call 13; (with_reducible refine (same_t _ v9 A1 ([] ++ [] ++ Tk) _ (Kept.ints ?_ HBB.out) O9.out ?_).mono ?_); (focus exact K9.out); (focus (rw [HANS.out]; rfl)); rintro e w10 ⟨rfl, k10⟩)
                        | (go_at_call 11; refine (HAW.out _).mono ?_; rintro e w11 ⟨rfl, k11⟩))
                      all_goals (
                        go_wp2_with fail
                        go_ret
                        exact ⟨rfl, ((HK.out.trans HKR1.out).trans (HK5.out.trans HKC.out)).trans ((K9.out.trans k10).trans k11)⟩)
          · have hN0 : N = 0 := by rw [HN.out, cntN, if_neg (by rw [← HE.out]; exact hE0)]
            have hne : (E != 0) = true := by simpa using hE0
            subst hN0
            clear hE0
            go_wp2_with (first
              | (go_at_call 10; (with_reducible refine (usame_t _ _ 0 f (fun _ => 0) _ ?_ ?_).mono ?_); (focus exact (Kept.uses (w := w2) (hKW.trans (show Kept Wr _ from (by repeat (first | exact Kept.refl _ | assumption | refine Kept.alloc ?_ _ | refine Kept.drew ?_ | refine Kept.drewN ?_ _ | refine Kept.setCell ?_ (by simp; try omega) _ | refine Kept.trans ?_ (by assumption))))) HX.out)); (focus exact (Kept.uses (w := w4) (by repeat (first | exact Kept.refl _ | assumption | refine Kept.alloc ?_ _ | refine Kept.drew ?_ | refine Kept.drewN ?_ _ | refine Kept.setCell ?_ (by simp; try omega) _ | refine Kept.trans ?_ (by assumption))) HY.out)); rintro e w5 ⟨rfl, k5⟩)
              | (go_at_call 11; refine (HAW.out _).mono ?_; rintro e w6 ⟨rfl, k6⟩))
            go_ret
            exact ⟨rfl, (HK.out.trans HKR1.out).trans (by repeat (first | exact Kept.refl _ | assumption | refine Kept.alloc ?_ _ | refine Kept.drew ?_ | refine Kept.drewN ?_ _ | refine Kept.setCell ?_ (by simp; try omega) _ | refine Kept.trans ?_ (by assumption)))⟩)
      · have HQ := hid (HRV.out q (by have := HM.out; omega))
        obtain ⟨b, o, rfl, hcl⟩ := HLT.out.cells (by omega)
        have hcq := HKR.out.keeps (K2.out.keeps (HK.out.keeps (hcl q (by omega))))
        clear hcl
        have hrow := HO.out
        rw [show ((q + 1 : Nat) : Int) - 1 = (q : Int) by omega]
        have hq0 : (0 : Int) ≤ (q : Int) := by omega
        have hq1 : (q : Int) < (m : Int) := by omega
        generalize M.getD q 0 = y at *
        go_wp2_with (at_builtin; refine wpList_pushI (W := w2) rfl (.tmp 35) (.tmp 40) rfl _ (m - (q + 1)) (M.reverse.take (m - (q + 1))) y 1 (wr.heap.size) rfl HO.out rfl rfl ?_ HKR.out ?_; (focus omega); intro v' w3 ho3 hk3; have O3 := hid ho3; have K3 := hid hk3; clear ho3 hk3)
        go_roundw
        case rel => exact ⟨q, by omega, by go_num, by rw [← HQ.out, show m - q = m - (q + 1) + 1 by omega]; exact O3.out, K3.out⟩
        case measure => simp [intOf])
theorem round_at {w : World} (d l v s : Int) (L : List Int) (vl : Value) (hL : Ints w vl L) (u : Int) (hu : 0 ≤ u ∧ u ≤ 255) (_ : World) :
    Calls Try.prog 5 #[.agg #[.int .i64 d, .int .i64 l, .int .i64 v, .int .i64 s], vl, .int .u8 u] w fun e w' => e = .returned (.bool true) ∧ Kept w w' := round_walk d l v s u L vl w hL hu.1 hu.2
end Go.Proofs.Ytnpkoncflplpiaa
