/- Package reach: Block. -/
import Derived.Test.YtepljgondmkljaaDoor8Reach2
namespace Go.Proofs.YtepljgondmkljaaDoor
set_option linter.unusedSimpArgs false
set_option linter.unusedVariables false
open Go.RowKit

theorem getD_drop (L : List Int) (k : Nat) (h : k < L.length) : L.drop k = L.getD k 0 :: L.drop (k + 1) := by
  rw [List.drop_eq_getElem_cons h]
  simp [List.getD_eq_getElem?_getD, List.getElem?_eq_getElem h]

def BlockPost (L : List Int) (w : World) (e : Ending) (w' : World) : Prop :=
  (match blkF L with | some n => e = .returned (.tuple #[.int .i64 n, .int .i64 0]) | none => e = .returned (.tuple #[.int .i64 0, .int .i64 4])) ∧ Kept w w'
theorem BlockPost.yes {L : List Int} {w w' : World} {n : Int} (h : blkF L = some n) (hk : Kept w w') : BlockPost L w (.returned (.tuple #[.int .i64 n, .int .i64 0])) w' := by
  unfold BlockPost; rw [h]; exact ⟨rfl, hk⟩
theorem BlockPost.no {L : List Int} {w w' : World} (h : blkF L = none) (hk : Kept w w') : BlockPost L w (.returned (.tuple #[.int .i64 0, .int .i64 4])) w' := by
  unfold BlockPost; rw [h]; exact ⟨rfl, hk⟩

theorem Tab.at_ {w : World} (h : Tab w) (k : Nat) (hk : k < 9) : w.cell? ⟨0, k, none⟩ = some (.int .i64 (manyOf k)) := by
  obtain ⟨t0, t1, t2, t3, t4, t5, t6, t7, t8⟩ := h
  match k, hk with
  | 0, _ => exact t0
  | 1, _ => exact t1
  | 2, _ => exact t2
  | 3, _ => exact t3
  | 4, _ => exact t4
  | 5, _ => exact t5
  | 6, _ => exact t6
  | 7, _ => exact t7
  | 8, _ => exact t8
theorem pre_succ (k : Nat) (hk : k < 8) : preOf ((k : Int) + 1) = preOf k + manyOf k := by
  match k, hk with
  | 0, _ => decide
  | 1, _ => decide
  | 2, _ => decide
  | 3, _ => decide
  | 4, _ => decide
  | 5, _ => decide
  | 6, _ => decide
  | 7, _ => decide
theorem pre_bd (k : Nat) (hk : k < 9) : 0 ≤ preOf k ∧ preOf k + manyOf k ≤ 3621 ∧ 1 ≤ manyOf k := by
  match k, hk with
  | 0, _ => decide
  | 1, _ => decide
  | 2, _ => decide
  | 3, _ => decide
  | 4, _ => decide
  | 5, _ => decide
  | 6, _ => decide
  | 7, _ => decide
  | 8, _ => decide
def Many (m : Int) : Prop := m = 1 ∨ m = 15 ∨ m = 225 ∨ m = 3375
theorem many_many (k : Int) : Many (manyOf k) := by
  unfold manyOf
  split
  · exact .inl rfl
  · split
    · exact .inr (.inl rfl)
    · split
      · exact .inr (.inr (.inl rfl))
      · exact .inr (.inr (.inr rfl))

set_option maxRecDepth 100000 in
set_option maxHeartbeats 2000000 in
theorem block_any (L : List Int) (v : Value) (w : World) (hL : Ints w v L) (ht : Tab w) : Calls Tryd.prog 6 #[v] w (BlockPost L w) := by
  obtain ⟨A, c, rfl⟩ := hL.shape
  have hlen := hL.len
  match L, hL, hlen with
  | [], hL, hlen =>
    clear hL hlen
    go_enter Tryd.func6, Tryd.ntmps6
    go_wp2
    go_ret2
    exact .no rfl (Kept.refl _)
  | t :: r, hL, hlen =>
    obtain ⟨b, o, rfl, hcell⟩ := hL.cells (by simp)
    have c0 := hcell 0 (by simp)
    simp only [Nat.add_zero, List.getD_cons_zero] at c0
    have hl1 : (t :: r).length = r.length + 1 := by simp
    rw [hl1] at hlen hcell hL ⊢
    obtain ⟨-, hlc, hcm⟩ := hlen
    have hne : ((r.length : Int) + 1 == 0) = false := by simp; omega
    have hpos : (0 : Int) < (r.length : Int) + 1 := by omega
    by_cases ht0 : 0 ≤ t ∧ t < 9
    · obtain ⟨h0, h9⟩ := ht0
      obtain ⟨m, rfl⟩ := Int.eq_ofNat_of_zero_le h0
      have hm9 : m < 9 := by omega
      have HB : Hid (blkF ((m : Int) :: r) = blkGo (manyOf m) (preOf m) r) := by rw [Hid, blkF, if_pos ⟨h0, h9⟩]
      have HT := hid ht; clear ht
      have hcell' : ∀ k, k < r.length → w.cell? ⟨b, o + 1 + k, none⟩ = some (.int .i64 (r.getD k 0)) := fun k hk => by
        have := hcell (k + 1) (by omega)
        rw [show o + (k + 1) = o + 1 + k by omega] at this
        simpa using this
      have HC := hid hcell'; clear hcell hcell' hL
      have hpb := pre_bd m hm9
      have Hmm := hid (many_many (m : Int))
      have HM : Hid (∀ L : List Int, L.drop 0 = L) := fun L => by simp
      have ctm := HT.out.at_ m hm9
      obtain ⟨hp0, hp1, hp2⟩ := hpb
      obtain ⟨N, hN⟩ : ∃ N, N = r.length := ⟨_, rfl⟩
      rw [← hN] at hne hpos hlc HC ⊢
      have HN := hid hN; clear hN
      have hpos1 : (1 : Int) ≤ (N : Int) + 1 := by omega
      have hcp : (1 : Int) ≤ (c : Int) := by omega
      go_enter Tryd.func6, Tryd.ntmps6
      go_wp2
      go_loop [4, 27] (fun x i => ∃ k : Nat, k ≤ m ∧ i = .int .i64 k ∧ x = .int .i64 (preOf k)) (fun _ i => m - (intOf i).toNat)
      case atStart => exact ⟨0, by omega, rfl, rfl⟩
      case round =>
        obtain ⟨k, hkm, rfl, rfl⟩ := hrel
        by_cases hlt : k < m
        · have ck := HT.out.at_ k (by omega)
          have hkb := pre_bd k (by omega)
          obtain ⟨hk0, hk1, hk2⟩ := hkb
          have hki : (k : Int) < 9 := by omega
          have HS := hid (pre_succ k (by omega))
          have hb1 : preOf k + manyOf k ≤ 100000 := by omega
          go_wp2
          go_round
          case rel => exact ⟨k + 1, by omega, by go_num, by rw [← HS.out]; rfl⟩
          case measure => simp [intOf]; omega
        · obtain rfl : k = m := by omega
          by_cases hc1 : c = 1
          · subst hc1
            obtain rfl : N = 0 := by omega
            have hr : r = [] := List.eq_nil_of_length_eq_zero HN.out.symm
            have HR := hid hr; clear hr
            by_cases h1 : manyOf (k : Int) = 1
            · have HR2 : Hid (blkF ((k : Int) :: r) = some (preOf k)) := by rw [Hid, HB.out, HR.out, h1]; rfl
              have hne1 : (manyOf (k : Int) != 1) = false := by rw [h1]; rfl
              clear h1
              go_wp2
              refine wp_loop_rounds 1 ?_
              rw [rounds_succ]
              go_wp2
              go_ret2
              exact .yes HR2.out (Kept.refl _)
            · have HR2 : Hid (blkF ((k : Int) :: r) = none) := by rw [Hid, HB.out, HR.out, blkGo, if_neg h1]
              have hne1 : (manyOf (k : Int) != 1) = true := by rw [bne_iff_ne]; exact h1
              clear h1
              go_wp2
              refine wp_loop_rounds 1 ?_
              rw [rounds_succ]
              go_wp2
              go_ret2
              exact .no HR2.out (Kept.refl _)
          · have hc2 : ¬ c = 1 := hc1
            have H1 := Hmm.out
            generalize hMo : manyOf (k : Int) = M0 at *
            generalize hPo : preOf (k : Int) = P0 at *
            have HMo := hid hMo; have HPo := hid hPo; clear hMo hPo H1
            go_wp2
            go_loop [4, 6, 44] (fun x y i => ∃ (j : Nat) (mm nn : Int), j ≤ N ∧ Many mm ∧ 0 ≤ nn ∧ nn + mm ≤ 3621 ∧ i = .int .i64 j ∧ x = .int .i64 nn ∧ y = .int .i64 mm ∧ blkGo mm nn (r.drop j) = blkF ((k : Int) :: r)) (fun _ _ i => N - (intOf i).toNat)
            case atStart => exact ⟨0, M0, P0, by omega, Hmm.out, hp0, hp1, rfl, rfl, rfl, by rw [HB.out]; rfl⟩
            case round =>
              obtain ⟨j, mm, nn, hj, hmm, hn0, hn1, rfl, rfl, rfl, hgo⟩ := hrel
              have HG := hid hgo; clear hgo
              by_cases hlt2 : j < N
              · have hce := HC.out j hlt2
                have HD := hid (getD_drop r j (by rw [← HN.out]; exact hlt2))
                generalize r.getD j 0 = x at *
                by_cases h1 : mm = 1
                · subst h1
                  have HR2 : Hid (blkF ((k : Int) :: r) = none) := by rw [Hid, ← HG.out, HD.out]; rfl
                  go_wp2
                  go_ret2
                  exact .no HR2.out (Kept.refl _)
                · have hne1 : (mm == 1) = false := by simpa using h1
                  by_cases hx : 0 ≤ x ∧ x < 15
                  · have HR3 : Hid (blkGo (mm / 15) (nn + x * (mm / 15)) (r.drop (j + 1)) = blkF ((k : Int) :: r)) := by rw [Hid, ← HG.out, HD.out]; rw [blkGo, if_neg h1, if_pos hx]
                    obtain ⟨hx0, hx1⟩ := hx
                    rcases hmm with h | rfl | rfl | rfl
                    · exact absurd h h1
                    all_goals
                      go_wp2_with (go_at_call 14; refine (index_t _ hx0 hx1 _).mono ?_; rintro e wz ⟨rfl, rfl⟩)
                      go_round
                      case rel => exact ⟨j + 1, _, _, by omega, by unfold Many; omega, by omega, by omega, by go_num, by go_num, by go_num, HR3.out⟩
                      case measure => simp [intOf]; omega
                  · have HR2 : Hid (blkF ((k : Int) :: r) = none) := by rw [Hid, ← HG.out, HD.out]; rw [blkGo, if_neg h1, if_neg hx]
                    go_wp2_with (go_at_call 14; refine (index_f _ hx _).mono ?_; rintro e wz ⟨rfl, rfl⟩)
                    go_ret2
                    exact .no HR2.out (Kept.refl _)
              · obtain rfl : j = N := by omega
                have HD : Hid (r.drop j = []) := by rw [Hid, List.drop_eq_nil_iff, ← HN.out]; exact Nat.le_refl _
                by_cases h1 : mm = 1
                · subst h1
                  have HR2 : Hid (blkF ((k : Int) :: r) = some nn) := by rw [Hid, ← HG.out, HD.out]; rfl
                  go_wp2
                  go_ret2
                  exact .yes HR2.out (Kept.refl _)
                · have hne1 : (mm != 1) = true := by rw [bne_iff_ne]; exact h1
                  have HR2 : Hid (blkF ((k : Int) :: r) = none) := by rw [Hid, ← HG.out, HD.out, blkGo, if_neg h1]
                  clear h1
                  go_wp2
                  go_ret2
                  exact .no HR2.out (Kept.refl _)
    · have HB : Hid (blkF (t :: r) = none) := by rw [Hid, blkF, if_neg ht0]
      have HC := hid hcell; clear hcell hL
      generalize r.length = n at *
      by_cases h1 : 0 ≤ t
      · have h2 : 9 ≤ t := by omega
        clear ht0
        go_enter Tryd.func6, Tryd.ntmps6
        go_wp2
        go_ret2
        exact .no HB.out (Kept.refl _)
      · clear ht0
        go_enter Tryd.func6, Tryd.ntmps6
        go_wp2
        go_ret2
        exact .no HB.out (Kept.refl _)
end Go.Proofs.YtepljgondmkljaaDoor
