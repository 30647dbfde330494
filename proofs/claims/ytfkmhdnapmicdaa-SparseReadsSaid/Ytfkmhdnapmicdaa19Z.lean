/- haymowref19.Write. -/
import Derived.Test.Ytfkmhdnapmicdaa19Y
import Derived.Deep.Cut
namespace Go.Proofs.Ytfkmhdnapmicdaa
set_option linter.unusedSimpArgs false
set_option linter.unusedVariables false
open Go.RowKit

/-- the numbers said while k octets are laid -/
def wrN (off k : Nat) : List Int := if k = 0 then [] else runL ((off / 128 : Nat) : Int) ((off + k - 1) / 128 - off / 128 + 1)
theorem wrN_0 (off : Nat) : wrN off 0 = [] := rfl
theorem wrN_1 (off : Nat) : wrN off 1 = [((off / 128 : Nat) : Int)] := by
  rw [wrN, if_neg (by omega), show (off + 1 - 1) / 128 - off / 128 + 1 = 1 by omega]
  simp [runL]
theorem wrN_len (off k : Nat) (h : k ≠ 0) : (wrN off k).length = (off + k - 1) / 128 - off / 128 + 1 := by
  rw [wrN, if_neg h, runL_len]
theorem wrN_same (off k : Nat) (h : k ≠ 0) (e : (off + k) / 128 = (off + k - 1) / 128) : wrN off (k + 1) = wrN off k := by
  rw [wrN, if_neg (by omega), wrN, if_neg h, show off + (k + 1) - 1 = off + k by omega, e]
theorem wrN_next (off k : Nat) (h : k ≠ 0) (e : (off + k) / 128 ≠ (off + k - 1) / 128) : wrN off (k + 1) = wrN off k ++ [(((off + k) / 128 : Nat) : Int)] := by
  rw [wrN, if_neg (by omega), wrN, if_neg h, show off + (k + 1) - 1 = off + k by omega, show (off + k) / 128 - off / 128 + 1 = ((off + k - 1) / 128 - off / 128 + 1) + 1 by omega, runL_succ]
  congr 2
  omega
theorem wrN_last (off k : Nat) (h : k ≠ 0) : (wrN off k).getD ((wrN off k).length - 1) 0 = (((off + k - 1) / 128 : Nat) : Int) := by
  rw [wrN_len off k h, wrN, if_neg h, runL, getD_range, if_pos (by omega)]
  omega
theorem wrN_le (off k : Nat) : (wrN off k).length ≤ k := by
  by_cases h : k = 0
  · subst h; exact Nat.le_refl _
  · rw [wrN_len off k h]; omega
theorem wrN_end (off : Nat) (b : List UInt8) : wrN off b.length = wrL (off : Int) b := by
  rw [wrN, wrL]
  by_cases h : b = []
  · subst h; rfl
  · have := List.length_pos_iff.2 h
    rw [if_neg (by omega), if_neg h]
    congr 1
    omega
/-- the octets of block g while k octets of b are laid over them -/
def ovF (B : List UInt8) (off : Nat) (b : List UInt8) (k j : Nat) : Value := .int .u8 ((if off ≤ j ∧ j < off + k then b.getD (j - off) 0 else B.getD j 0).toNat : Int)
theorem ovF_s (B : List UInt8) (off : Nat) (b : List UInt8) (k j : Nat) : (if j = off + k then Value.int .u8 ((b.getD k 0).toNat : Int) else ovF B off b k j) = ovF B off b (k + 1) j := by
  unfold ovF
  by_cases e : j = off + k
  · subst e; rw [if_pos rfl, if_pos (by omega), show off + k - off = k by omega]
  · rw [if_neg e]
    by_cases e2 : off ≤ j ∧ j < off + k
    · rw [if_pos e2, if_pos (by omega)]
    · rw [if_neg e2, if_neg (by omega)]
/-- the flags of block h while k octets are laid -/
def ovT (T : List Bool) (off k t : Nat) : Value := .bool (T.getD t false || decide (0 < k ∧ off / 128 ≤ t ∧ t ≤ (off + k - 1) / 128))
theorem ovT_s (T : List Bool) (off k t : Nat) : (if t = (off + k) / 128 then Value.bool true else ovT T off k t) = ovT T off (k + 1) t := by
  unfold ovT
  by_cases e : t = (off + k) / 128
  · rw [if_pos e, decide_eq_true (by omega), Bool.or_true]
  · rw [if_neg e]
    congr 2
    apply decide_eq_decide.2
    constructor <;> intro h <;> omega
theorem cpF_all (B : List UInt8) (off : Nat) (b : List UInt8) (k : Nat) (h : B.length ≤ k) (j : Nat) : cpF B k j = ovF B off b 0 j := by
  unfold cpF ovF
  have h0 : ¬ (off ≤ j ∧ j < off + 0) := by omega
  rw [if_neg h0]
  by_cases e : j < k
  · rw [if_pos e]
  · rw [if_neg e, List.getD_eq_getElem?_getD, List.getElem?_eq_none (by omega)]; rfl
theorem cpT_all (T : List Bool) (off k : Nat) (h : T.length ≤ k) (j : Nat) : cpT T k j = ovT T off 0 j := by
  unfold cpT ovT
  have h0 : ¬ (0 < 0 ∧ off / 128 ≤ j ∧ j ≤ (off + 0 - 1) / 128) := by omega
  rw [decide_eq_false h0, Bool.or_false]
  by_cases e : j < k
  · rw [if_pos e]
  · rw [if_neg e, List.getD_eq_getElem?_getD, List.getElem?_eq_none (by omega)]; rfl
def RwPost (B : List UInt8) (T : List Bool) (off : Nat) (b : List UInt8) (w : World) (e : Ending) (w' : World) : Prop := ∃ v u, e = .returned (.tuple #[v, u]) ∧ Rf w' v (rwB B off b) (rwT T (needI (rsz B.length off b : Nat)).toNat off b) ∧ Ints w' u (wrL off b) ∧ Kept w w'
set_option maxRecDepth 100000 in
set_option maxHeartbeats 4000000 in
theorem rwrite_any (B : List UInt8) (T : List Bool) (off : Nat) (b : List UInt8) (hB : B.length ≤ 463488) (ho : off + b.length ≤ 463488) (hT : (T.length : Int) ≤ needI (B.length : Int)) (v vb : Value) (w : World) (hR : Rf w v B T) (hb : Byts w vb b) : Calls Try.prog 16 #[v, .int .i64 (off : Int), vb] w (RwPost B T off b w) := by
  obtain ⟨vB, vT, rfl, hyB, hyT⟩ := hR
  obtain ⟨A1, c1, rfl⟩ := hyB.shape
  obtain ⟨A2, c2, rfl⟩ := hyT.shape
  obtain ⟨A3, c3, rfl⟩ := hb.shape
  obtain ⟨m, hm⟩ : ∃ m, b.length = m := ⟨_, rfl⟩
  obtain ⟨n, hn2⟩ : ∃ n, B.length = n := ⟨_, rfl⟩
  obtain ⟨q, hq⟩ : ∃ q, T.length = q := ⟨_, rfl⟩
  obtain ⟨S, hS⟩ : ∃ S, rsz n off b = S := ⟨_, rfl⟩
  have hSm : (m = 0 ∧ S = n) ∨ (0 < m ∧ n < off + m ∧ S = off + m) ∨ (0 < m ∧ ¬ n < off + m ∧ S = n) := by
    rw [← hS, rsz]
    by_cases h : b = []
    · subst h; left; exact ⟨hm.symm, rfl⟩
    · have := List.length_pos_iff.2 h
      rw [if_neg h, hm]; omega
  have hS1 : S ≤ 463488 := by omega
  have hnS : n ≤ S := by omega
  have hoS : 0 < m → off + m ≤ S := by omega
  have hn := needI_le (show (S : Int) ≤ 463488 by omega)
  obtain ⟨N, hN⟩ : ∃ N : Nat, needI (S : Int) = (N : Int) := ⟨(needI (S : Int)).toNat, by omega⟩
  have hqN : q ≤ N := by
    rw [hq, hn2] at hT
    have : needI (n : Int) ≤ needI (S : Int) := by unfold needI; split <;> split <;> omega
    omega
  have hND : ∀ j : Nat, j < S → j / 128 < N := fun j hj => by
    have h := hN
    unfold needI at h
    split at h <;> omega
  have HSZ := hid (fun w => need_any (S : Int) (by omega) w)
  rw [hN] at HSZ hn
  have HN := hid hN
  have HND := hid hND
  have hNb : N ≤ 3621 := by omega
  rw [hn2] at hyB hB ⊢
  rw [hq] at hyT ⊢
  rw [hm] at hb ho ⊢
  have HYB := hid hyB; have HYT := hid hyT; have HLB := hid hn2; have HLT := hid hq; have HYb := hid hb; have HLb := hid hm; have HSS := hid hS; have HOS := hid hoS
  have hmk1 := make_bytes S (by omega)
  have hmk2 := make_bools N (by omega)
  obtain ⟨Z1, hZ1⟩ : ∃ Z1, bcells (List.replicate S 0) = Z1 := ⟨_, rfl⟩
  obtain ⟨Z2, hZ2⟩ : ∃ Z2, tcells (List.replicate N false) = Z2 := ⟨_, rfl⟩
  rw [hZ1] at hmk1
  rw [hZ2] at hmk2
  have HZ1 := hid hZ1; have HZ2 := hid hZ2
  clear hyB hyT hN hZ1 hZ2 hn hn2 hq hb hm hS hoS hT hND
  go_enter Try.func16, Try.ntmps16
  go_upto_region 2 with fail
  have hk0 : Kept w ((w.alloc (.cells #[.slice A1 n c1, .slice A2 q c2] 36)).alloc (.cells #[.slice none 0 0, .slice none 0 0] 36)) := ((Kept.refl w).alloc _).alloc _
  have b0 : ((w.alloc (.cells #[.slice A1 n c1, .slice A2 q c2] 36)).alloc (.cells #[.slice none 0 0, .slice none 0 0] 36)).cell? ⟨w.heap.size, 0, none⟩ = some (.slice A1 n c1) := by simp [go_sem]
  have b1 : ((w.alloc (.cells #[.slice A1 n c1, .slice A2 q c2] 36)).alloc (.cells #[.slice none 0 0, .slice none 0 0] 36)).cell? ⟨w.heap.size, 1, none⟩ = some (.slice A2 q c2) := by simp [go_sem]
  have r0 : ((w.alloc (.cells #[.slice A1 n c1, .slice A2 q c2] 36)).alloc (.cells #[.slice none 0 0, .slice none 0 0] 36)).cell? ⟨w.heap.size + 1, 0, none⟩ = some (.slice none 0 0) := by simp [go_sem]
  have r1 : ((w.alloc (.cells #[.slice A1 n c1, .slice A2 q c2] 36)).alloc (.cells #[.slice none 0 0, .slice none 0 0] 36)).cell? ⟨w.heap.size + 1, 1, none⟩ = some (.slice none 0 0) := by simp [go_sem]
  have q0 : ((w.alloc (.cells #[.slice A1 n c1, .slice A2 q c2] 36)).alloc (.cells #[.slice none 0 0, .slice none 0 0] 36)).frozen? ⟨w.heap.size + 1, 0, none⟩ = false := by simp [go_sem]
  have q1 : ((w.alloc (.cells #[.slice A1 n c1, .slice A2 q c2] 36)).alloc (.cells #[.slice none 0 0, .slice none 0 0] 36)).frozen? ⟨w.heap.size + 1, 1, none⟩ = false := by simp [go_sem]
  generalize ((w.alloc (.cells #[.slice A1 n c1, .slice A2 q c2] 36)).alloc (.cells #[.slice none 0 0, .slice none 0 0] 36)) = w1 at *
  have hlt : w.heap.size + 1 < w1.heap.size := cell_lt r0
  have K1 := hid hk0; have D0 := hid b0; have D1 := hid b1; have R0 := hid r0; have R1 := hid r1; have Q0 := hid q0; have Q1 := hid q1
  clear hk0 r0 r1 q0 q1
  have w9 : IntKind.i64.wrap ((off : Int) + (m : Int)) = (off : Int) + (m : Int) := IntWalk.i64_in _ (by omega)
  go_cut [28] (fun t wx => t = .bool (decide (0 < m ∧ n < off + m)) ∧ w1 = wx)
  case first =>
    by_cases h1 : 0 < m
    · have e1 : (0 : Int) < (m : Int) := by omega
      by_cases h2 : n < off + m
      · have e2 : (n : Int) < (off : Int) + (m : Int) := by omega
        go_wp2_with fail
        go_meet
        exact ⟨congrArg Value.bool (decide_eq_true ⟨h1, h2⟩).symm, rfl⟩
      · have e2 : ¬ (n : Int) < (off : Int) + (m : Int) := by omega
        go_wp2_with fail
        go_meet
        exact ⟨congrArg Value.bool (decide_eq_false (fun h => h2 h.2)).symm, rfl⟩
    · have e1 : ¬ (0 : Int) < (m : Int) := by omega
      go_wp2_with fail
      go_meet
      exact ⟨congrArg Value.bool (decide_eq_false (fun h => h1 h.1)).symm, rfl⟩
  case rest =>
  obtain ⟨rfl, rfl⟩ := hcut
  go_upto_if 28 with fail
  go_cut [8] (fun t wx => t = .int .i64 (S : Int) ∧ w1 = wx)
  case first =>
    by_cases h1 : 0 < m ∧ n < off + m
    · have e1 : decide (0 < m ∧ n < off + m) = true := decide_eq_true h1
      have e3 : (off : Int) + (m : Int) = (S : Int) := by omega
      rw [e3] at w9
      rw [e1]
      go_wp2_with fail
      go_meet
      exact ⟨rfl, rfl⟩
    · have e1 : decide (0 < m ∧ n < off + m) = false := decide_eq_false h1
      have e3 : n = S := by omega
      rw [e1]
      go_wp2_with fail
      go_meet
      exact ⟨by rw [e3], rfl⟩
  case rest =>
    obtain ⟨rfl, rfl⟩ := hcut
    have HS1 := hid hS1
    clear hSm hS1
    have w9 : True := trivial
    clear w9
    go_upto_region 4 with fail
    go_cut [9] (fun t wx => ∃ X g h : Nat, t = .pointer (some ⟨X, 0, none⟩) ∧ CB wx X 36 [.slice (some ⟨g, 0, none⟩) S S, .slice (some ⟨h, 0, none⟩) N N] ∧ CB wx g 5 Z1 ∧ CB wx h 4 Z2 ∧ w1.heap.size ≤ X ∧ w1.heap.size ≤ g ∧ w1.heap.size ≤ h ∧ Kept w1 wx)
    case first =>
      go_region_held3 (fun w' => w'.cell? ⟨w.heap.size, 0, none⟩ = some (.slice A1 n c1))
        (first | exact b0 | assumption | (go_split_ands; assumption) | exact (by simp [go_sem, *]))
        (first | (go_at_call 28; (with_reducible refine (HSZ.out _).mono ?_); rintro e w2 ⟨rfl, rfl⟩))
      all_goals (
        go_wp2_with fail
        go_meet
        apply Exists.intro
        apply Exists.intro
        apply Exists.intro
        refine ⟨rfl, ?_, ?_, ?_, ?_, ?_, ?_, ?_⟩
        · first | exact al0 _ _ _ _ | exact al1 _ _ _ _ | exact al2 _ _ _ _
        · first | exact al0 _ _ _ _ | exact al1 _ _ _ _ | exact al2 _ _ _ _
        · first | exact al0 _ _ _ _ | exact al1 _ _ _ _ | exact al2 _ _ _ _
        · omega
        · omega
        · omega
        · exact (by repeat (first | exact Kept.refl _ | assumption | refine Kept.alloc ?_ _ | refine Kept.drew ?_ | refine Kept.drewN ?_ _ | refine Kept.setCell ?_ (by simp; try omega) _ | refine Kept.trans ?_ (by assumption))))
    case rest =>
      obtain ⟨X, g, h, rfl, hX, hg, hh, lX, lg, lh, hkc⟩ := hcut
      have HKC := hid hkc
      have BG := hid (show BlkT wc g 5 S (cpF B 0) from CB.blkT hg S (by rw [← HZ1.out]; simp [bcells]) _ (fun j hj => by
        rw [← HZ1.out, bcells_at _ _ (by simpa using hj), List.getD_eq_getElem?_getD, List.getElem?_replicate, if_pos hj]; rfl))
      have BH := hid (show BlkT wc h 4 N (fun t => .bool false) from CB.blkT hh N (by rw [← HZ2.out]; simp [tcells]) _ (fun j hj => by
        rw [← HZ2.out, tcells_at _ _ (by simpa using hj), List.getD_eq_getElem?_getD, List.getElem?_replicate, if_pos hj]; rfl))
      have HX := hid hX
      have hgX : g ≠ X := fun e => by
        have h1 : wc.heap[g]? = _ := hg
        have h2 : wc.heap[X]? = _ := hX
        rw [← e, h1] at h2
        injection h2 with h2
        injection h2 with _ h3
        exact tyUF h3
      have hhX : h ≠ X := fun e => by
        have h1 : wc.heap[h]? = _ := hh
        have h2 : wc.heap[X]? = _ := hX
        rw [← e, h1] at h2
        injection h2 with h2
        injection h2 with _ h3
        exact tyBF h3
      have hgh : g ≠ h := BG.out.ne BH.out tyUB
      have HD := hid (⟨hgX, hhX, hgh, lX, lg, lh⟩ : g ≠ X ∧ h ≠ X ∧ g ≠ h ∧ w1.heap.size ≤ X ∧ w1.heap.size ≤ g ∧ w1.heap.size ≤ h)
      clear hX hg hh hkc hmk1 hmk2 b0 b1 hgX hhX hgh
      go_upto_block 0 with fail
      go_cut [10] (fun t wr => BlkT wr g 5 S (ovF B off b 0) ∧ BlkT wr h 4 N (fun t => .bool false) ∧ CB wr X 36 [.slice (some ⟨g, 0, none⟩) S S, .slice (some ⟨h, 0, none⟩) N N] ∧ Kept w1 wr)
      case first =>
        go_wp2_with fail
        go_loopw [10] (fun t wr => ∃ k : Nat, k ≤ n ∧ t = .int .i64 k ∧ BlkT wr g 5 S (cpF B k) ∧ BlkT wr h 4 N (fun t => .bool false) ∧ CB wr X 36 [.slice (some ⟨g, 0, none⟩) S S, .slice (some ⟨h, 0, none⟩) N N] ∧ Kept w1 wr) (fun t _ => S - (intOf t).toNat)
        case atStart => exact ⟨0, by omega, rfl, BG.out, BH.out, HX.out, HKC.out⟩
        case round =>
          obtain ⟨k, hk2, rfl, hbg, hbh, hcx, hkw⟩ := hrel
          have HBG := hid hbg; have HBH := hid hbh; have HCX := hid hcx; have HK := hid hkw
          have x0 := hcx.cell 0 (by simp)
          simp only [List.getElem_cons_zero] at x0
          have d0 := hkw.keeps D0.out
          have w4 : IntKind.i64.wrap ((k : Int) + 1) = (k : Int) + 1 := IntWalk.i64_in _ (by omega)
          clear hbg hbh hcx hkw BG BH HX HKC
          by_cases hb : k < n
          · have ha : k < S := by omega
            have e1 : (k : Int) < (S : Int) := by omega
            have e2 : (k : Int) < (n : Int) := by omega
            have e0 : (0 : Int) ≤ (k : Int) := by omega
            obtain ⟨b5, o5, rfl, hc5⟩ := HYB.out.cell k hb
            have hl5 : b5 < w1.heap.size := Nat.lt_of_lt_of_le (cell_lt hc5) K1.out.size
            have c5 := (K1.out.trans HK.out).keeps hc5
            have hf := HBG.out.frozen k
            have hcN := HBG.out.cell k ha
            have HK3 := hid (fun v => (⟨(World.cell?_setCell_far wr ⟨g, k, none⟩ ⟨X, 0, none⟩ v HD.out.1).trans x0, (World.cell?_setCell_far wr ⟨g, k, none⟩ ⟨w.heap.size, 0, none⟩ v (show g ≠ w.heap.size by omega)).trans d0, (World.cell?_setCell_far wr ⟨g, k, none⟩ ⟨b5, o5 + k, none⟩ v (show g ≠ b5 by omega)).trans c5⟩ :
              (wr.setCell ⟨g, k, none⟩ v).cell? ⟨X, 0, none⟩ = some (.slice (some ⟨g, 0, none⟩) S S) ∧ (wr.setCell ⟨g, k, none⟩ v).cell? ⟨w.heap.size, 0, none⟩ = some (.slice (some ⟨b5, o5, none⟩) n c1) ∧ (wr.setCell ⟨g, k, none⟩ v).cell? ⟨b5, o5 + k, none⟩ = some (.int .u8 ((B.getD k 0).toNat : Int))))
            clear hc5
            go_wp2_with fail
            go_region_held3 (fun w' => w'.cell? ⟨X, 0, none⟩ = some (.slice (some ⟨g, 0, none⟩) S S) ∧ w'.cell? ⟨w.heap.size, 0, none⟩ = some (.slice (some ⟨b5, o5, none⟩) n c1) ∧ w'.cell? ⟨b5, o5 + k, none⟩ = some (.int .u8 ((B.getD k 0).toNat : Int)))
              (first | exact ⟨x0, d0, c5⟩ | exact HK3.out _)
              (fail)
            go_wp2
            go_roundw
            case rel => exact ⟨k + 1, by omega, by go_num, (HBG.out.set1 k _).congr (fun j hj => cpF_s B k j), HBH.out.far HD.out.2.2.1.symm _, (Below.heap_setCell _ _ _ _ HD.out.1.symm).trans HCX.out, (HK.out.setCell (by show w1.heap.size ≤ g; omega) _).drew⟩
            case measure => simp [intOf]; omega
          · have HE := hid (fun j => cpF_all B off b k (by rw [HLB.out]; omega) j)
            have e2 : ¬ (k : Int) < (n : Int) := by omega
            go_wp2_with fail
            go_meet
            exact ⟨HBG.out.congr (fun j hj => HE.out j), HBH.out, HCX.out, HK.out⟩
      case rest =>
        obtain ⟨hbg, hbh, hcx, hkw⟩ := hcut
        have B3G := hid hbg; have B3H := hid hbh; have X3 := hid hcx; have K3 := hid hkw
        clear hbg hbh hcx hkw BG BH HX HKC
        go_upto_block 2 with fail
        go_cut [11] (fun t wr => BlkT wr g 5 S (ovF B off b 0) ∧ BlkT wr h 4 N (ovT T off 0) ∧ CB wr X 36 [.slice (some ⟨g, 0, none⟩) S S, .slice (some ⟨h, 0, none⟩) N N] ∧ Kept w1 wr)
        case first =>
          go_wp2_with fail
          go_loopw [11] (fun t wr => ∃ i : Nat, i ≤ q ∧ t = .int .i64 i ∧ BlkT wr g 5 S (ovF B off b 0) ∧ BlkT wr h 4 N (cpT T i) ∧ CB wr X 36 [.slice (some ⟨g, 0, none⟩) S S, .slice (some ⟨h, 0, none⟩) N N] ∧ Kept w1 wr) (fun t _ => N - (intOf t).toNat)
          case atStart => exact ⟨0, by omega, rfl, B3G.out, B3H.out.congr (fun j hj => by rw [cpT, if_neg (by omega)]), X3.out, K3.out⟩
          case round =>
            obtain ⟨i, hi2, rfl, hbg, hbh, hcx, hkw⟩ := hrel
            have HBG := hid hbg; have HBH := hid hbh; have HCX := hid hcx; have HK := hid hkw
            have x1 := hcx.cell 1 (by simp)
            simp only [List.getElem_cons_zero, List.getElem_cons_succ] at x1
            have d1 := hkw.keeps D1.out
            have w4 : IntKind.i64.wrap ((i : Int) + 1) = (i : Int) + 1 := IntWalk.i64_in _ (by omega)
            clear hbg hbh hcx hkw B3G B3H X3 K3
            by_cases hb : i < q
            · have ha : i < N := by omega
              have e1 : (i : Int) < (N : Int) := by omega
              have e2 : (i : Int) < (q : Int) := by omega
              have e0 : (0 : Int) ≤ (i : Int) := by omega
              obtain ⟨b5, o5, rfl, hc5⟩ := HYT.out.cell i hb
              have hl5 : b5 < w1.heap.size := Nat.lt_of_lt_of_le (cell_lt hc5) K1.out.size
              have c5 := (K1.out.trans HK.out).keeps hc5
              have hf := HBH.out.frozen i
              have hcN := HBH.out.cell i ha
              have HK3 := hid (fun v => (⟨(World.cell?_setCell_far wr ⟨h, i, none⟩ ⟨X, 1, none⟩ v HD.out.2.1).trans x1, (World.cell?_setCell_far wr ⟨h, i, none⟩ ⟨w.heap.size, 1, none⟩ v (show h ≠ w.heap.size by omega)).trans d1, (World.cell?_setCell_far wr ⟨h, i, none⟩ ⟨b5, o5 + i, none⟩ v (show h ≠ b5 by omega)).trans c5⟩ :
                (wr.setCell ⟨h, i, none⟩ v).cell? ⟨X, 1, none⟩ = some (.slice (some ⟨h, 0, none⟩) N N) ∧ (wr.setCell ⟨h, i, none⟩ v).cell? ⟨w.heap.size, 1, none⟩ = some (.slice (some ⟨b5, o5, none⟩) q c2) ∧ (wr.setCell ⟨h, i, none⟩ v).cell? ⟨b5, o5 + i, none⟩ = some (.bool (T.getD i false))))
              clear hc5
              go_wp2_with fail
              go_region_held3 (fun w' => w'.cell? ⟨X, 1, none⟩ = some (.slice (some ⟨h, 0, none⟩) N N) ∧ w'.cell? ⟨w.heap.size, 1, none⟩ = some (.slice (some ⟨b5, o5, none⟩) q c2) ∧ w'.cell? ⟨b5, o5 + i, none⟩ = some (.bool (T.getD i false)))
                (first | exact ⟨x1, d1, c5⟩ | exact HK3.out _)
                (fail)
              go_wp2
              go_roundw
              case rel => exact ⟨i + 1, by omega, by go_num, HBG.out.far HD.out.2.2.1 _, (HBH.out.set1 i _).congr (fun j hj => cpT_s T i j), (Below.heap_setCell _ _ _ _ HD.out.2.1.symm).trans HCX.out, (HK.out.setCell (by show w1.heap.size ≤ h; omega) _).drew⟩
              case measure => simp [intOf]; omega
            · have HE := hid (fun j => cpT_all T off i (by rw [HLT.out]; omega) j)
              have e2 : ¬ (i : Int) < (q : Int) := by omega
              go_wp2_with fail
              go_meet
              exact ⟨HBG.out, HBH.out.congr (fun j hj => HE.out j), HCX.out, HK.out⟩
        case rest =>
          obtain ⟨hbg, hbh, hcx, hkw⟩ := hcut
          have B4G := hid hbg; have B4H := hid hbh; have X4 := hid hcx; have K4 := hid hkw
          clear hbg hbh hcx hkw B3G B3H X3 K3
          go_wp2_with fail
          go_loopw [12, 13, 14] (fun tw t tn wr => ∃ k : Nat, k ≤ m ∧ t = .int .i64 k ∧ BlkT wr g 5 S (ovF B off b k) ∧ BlkT wr h 4 N (ovT T off k) ∧ CB wr X 36 [.slice (some ⟨g, 0, none⟩) S S, .slice (some ⟨h, 0, none⟩) N N] ∧ Kept w1 wr ∧ wr.ownsRow w1.heap.size 3 1 tw (wrN off k).length ((wrN off k).map (Value.int .i64))) (fun _ t _ _ => m - (intOf t).toNat)
          case atStart => exact ⟨0, by omega, rfl, B4G.out, B4H.out, X4.out, K4.out, by rw [wrN_0]; exact World.ownsRow_nil _ _ _ _⟩
          case round =>
            obtain ⟨k, hk1, rfl, hbg, hbh, hcx, hkw, hrow⟩ := hrel
            have HBG := hid hbg; have HBH := hid hbh; have HCX := hid hcx; have HK := hid hkw; have HROW := hid hrow
            have x0 := hcx.cell 0 (by simp); have x1 := hcx.cell 1 (by simp)
            simp only [List.getElem_cons_zero, List.getElem_cons_succ] at x0 x1
            have w4 : IntKind.i64.wrap ((k : Int) + 1) = (k : Int) + 1 := IntWalk.i64_in _ (by omega)
            clear hbg hbh hcx hkw hrow B4G B4H X4 K4 w9
            by_cases hb : k < m
            · have e2 : (k : Int) < (m : Int) := by omega
              have e0 : (0 : Int) ≤ (k : Int) := by omega
              have hlS := HOS.out (by omega)
              obtain ⟨J, hJ⟩ : ∃ J : Nat, off + k = J := ⟨_, rfl⟩
              have w5 : IntKind.i64.wrap ((off : Int) + (k : Int)) = (J : Int) := by rw [IntWalk.i64_in _ (by omega)]; omega
              have w6 : IntKind.i64.wrap (J : Int) = (J : Int) := IntWalk.i64_in _ (by omega)
              have j0 : (0 : Int) ≤ (J : Int) := by omega
              have j1 : (J : Int) < (S : Int) := by omega
              obtain ⟨nn, hnn⟩ : ∃ nn : Nat, J / 128 = nn := ⟨_, rfl⟩
              have hnn2 : nn < N := by rw [← hnn]; exact HND.out J (by omega)
              have w7 : Int.tdiv (J : Int) 128 = (nn : Int) := by rw [Int.tdiv_eq_ediv_of_nonneg (by omega)]; omega
              have w8 : IntKind.i64.wrap (nn : Int) = (nn : Int) := IntWalk.i64_in _ (by omega)
              have n0 : (0 : Int) ≤ (nn : Int) := by omega
              have n1 : (nn : Int) < (N : Int) := by omega
              have HJ := hid hJ; have HNN := hid hnn
              obtain ⟨b5, o5, rfl, hc5⟩ := HYb.out.cell k hb
              have hl5 : b5 < w1.heap.size := Nat.lt_of_lt_of_le (cell_lt hc5) K1.out.size
              have c5 := (K1.out.trans HK.out).keeps hc5
              have hf := HBG.out.frozen J
              have hcN := HBG.out.cell J (by omega)
              have HK3 := hid (fun v => (⟨(World.cell?_setCell_far wr ⟨g, J, none⟩ ⟨X, 0, none⟩ v HD.out.1).trans x0, (World.cell?_setCell_far wr ⟨g, J, none⟩ ⟨b5, o5 + k, none⟩ v (show g ≠ b5 by omega)).trans c5⟩ :
                (wr.setCell ⟨g, J, none⟩ v).cell? ⟨X, 0, none⟩ = some (.slice (some ⟨g, 0, none⟩) S S) ∧ (wr.setCell ⟨g, J, none⟩ v).cell? ⟨b5, o5 + k, none⟩ = some (.int .u8 ((b.getD k 0).toNat : Int))))
              have HW := hid (show BlkT (wr.setCell ⟨g, J, none⟩ (.int .u8 ((b.getD k 0).toNat : Int))).drew g 5 S (ovF B off b (k + 1)) ∧ BlkT (wr.setCell ⟨g, J, none⟩ (.int .u8 ((b.getD k 0).toNat : Int))).drew h 4 N (ovT T off k) ∧ CB (wr.setCell ⟨g, J, none⟩ (.int .u8 ((b.getD k 0).toNat : Int))).drew X 36 [.slice (some ⟨g, 0, none⟩) S S, .slice (some ⟨h, 0, none⟩) N N] ∧ Kept w1 (wr.setCell ⟨g, J, none⟩ (.int .u8 ((b.getD k 0).toNat : Int))).drew ∧ (wr.setCell ⟨g, J, none⟩ (.int .u8 ((b.getD k 0).toNat : Int))).drew.ownsRow w1.heap.size 3 1 u12 (wrN off k).length ((wrN off k).map (Value.int .i64)) from
                ⟨(HBG.out.set1 J _).congr (fun j hj => by rw [← HJ.out]; exact ovF_s B off b k j), HBH.out.far HD.out.2.2.1.symm _, (Below.heap_setCell _ _ _ _ HD.out.1.symm).trans HCX.out, (HK.out.setCell (by show w1.heap.size ≤ g; omega) _).drew, row_set HROW.out HBG.out tyIU J _⟩)
              clear hc5 hJ hnn hlS
              obtain ⟨ub, hub⟩ : ∃ ub : Int, ((b.getD k 0).toNat : Int) = ub := ⟨_, rfl⟩
              rw [hub] at c5 HK3 HW
              clear hub
              go_wp2_with fail
              go_region_held3 (fun w' => w'.cell? ⟨X, 0, none⟩ = some (.slice (some ⟨g, 0, none⟩) S S) ∧ w'.cell? ⟨b5, o5 + k, none⟩ = some (.int .u8 ub))
                (first | exact ⟨x0, c5⟩ | exact HK3.out _)
                (fail)
              obtain ⟨hb6, hg6, hx6, hk6, hr6⟩ := HW.out
              clear HW HK3 x0 x1 c5 hf hcN HBG HBH HCX HK HROW
              generalize (wr.setCell ⟨g, J, none⟩ (Value.int .u8 ub)).drew = w7 at *
              have HBG := hid hb6
              have x1 := hx6.cell 1 (by simp)
              simp only [List.getElem_cons_zero, List.getElem_cons_succ] at x1
              have hf := hg6.frozen nn
              have hcN := hg6.cell nn hnn2
              have HW := hid (show BlkT (w7.setCell ⟨h, nn, none⟩ (.bool true)) g 5 S (ovF B off b (k + 1)) ∧ BlkT (w7.setCell ⟨h, nn, none⟩ (.bool true)) h 4 N (ovT T off (k + 1)) ∧ CB (w7.setCell ⟨h, nn, none⟩ (.bool true)) X 36 [.slice (some ⟨g, 0, none⟩) S S, .slice (some ⟨h, 0, none⟩) N N] ∧ Kept w1 (w7.setCell ⟨h, nn, none⟩ (.bool true)) ∧ (w7.setCell ⟨h, nn, none⟩ (.bool true)).ownsRow w1.heap.size 3 1 u12 (wrN off k).length ((wrN off k).map (Value.int .i64)) from
                ⟨hb6.far HD.out.2.2.1 _, (hg6.set1 nn _).congr (fun j hj => by rw [← HNN.out, ← HJ.out]; exact ovT_s T off k j), (Below.heap_setCell _ _ _ _ HD.out.2.1.symm).trans hx6, hk6.setCell (by show w1.heap.size ≤ h; omega) _, row_set hr6 hg6 tyIB nn _⟩)
              clear hb6 hg6 hx6 hk6 hr6
              go_upto_region 20 with fail
              obtain ⟨hb6, hg6, hx6, hk6, hr6⟩ := HW.out
              clear HW x1 hf hcN HBG
              generalize w7.setCell ⟨h, nn, none⟩ (.bool true) = w8 at *
              have HBG := hid hb6; have HBH := hid hg6; have HCX := hid hx6; have HK := hid hk6; have HROW := hid hr6
              clear hb6 hg6 hx6 hk6
              by_cases hk0 : k = 0
              · have HWN := hid (show wrN off (k + 1) = wrN off k ++ [(nn : Int)] from by
                  rw [hk0, wrN_0, wrN_1, ← HNN.out, ← HJ.out, hk0]; rfl)
                obtain ⟨Ar, cr, rfl⟩ := ownsRow_shape hr6
                obtain ⟨M, hM⟩ : ∃ M, (wrN off k).length = M := ⟨_, rfl⟩
                have hM0 : M = 0 := by rw [← hM, hk0, wrN_0]; rfl
                rw [hM] at HROW ⊢
                rw [hM0] at HROW ⊢
                have HML := hid hM0
                have HLE0 := hid (hM.trans hM0)
                clear hr6 hM hM0 hk0
                go_wp2_with (first
                  | (at_builtin; go_loud (refine wpList_pushG (W := w1) (cs := [.int .i64 (nn : Int)]) rfl (.tmp 108) (.tmp 110) 28 rfl 3 _ 1 8 Try.underlying28 info_int rfl (by decide) (by decide) _ _ _ _ _ rfl HROW.out rfl rfl rfl (by simp [Value.oneCell']) (by have := HML.out; omega) HK.out ?_); intro v9 w9 hown9 hk9 hg9; have HRO9 := hid hown9; have K9 := hid hk9; have BG9 := hid (BlkT.grownI (((Kept.refl w8).alloc _).blkT HBG.out) (((Kept.refl w8).alloc _).row HROW.out) tyUI hg9); have BH9 := hid (BlkT.grownI (((Kept.refl w8).alloc _).blkT HBH.out) (((Kept.refl w8).alloc _).row HROW.out) tyBI hg9); have CX9 := hid (CB.grownI (((Kept.refl w8).alloc _).cb HCX.out) (((Kept.refl w8).alloc _).row HROW.out) tyFI hg9); clear hown9 hk9 hg9))
                go_roundw
                case rel => exact ⟨k + 1, by omega, by go_num, BG9.out, BH9.out, CX9.out, K9.out, by rw [HWN.out, List.map_append, List.length_append, HLE0.out]; exact HRO9.out⟩
                case measure => simp [intOf]; omega
              · have hl1 := wrN_len off k hk0
                have hl2 := wrN_last off k hk0
                have hle := wrN_le off k
                obtain ⟨gr, cr, rfl, -, -⟩ := hr6.form (by omega)
                obtain ⟨M, hM⟩ : ∃ M, (wrN off k).length = M := ⟨_, rfl⟩
                obtain ⟨I, hI⟩ : ∃ I : Nat, M = I + 1 := ⟨M - 1, by omega⟩
                have m1 : ((M : Int) == 0) = false := by simp; omega
                have m2 : IntKind.i64.wrap ((M : Int) - 1) = (I : Int) := by rw [IntWalk.i64_in _ (by omega)]; omega
                have m3 : (0 : Int) ≤ (I : Int) := by omega
                have m4 : (I : Int) < (M : Int) := by omega
                have m5 : IntKind.i64.wrap (I : Int) = (I : Int) := IntWalk.i64_in _ (by omega)
                obtain ⟨ln, hln⟩ : ∃ ln : Nat, (off + k - 1) / 128 = ln := ⟨_, rfl⟩
                have cI := hr6.cellAt (g := gr) (cap := cr) I (by omega)
                rw [getD_map _ I (by omega)] at cI
                rw [hM, show M - 1 = I by omega, hln] at hl2
                rw [hl2] at cI
                have HML := hid (show M ≤ 1000 * 1000 from by omega)
                have HLEN := hid hM
                rw [hM] at HROW ⊢
                clear hr6 hl1 hle hM hl2
                by_cases hsame : nn = ln
                · have HWN := hid (show wrN off (k + 1) = wrN off k from wrN_same off k hk0 (by have := HNN.out; have := HJ.out; omega))
                  have m6 : ((ln : Int) != (nn : Int)) = false := by simp; omega
                  clear hk0 hln hsame hI
                  go_wp2_with fail
                  go_roundw
                  case rel => exact ⟨k + 1, by omega, by go_num, HBG.out, HBH.out, HCX.out, HK.out, by rw [HWN.out, HLEN.out]; exact HROW.out⟩
                  case measure => simp [intOf]; omega
                · have HWN := hid (show wrN off (k + 1) = wrN off k ++ [(nn : Int)] from by
                    rw [wrN_next off k hk0 (by have := HNN.out; have := HJ.out; omega), HJ.out, HNN.out])
                  have m6 : ((ln : Int) != (nn : Int)) = true := by simp; omega
                  clear hk0 hln hsame hI
                  go_wp2_with (first
                  | (at_builtin; go_loud (refine wpList_pushG (W := w1) (cs := [.int .i64 (nn : Int)]) rfl (.tmp 108) (.tmp 110) 28 rfl 3 _ 1 8 Try.underlying28 info_int rfl (by decide) (by decide) _ _ _ _ _ rfl HROW.out rfl rfl rfl (by simp [Value.oneCell']) (by have := HML.out; omega) HK.out ?_); intro v9 w9 hown9 hk9 hg9; have HRO9 := hid hown9; have K9 := hid hk9; have BG9 := hid (BlkT.grownI (((Kept.refl w8).alloc _).blkT HBG.out) (((Kept.refl w8).alloc _).row HROW.out) tyUI hg9); have BH9 := hid (BlkT.grownI (((Kept.refl w8).alloc _).blkT HBH.out) (((Kept.refl w8).alloc _).row HROW.out) tyBI hg9); have CX9 := hid (CB.grownI (((Kept.refl w8).alloc _).cb HCX.out) (((Kept.refl w8).alloc _).row HROW.out) tyFI hg9); clear hown9 hk9 hg9))
                  go_roundw
                  case rel => exact ⟨k + 1, by omega, by go_num, BG9.out, BH9.out, CX9.out, K9.out, by rw [HWN.out, List.map_append, List.length_append, HLEN.out]; exact HRO9.out⟩
                  case measure => simp [intOf]; omega
            · have hkm : k = m := by omega
              subst hkm
              have hlS := HOS.out
              have HPO := hid (show ∀ w', w' = (wr.setCell ⟨w.heap.size + 1, 0, none⟩ (.slice (some ⟨g, 0, none⟩) S S)).setCell ⟨w.heap.size + 1, 1, none⟩ (.slice (some ⟨h, 0, none⟩) N N) → RwPost B T off b w (.returned (.tuple #[.agg #[.slice (some ⟨g, 0, none⟩) S S, .slice (some ⟨h, 0, none⟩) N N], u12])) w' from fun w' hw' => by
                subst hw'
                have g1 : g ≠ w.heap.size + 1 := by have := HD.out; omega
                have g2 : h ≠ w.heap.size + 1 := by have := HD.out; omega
                have kk : Kept w ((wr.setCell ⟨w.heap.size + 1, 0, none⟩ (.slice (some ⟨g, 0, none⟩) S S)).setCell ⟨w.heap.size + 1, 1, none⟩ (.slice (some ⟨h, 0, none⟩) N N)) := ((K1.out.trans HK.out).setCell (by simp) _).setCell (by simp) _
                have hll : (rwB B off b).length = S := by rw [rwB, HLB.out, HSS.out]; simp
                have hlt2 : (rwT T (needI (rsz B.length off b : Nat)).toNat off b).length = N := by rw [rwT, HLB.out, HSS.out, HN.out]; simp
                refine ⟨_, _, rfl, ⟨_, _, rfl, byts_mk hll (Nat.le_refl _) (by have := HS1.out; omega) (cb_range (t := 5) ?_), bools_mk hlt2 (Nat.le_refl _) (by omega) (cb_range (t := 4) ?_)⟩, ?_, kk⟩
                · refine (((HBG.out.far g1 _).far g1 _).cb _ (by rw [bcells_len, hll]) (fun j hj => ?_))
                  rw [bcells_at _ _ (by rw [hll]; exact hj), rwB, getD_range, HLB.out, HSS.out, if_pos hj, ovF, HLb.out]
                · refine (((HBH.out.far g2 _).far g2 _).cb _ (by rw [tcells_len, hlt2]) (fun j hj => ?_))
                  rw [tcells_at _ _ (by rw [hlt2]; exact hj), rwT, getD_range, HLB.out, HSS.out, HN.out, Int.toNat_natCast, if_pos hj, ovT, HLb.out]
                  congr 3
                  apply decide_eq_decide.2
                  rw [← List.length_pos_iff, HLb.out]
                · rw [← wrN_end, HLb.out]
                  exact (ints_own (row_low (row_low HROW.out (p := ⟨w.heap.size + 1, 0, none⟩) hlt _) (p := ⟨w.heap.size + 1, 1, none⟩) hlt _)).1)
              have r0 := HK.out.keeps R0.out; have r1 := HK.out.keeps R1.out
              have q0 := HK.out.free R0.out Q0.out; have q1 := HK.out.free R1.out Q1.out
              have hne : X ≠ w.heap.size + 1 := by have := HD.out; omega
              have e2 : ¬ (k : Int) < (k : Int) := by omega
              clear hb hlS
              go_wp2
              refine bodyPost_ret (v := .tuple #[.agg #[.slice (some ⟨g, 0, none⟩) S S, .slice (some ⟨h, 0, none⟩) N N], u12]) (by simp [results, Try.results16, go_sem, r0, r1, q0, q1]) rfl (HPO.out _ rfl)
end Go.Proofs.Ytfkmhdnapmicdaa
