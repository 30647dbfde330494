/- haymowref19.Cut. -/
import Derived.Test.Ytfkmhdnapmicdaa19X
import Derived.Deep.CutBlock
import Derived.Deep.DeepCutAuto
namespace Go.Proofs.Ytfkmhdnapmicdaa
set_option linter.unusedSimpArgs false
set_option linter.unusedVariables false
open Go.RowKit

/-- the octets of block g while k octets are laid on it -/
def cpF (B : List UInt8) (k j : Nat) : Value := .int .u8 ((if j < k then B.getD j 0 else 0).toNat : Int)
theorem cpF_s (B : List UInt8) (k j : Nat) : (if j = k then Value.int .u8 ((B.getD k 0).toNat : Int) else cpF B k j) = cpF B (k + 1) j := by
  unfold cpF
  by_cases e : j = k
  · subst e; simp
  · rw [if_neg e]
    by_cases e2 : j < k
    · rw [if_pos e2, if_pos (by omega)]
    · rw [if_neg e2, if_neg (by omega)]
/-- the copying loop's end -/
theorem cpF_end (B : List UInt8) (S k : Nat) (h1 : k ≤ S) (h2 : k ≤ B.length) (h : ¬ (k < S ∧ k < B.length)) (j : Nat) (hj : j < S) : cpF B k j = .int .u8 (((rcB B S).getD j 0).toNat : Int) := by
  rw [cpF, rcB, getD_range, if_pos hj]
  by_cases e : j < k
  · rw [if_pos e]
  · rw [if_neg e, List.getD_eq_getElem?_getD, List.getElem?_eq_none (by omega)]; rfl
/-- the flags of block h while i flags are laid on it -/
def cpT (T : List Bool) (k j : Nat) : Value := .bool (if j < k then T.getD j false else false)
theorem cpT_s (T : List Bool) (k j : Nat) : (if j = k then Value.bool (T.getD k false) else cpT T k j) = cpT T (k + 1) j := by
  unfold cpT
  by_cases e : j = k
  · subst e; simp
  · rw [if_neg e]
    by_cases e2 : j < k
    · rw [if_pos e2, if_pos (by omega)]
    · rw [if_neg e2, if_neg (by omega)]
theorem cpT_end (T : List Bool) (N k : Nat) (h1 : k ≤ N) (h : ¬ (k < N ∧ k < T.length)) (j : Nat) (hj : j < N) : cpT T k j = .bool ((rcT T N).getD j false) := by
  rw [cpT, rcT, getD_range, if_pos hj]
  by_cases e : j < k
  · rw [if_pos e]
  · rw [if_neg e, List.getD_eq_getElem?_getD, List.getElem?_eq_none (by omega)]; rfl
/-- the numbers said while i flags are looked at -/
def rcWt (T : List Bool) (n S i : Nat) : List Int := if S < n ∧ S % 128 ≠ 0 ∧ T.getD (S / 128) false = true ∧ S / 128 < i then [((S / 128 : Nat) : Int)] else []
theorem rcWt_0 (T : List Bool) (n S : Nat) : rcWt T n S 0 = [] := if_neg (by omega)
theorem rcWt_yes (T : List Bool) (n S i : Nat) (h1 : T.getD i false = true) (h2 : S < n) (h3 : 128 * i < S) (h4 : S < 128 * i + 128) : rcWt T n S i = [] ∧ rcWt T n S (i + 1) = [(i : Int)] := by
  have e : S / 128 = i := by omega
  exact ⟨if_neg (by omega), by rw [rcWt, e, if_pos ⟨h2, by omega, h1, by omega⟩]⟩
theorem rcWt_no (T : List Bool) (n S i : Nat) (h3 : 128 * i < S) (h : ¬ (T.getD i false = true ∧ S < n ∧ S < 128 * i + 128)) : rcWt T n S (i + 1) = rcWt T n S i := by
  unfold rcWt
  by_cases e : S / 128 = i
  · subst e
    rw [if_neg (fun x => h ⟨x.2.2.1, x.1, by omega⟩), if_neg (by omega)]
  · congr 1
    apply propext
    constructor
    · rintro ⟨a, b, c, d⟩; exact ⟨a, b, c, by omega⟩
    · rintro ⟨a, b, c, d⟩; exact ⟨a, b, c, by omega⟩
theorem rcWt_end (T : List Bool) (n S N i : Nat) (hN : S ≤ 128 * N) (hi : ¬ (i < N ∧ i < T.length)) : rcWt T n S i = rcW T n S := by
  unfold rcWt rcW
  by_cases e : T.length ≤ S / 128
  · have : T.getD (S / 128) false = false := by rw [List.getD_eq_getElem?_getD, List.getElem?_eq_none e]; rfl
    rw [this, if_neg (by simp), if_neg (by simp)]
  · congr 1
    apply propext
    constructor
    · rintro ⟨a, b, c, d⟩; exact ⟨a, b, c⟩
    · rintro ⟨a, b, c⟩; exact ⟨a, b, c, by omega⟩
theorem BlkT.grownI {w w' : World} {g : Nat} {t : TypeId} {n : Nat} {F : Nat → Value} {base : Nat} {v : Value} {m size : Nat} {xs : List Value} (h : BlkT w g t n F) (hr : w.ownsRow base 3 size v m xs) (hne : t ≠ 3) (hg : w.grownBy w' v.ownBlock) : BlkT w' g t n F := by
  refine h.of_heap (hg.block g h.lt fun e => ?_)
  obtain ⟨cs, hcs⟩ := row_type hr e.symm
  obtain ⟨cs', h, -⟩ := h
  rw [h] at hcs
  injection hcs with hcs
  injection hcs with _ ht
  exact hne ht
theorem CB.grownI {w w' : World} {g : Nat} {t : TypeId} {cs : List Value} {base : Nat} {v : Value} {m size : Nat} {xs : List Value} (h : CB w g t cs) (hr : w.ownsRow base 3 size v m xs) (hne : t ≠ 3) (hg : w.grownBy w' v.ownBlock) : CB w' g t cs := by
  refine CB.of_heap h (hg.block g h.lt fun e => ?_)
  obtain ⟨cs', hcs⟩ := row_type hr e.symm
  have h : w.heap[g]? = _ := h
  rw [h] at hcs
  injection hcs with hcs
  injection hcs with _ ht
  exact hne ht
/-- a row of numbers where a block of another type is stored to -/
theorem row_set {w : World} {base : Nat} {e : TypeId} {size n : Nat} {v : Value} {xs : List Value} (h : w.ownsRow base e size v n xs) {g m : Nat} {t : TypeId} {F : Nat → Value} (hg : BlkT w g t m F) (hne : e ≠ t) (j : Nat) (x : Value) : (w.setCell ⟨g, j, none⟩ x).ownsRow base e size v n xs := by
  refine ⟨h.1, ?_⟩
  rcases h.2 with hn | ⟨q, cap, cur, rfl, hb', hgg, rest⟩
  · exact .inl hn
  · refine .inr ⟨q, cap, cur, rfl, hb', (Below.heap_setCell _ _ _ _ fun ee => ?_).trans hgg, rest⟩
    obtain ⟨cs, hcs, -⟩ := hg
    have ee : q = g := ee
    rw [ee, hcs] at hgg
    injection hgg with hgg
    injection hgg with _ ht
    exact hne ht.symm
theorem tyUI : 5 ≠ 3 := by decide
theorem tyBI : 4 ≠ 3 := by decide
theorem tyFI : 36 ≠ 3 := by decide
theorem tyIB : 3 ≠ 4 := by decide
def RcPost (B : List UInt8) (T : List Bool) (S : Nat) (w : World) (e : Ending) (w' : World) : Prop := ∃ v u, e = .returned (.tuple #[v, u]) ∧ Rf w' v (rcB B S) (rcT T (needI (S : Int)).toNat) ∧ Ints w' u (rcW T B.length S) ∧ Kept w w'
set_option maxRecDepth 100000 in
set_option maxHeartbeats 4000000 in
theorem rcut_any (B : List UInt8) (T : List Bool) (S : Nat) (hS : S ≤ 463488) (hB : B.length ≤ 1000000) (hT : T.length ≤ 8000) (v : Value) (w : World) (hR : Rf w v B T) : Calls Try.prog 19 #[v, .int .i64 (S : Int)] w (RcPost B T S w) := by
  obtain ⟨vB, vT, rfl, hyB, hyT⟩ := hR
  obtain ⟨A1, c1, rfl⟩ := hyB.shape
  obtain ⟨A2, c2, rfl⟩ := hyT.shape
  have hn := needI_le (show (S : Int) ≤ 463488 by omega)
  obtain ⟨N, hN⟩ : ∃ N : Nat, needI (S : Int) = (N : Int) := ⟨(needI (S : Int)).toNat, by unfold needI; split <;> omega⟩
  have HSZ := hid (fun w => need_any (S : Int) (by omega) w)
  rw [hN] at HSZ hn
  have HN := hid hN
  have hNb : N ≤ 3621 := by omega
  obtain ⟨n, hn2⟩ : ∃ n, B.length = n := ⟨_, rfl⟩
  obtain ⟨q, hq⟩ : ∃ q, T.length = q := ⟨_, rfl⟩
  rw [hn2] at hyB hB ⊢
  rw [hq] at hyT hT ⊢
  have HYB := hid hyB; have HYT := hid hyT; have HLB := hid hn2; have HLT := hid hq
  have hmk1 := make_bytes S (by omega)
  have hmk2 := make_bools N (by omega)
  obtain ⟨Z1, hZ1⟩ : ∃ Z1, bcells (List.replicate S 0) = Z1 := ⟨_, rfl⟩
  obtain ⟨Z2, hZ2⟩ : ∃ Z2, tcells (List.replicate N false) = Z2 := ⟨_, rfl⟩
  rw [hZ1] at hmk1
  rw [hZ2] at hmk2
  have HZ1 := hid hZ1; have HZ2 := hid hZ2
  clear hyB hyT hN hZ1 hZ2 hn hn2 hq
  go_enter Try.func19, Try.ntmps19
  go_upto_region 1 with fail
  have hk0 : Kept w ((w.alloc (.cells #[.slice A1 n c1, .slice A2 q c2] 36)).alloc (.cells #[.slice none 0 0, .slice none 0 0] 36)) := ((Kept.refl w).alloc _).alloc _
  have b0 : ((w.alloc (.cells #[.slice A1 n c1, .slice A2 q c2] 36)).alloc (.cells #[.slice none 0 0, .slice none 0 0] 36)).cell? ⟨w.heap.size, 0, none⟩ = some (.slice A1 n c1) := by simp [go_sem]
  have b1 : ((w.alloc (.cells #[.slice A1 n c1, .slice A2 q c2] 36)).alloc (.cells #[.slice none 0 0, .slice none 0 0] 36)).cell? ⟨w.heap.size, 1, none⟩ = some (.slice A2 q c2) := by simp [go_sem]
  have r0 : ((w.alloc (.cells #[.slice A1 n c1, .slice A2 q c2] 36)).alloc (.cells #[.slice none 0 0, .slice none 0 0] 36)).cell? ⟨w.heap.size + 1, 0, none⟩ = some (.slice none 0 0) := by simp [go_sem]
  have r1 : ((w.alloc (.cells #[.slice A1 n c1, .slice A2 q c2] 36)).alloc (.cells #[.slice none 0 0, .slice none 0 0] 36)).cell? ⟨w.heap.size + 1, 1, none⟩ = some (.slice none 0 0) := by simp [go_sem]
  have q0 : ((w.alloc (.cells #[.slice A1 n c1, .slice A2 q c2] 36)).alloc (.cells #[.slice none 0 0, .slice none 0 0] 36)).frozen? ⟨w.heap.size + 1, 0, none⟩ = false := by simp [go_sem]
  have q1 : ((w.alloc (.cells #[.slice A1 n c1, .slice A2 q c2] 36)).alloc (.cells #[.slice none 0 0, .slice none 0 0] 36)).frozen? ⟨w.heap.size + 1, 1, none⟩ = false := by simp [go_sem]
  generalize ((w.alloc (.cells #[.slice A1 n c1, .slice A2 q c2] 36)).alloc (.cells #[.slice none 0 0, .slice none 0 0] 36)) = w1 at *
  have hlt : w.heap.size + 1 < w1.heap.size := cell_lt r0
  have K1 := hid hk0; have D0 := hid b0; have D1 := hid b1; have R0 := hid r0; have R1 := hid r1; have Q0 := hid q0; have Q1 := hid q1
  clear hk0 r0 r1 q0 q1
  go_cut [6] (fun t wx => ∃ X g h : Nat, t = .pointer (some ⟨X, 0, none⟩) ∧ CB wx X 36 [.slice (some ⟨g, 0, none⟩) S S, .slice (some ⟨h, 0, none⟩) N N] ∧ CB wx g 5 Z1 ∧ CB wx h 4 Z2 ∧ w1.heap.size ≤ X ∧ w1.heap.size ≤ g ∧ w1.heap.size ≤ h ∧ Kept w1 wx)
  case first =>
    go_region_held3 (fun w' => w'.cell? ⟨w.heap.size, 0, none⟩ = some (.slice A1 n c1))
      (first | exact b0 | assumption | (go_split_ands; assumption) | exact (by simp [go_sem, *]))
      (first | (go_at_call 28; (with_reducible refine (HSZ.out _).mono ?_); rintro e w2 ⟨rfl, rfl⟩))
    all_goals (
      go_wp2_with fail
      go_meet
      apply Exists.intro
      apply Exists.intro
      apply Exists.intro
      refine ⟨rfl, ?_, ?_, ?_, ?_, ?_, ?_, ?_⟩
      · first | exact al0 _ _ _ _ | exact al1 _ _ _ _ | exact al2 _ _ _ _
      · first | exact al0 _ _ _ _ | exact al1 _ _ _ _ | exact al2 _ _ _ _
      · first | exact al0 _ _ _ _ | exact al1 _ _ _ _ | exact al2 _ _ _ _
      · omega
      · omega
      · omega
      · exact (by repeat (first | exact Kept.refl _ | assumption | refine Kept.alloc ?_ _ | refine Kept.drew ?_ | refine Kept.drewN ?_ _ | refine Kept.setCell ?_ (by simp; try omega) _ | refine Kept.trans ?_ (by assumption))))
  case rest =>
    obtain ⟨X, g, h, rfl, hX, hg, hh, lX, lg, lh, hkc⟩ := hcut
    have HKC := hid hkc
    have BG := hid (show BlkT wc g 5 S (cpF B 0) from CB.blkT hg S (by rw [← HZ1.out]; simp [bcells]) _ (fun j hj => by
      rw [← HZ1.out, bcells_at _ _ (by simpa using hj), List.getD_eq_getElem?_getD, List.getElem?_replicate, if_pos hj]; rfl))
    have BH := hid (show BlkT wc h 4 N (fun t => .bool false) from CB.blkT hh N (by rw [← HZ2.out]; simp [tcells]) _ (fun j hj => by
      rw [← HZ2.out, tcells_at _ _ (by simpa using hj), List.getD_eq_getElem?_getD, List.getElem?_replicate, if_pos hj]; rfl))
    have HX := hid hX
    have hgX : g ≠ X := fun e => by
      have h1 : wc.heap[g]? = _ := hg
      have h2 : wc.heap[X]? = _ := hX
      rw [← e, h1] at h2
      injection h2 with h2
      injection h2 with _ h3
      exact tyUF h3
    have hhX : h ≠ X := fun e => by
      have h1 : wc.heap[h]? = _ := hh
      have h2 : wc.heap[X]? = _ := hX
      rw [← e, h1] at h2
      injection h2 with h2
      injection h2 with _ h3
      exact tyBF h3
    have hgh : g ≠ h := BG.out.ne BH.out tyUB
    have HD := hid (⟨hgX, hhX, hgh, lX, lg, lh⟩ : g ≠ X ∧ h ≠ X ∧ g ≠ h ∧ w1.heap.size ≤ X ∧ w1.heap.size ≤ g ∧ w1.heap.size ≤ h)
    clear hX hg hh hkc hmk1 hmk2 b0 b1 hgX hhX hgh
    go_upto_block 0 with fail
    go_cut [7] (fun t wr => BlkT wr g 5 S (fun j => .int .u8 (((rcB B S).getD j 0).toNat : Int)) ∧ BlkT wr h 4 N (fun t => .bool false) ∧ CB wr X 36 [.slice (some ⟨g, 0, none⟩) S S, .slice (some ⟨h, 0, none⟩) N N] ∧ Kept w1 wr)
    case first =>
      go_wp2_with fail
      go_loopw [7] (fun t wr => ∃ k : Nat, k ≤ S ∧ k ≤ n ∧ t = .int .i64 k ∧ BlkT wr g 5 S (cpF B k) ∧ BlkT wr h 4 N (fun t => .bool false) ∧ CB wr X 36 [.slice (some ⟨g, 0, none⟩) S S, .slice (some ⟨h, 0, none⟩) N N] ∧ Kept w1 wr) (fun t _ => S - (intOf t).toNat)
      case atStart => exact ⟨0, by omega, by omega, rfl, BG.out, BH.out, HX.out, HKC.out⟩
      case round =>
        obtain ⟨k, hk1, hk2, rfl, hbg, hbh, hcx, hkw⟩ := hrel
        have HBG := hid hbg; have HBH := hid hbh; have HCX := hid hcx; have HK := hid hkw
        have x0 := hcx.cell 0 (by simp)
        simp only [List.getElem_cons_zero] at x0
        have d0 := hkw.keeps D0.out
        have w4 : IntKind.i64.wrap ((k : Int) + 1) = (k : Int) + 1 := IntWalk.i64_in _ (by omega)
        clear hbg hbh hcx hkw BG BH HX HKC
        by_cases hin : k < S ∧ k < n
        · obtain ⟨ha, hb⟩ := hin
          have e1 : (k : Int) < (S : Int) := by omega
          have e2 : (k : Int) < (n : Int) := by omega
          have e0 : (0 : Int) ≤ (k : Int) := by omega
          obtain ⟨b5, o5, rfl, hc5⟩ := HYB.out.cell k hb
          have hl5 : b5 < w1.heap.size := Nat.lt_of_lt_of_le (cell_lt hc5) K1.out.size
          have c5 := (K1.out.trans HK.out).keeps hc5
          have hf := HBG.out.frozen k
          have hcN := HBG.out.cell k ha
          have HK3 := hid (fun v => (⟨(World.cell?_setCell_far wr ⟨g, k, none⟩ ⟨X, 0, none⟩ v HD.out.1).trans x0, (World.cell?_setCell_far wr ⟨g, k, none⟩ ⟨w.heap.size, 0, none⟩ v (show g ≠ w.heap.size by omega)).trans d0, (World.cell?_setCell_far wr ⟨g, k, none⟩ ⟨b5, o5 + k, none⟩ v (show g ≠ b5 by omega)).trans c5⟩ :
            (wr.setCell ⟨g, k, none⟩ v).cell? ⟨X, 0, none⟩ = some (.slice (some ⟨g, 0, none⟩) S S) ∧ (wr.setCell ⟨g, k, none⟩ v).cell? ⟨w.heap.size, 0, none⟩ = some (.slice (some ⟨b5, o5, none⟩) n c1) ∧ (wr.setCell ⟨g, k, none⟩ v).cell? ⟨b5, o5 + k, none⟩ = some (.int .u8 ((B.getD k 0).toNat : Int))))
          clear hc5
          go_wp2_with fail
          go_region_held3 (fun w' => w'.cell? ⟨X, 0, none⟩ = some (.slice (some ⟨g, 0, none⟩) S S) ∧ w'.cell? ⟨w.heap.size, 0, none⟩ = some (.slice (some ⟨b5, o5, none⟩) n c1) ∧ w'.cell? ⟨b5, o5 + k, none⟩ = some (.int .u8 ((B.getD k 0).toNat : Int)))
            (first | exact ⟨x0, d0, c5⟩ | exact HK3.out _)
            (fail)
          go_wp2
          go_roundw
          case rel => exact ⟨k + 1, by omega, by omega, by go_num, (HBG.out.set1 k _).congr (fun j hj => cpF_s B k j), HBH.out.far HD.out.2.2.1.symm _, (Below.heap_setCell _ _ _ _ HD.out.1.symm).trans HCX.out, (HK.out.setCell (by show w1.heap.size ≤ g; omega) _).drew⟩
          case measure => simp [intOf]; omega
        · have HE := hid (fun j hj => cpF_end B S k hk1 (by rw [HLB.out]; omega) (by rw [HLB.out]; exact hin) j hj)
          rcases (by omega : (k < S ∧ ¬ k < n) ∨ ¬ k < S) with ⟨ha, hb⟩ | ha
          · have e1 : (k : Int) < (S : Int) := by omega
            have e2 : ¬ (k : Int) < (n : Int) := by omega
            go_wp2_with fail
            go_meet
            exact ⟨HBG.out.congr (fun j hj => HE.out j hj), HBH.out, HCX.out, HK.out⟩
          · have e1 : ¬ (k : Int) < (S : Int) := by omega
            go_wp2_with fail
            go_meet
            exact ⟨HBG.out.congr (fun j hj => HE.out j hj), HBH.out, HCX.out, HK.out⟩
    case rest =>
      obtain ⟨hbg, hbh, hcx, hkw⟩ := hcut
      have B3G := hid hbg; have B3H := hid hbh; have X3 := hid hcx; have K3 := hid hkw
      clear hbg hbh hcx hkw BG BH HX HKC
      have HSN := hid (show S ≤ 128 * N ∧ ∀ i : Nat, i < N → 128 * i < S from by
        have h := HN.out
        unfold needI at h
        split at h
        · exact ⟨by omega, fun i hi => by omega⟩
        · exact ⟨by omega, fun i hi => by omega⟩)
      go_wp2_with fail
      go_loopw [8, 9] (fun tw t wr => ∃ i : Nat, i ≤ N ∧ i ≤ q ∧ t = .int .i64 i ∧ BlkT wr g 5 S (fun j => .int .u8 (((rcB B S).getD j 0).toNat : Int)) ∧ BlkT wr h 4 N (cpT T i) ∧ CB wr X 36 [.slice (some ⟨g, 0, none⟩) S S, .slice (some ⟨h, 0, none⟩) N N] ∧ Kept w1 wr ∧ wr.ownsRow w1.heap.size 3 1 tw (rcWt T n S i).length ((rcWt T n S i).map (Value.int .i64))) (fun _ t _ => N - (intOf t).toNat)
      case atStart => exact ⟨0, by omega, by omega, rfl, B3G.out, B3H.out.congr (fun j hj => by rw [cpT, if_neg (by omega)]), X3.out, K3.out, by rw [rcWt_0]; exact World.ownsRow_nil _ _ _ _⟩
      case round =>
        obtain ⟨i, hi1, hi2, rfl, hbg, hbh, hcx, hkw, hrow⟩ := hrel
        have HBG := hid hbg; have HBH := hid hbh; have HCX := hid hcx; have HK := hid hkw; have HROW := hid hrow
        have x0 := hcx.cell 0 (by simp); have x1 := hcx.cell 1 (by simp)
        simp only [List.getElem_cons_zero, List.getElem_cons_succ] at x0 x1
        have d0 := hkw.keeps D0.out; have d1 := hkw.keeps D1.out
        have w4 : IntKind.i64.wrap ((i : Int) + 1) = (i : Int) + 1 := IntWalk.i64_in _ (by omega)
        have w5 : IntKind.i64.wrap (128 * (i : Int)) = 128 * (i : Int) := IntWalk.i64_in _ (by omega)
        have w6 : IntKind.i64.wrap (128 * (i : Int) + 128) = 128 * (i : Int) + 128 := IntWalk.i64_in _ (by omega)
        clear hbg hbh hcx hkw hrow B3G B3H X3 K3
        by_cases hin : i < N ∧ i < q
        · obtain ⟨ha, hb⟩ := hin
          have e1 : (i : Int) < (N : Int) := by omega
          have e2 : (i : Int) < (q : Int) := by omega
          have e0 : (0 : Int) ≤ (i : Int) := by omega
          obtain ⟨b5, o5, rfl, hc5⟩ := HYT.out.cell i hb
          have hl5 : b5 < w1.heap.size := Nat.lt_of_lt_of_le (cell_lt hc5) K1.out.size
          obtain ⟨tb, htb⟩ : ∃ tb, T.getD i false = tb := ⟨_, rfl⟩
          rw [htb] at hc5
          have HTB := hid htb
          have c5 := (K1.out.trans HK.out).keeps hc5
          have hf := HBH.out.frozen i
          have hcN := HBH.out.cell i ha
          have HK3 := hid (fun v => (⟨(World.cell?_setCell_far wr ⟨h, i, none⟩ ⟨X, 1, none⟩ v HD.out.2.1).trans x1, (World.cell?_setCell_far wr ⟨h, i, none⟩ ⟨w.heap.size, 1, none⟩ v (show h ≠ w.heap.size by omega)).trans d1, (World.cell?_setCell_far wr ⟨h, i, none⟩ ⟨b5, o5 + i, none⟩ v (show h ≠ b5 by omega)).trans c5⟩ :
            (wr.setCell ⟨h, i, none⟩ v).cell? ⟨X, 1, none⟩ = some (.slice (some ⟨h, 0, none⟩) N N) ∧ (wr.setCell ⟨h, i, none⟩ v).cell? ⟨w.heap.size, 1, none⟩ = some (.slice (some ⟨b5, o5, none⟩) q c2) ∧ (wr.setCell ⟨h, i, none⟩ v).cell? ⟨b5, o5 + i, none⟩ = some (.bool tb)))
          have HW := hid (show ∀ v, v = Value.bool tb → BlkT (wr.setCell ⟨h, i, none⟩ v).drew h 4 N (cpT T (i + 1)) ∧ BlkT (wr.setCell ⟨h, i, none⟩ v).drew g 5 S (fun j => .int .u8 (((rcB B S).getD j 0).toNat : Int)) ∧ CB (wr.setCell ⟨h, i, none⟩ v).drew X 36 [.slice (some ⟨g, 0, none⟩) S S, .slice (some ⟨h, 0, none⟩) N N] ∧ Kept w1 (wr.setCell ⟨h, i, none⟩ v).drew ∧ (wr.setCell ⟨h, i, none⟩ v).drew.ownsRow w1.heap.size 3 1 u8 (rcWt T n S i).length ((rcWt T n S i).map (Value.int .i64)) from fun v hv => by
            subst hv
            exact ⟨(HBH.out.set1 i _).congr (fun j hj => by rw [← HTB.out]; exact cpT_s T i j), HBG.out.far HD.out.2.2.1 _, (Below.heap_setCell _ _ _ _ HD.out.2.1.symm).trans HCX.out, (HK.out.setCell (by show w1.heap.size ≤ h; omega) _).drew, row_set HROW.out HBH.out tyIB i _⟩)
          have h128 : 128 * (i : Int) < (S : Int) := by have := HSN.out.2 i ha; omega
          clear hc5 htb
          go_wp2_with fail
          go_region_held3 (fun w' => w'.cell? ⟨X, 1, none⟩ = some (.slice (some ⟨h, 0, none⟩) N N) ∧ w'.cell? ⟨w.heap.size, 1, none⟩ = some (.slice (some ⟨b5, o5, none⟩) q c2) ∧ w'.cell? ⟨b5, o5 + i, none⟩ = some (.bool tb))
            (first | exact ⟨x1, d1, c5⟩ | exact HK3.out _)
            (fail)
          have htb := HTB.out
          obtain ⟨hb6, hg6, hx6, hk6, hr6⟩ := HW.out _ rfl
          clear HW HK3 x0 x1 d0 d1 c5 hf hcN HBG HBH HCX HK HROW
          generalize (wr.setCell ⟨h, i, none⟩ (Value.bool tb)).drew = w7 at *
          have HBH := hid hb6; have HBG := hid hg6; have HCX := hid hx6; have HK := hid hk6; have HROW := hid hr6
          have x0 := hx6.cell 0 (by simp); have x1 := hx6.cell 1 (by simp)
          simp only [List.getElem_cons_zero, List.getElem_cons_succ] at x0 x1
          have d0 := hk6.keeps D0.out; have d1 := hk6.keeps D1.out
          have c6 := hb6.cell i ha
          rw [cpT, if_pos (by omega), htb] at c6
          clear hb6 hg6 hx6 hk6 hr6
          rw [← htb] at c6
          by_cases hall : T.getD i false = true ∧ S < n ∧ S < 128 * i + 128
          · obtain ⟨t1, t2, t3⟩ := hall
            obtain ⟨y1, y2⟩ := rcWt_yes T n S i t1 t2 (HSN.out.2 i ha) t3
            have Y2 := hid y2
            rw [t1] at c6; have T1 := hid t1; clear t1 htb HTB
            rw [y1] at HROW
            have e5 : (S : Int) < (n : Int) := by omega
            have e6 : (S : Int) < 128 * (i : Int) + 128 := by omega
            clear y1 y2
            go_wp2_with (first
              | (at_builtin; go_loud (refine wpList_pushG (W := w1) (cs := [.int .i64 (i : Int)]) rfl (.tmp 85) (.tmp 87) 28 rfl 3 _ 1 8 Try.underlying28 info_int rfl (by decide) (by decide) _ _ _ _ _ rfl HROW.out rfl rfl rfl (by simp [Value.oneCell']) (by simp) HK.out ?_); intro v8 w8 hown8 hk8 hg8; have HRO8 := hid hown8; have K8 := hid hk8; have BG8 := hid (BlkT.grownI (((Kept.refl w7).alloc _).blkT HBG.out) (((Kept.refl w7).alloc _).row HROW.out) tyUI hg8); have BH8 := hid (BlkT.grownI (((Kept.refl w7).alloc _).blkT HBH.out) (((Kept.refl w7).alloc _).row HROW.out) tyBI hg8); have CX8 := hid (CB.grownI (((Kept.refl w7).alloc _).cb HCX.out) (((Kept.refl w7).alloc _).row HROW.out) tyFI hg8); clear hown8 hk8 hg8))
            go_roundw
            case rel => exact ⟨i + 1, by omega, by omega, by go_num, BG8.out, BH8.out, CX8.out, K8.out, by rw [Y2.out]; exact HRO8.out⟩
            case measure => simp [intOf]; omega
          · have HNO := hid (rcWt_no T n S i (HSN.out.2 i ha) hall)
            rcases (by
              rcases Bool.eq_false_or_eq_true (T.getD i false) with h | h
              · by_cases h2 : S < n
                · exact .inr (.inr ⟨h, h2, fun h3 => hall ⟨h, h2, h3⟩⟩)
                · exact .inr (.inl ⟨h, h2⟩)
              · exact .inl h : T.getD i false = false ∨ (T.getD i false = true ∧ ¬ S < n) ∨ (T.getD i false = true ∧ S < n ∧ ¬ S < 128 * i + 128)) with t1 | ⟨t1, t2⟩ | ⟨t1, t2, t3⟩
            · rw [t1] at c6; have T1 := hid t1; clear t1 htb HTB
              clear hall
              go_wp2_with fail
              go_roundw
              case rel => exact ⟨i + 1, by omega, by omega, by go_num, HBG.out, HBH.out, HCX.out, HK.out, by rw [HNO.out]; exact HROW.out⟩
              case measure => simp [intOf]; omega
            · rw [t1] at c6; have T1 := hid t1; clear t1 htb HTB
              have e5 : ¬ (S : Int) < (n : Int) := by omega
              clear hall
              go_wp2_with fail
              go_roundw
              case rel => exact ⟨i + 1, by omega, by omega, by go_num, HBG.out, HBH.out, HCX.out, HK.out, by rw [HNO.out]; exact HROW.out⟩
              case measure => simp [intOf]; omega
            · rw [t1] at c6; have T1 := hid t1; clear t1 htb HTB
              have e5 : (S : Int) < (n : Int) := by omega
              have e6 : ¬ (S : Int) < 128 * (i : Int) + 128 := by omega
              clear hall
              go_wp2_with fail
              go_roundw
              case rel => exact ⟨i + 1, by omega, by omega, by go_num, HBG.out, HBH.out, HCX.out, HK.out, by rw [HNO.out]; exact HROW.out⟩
              case measure => simp [intOf]; omega
        · have HE := hid (fun j hj => cpT_end T N i hi1 (by rw [HLT.out]; exact hin) j hj)
          have HRW := hid (rcWt_end T n S N i HSN.out.1 (by rw [HLT.out]; exact hin))
          have BH9 := hid (HBH.out.congr (fun j hj => HE.out j hj))
          rw [HRW.out] at HROW
          have HPO := hid (show ∀ w', w' = (wr.setCell ⟨w.heap.size + 1, 0, none⟩ (.slice (some ⟨g, 0, none⟩) S S)).setCell ⟨w.heap.size + 1, 1, none⟩ (.slice (some ⟨h, 0, none⟩) N N) → RcPost B T S w (.returned (.tuple #[.agg #[.slice (some ⟨g, 0, none⟩) S S, .slice (some ⟨h, 0, none⟩) N N], u8])) w' from fun w' hw' => by
            subst hw'
            have g1 : g ≠ w.heap.size + 1 := by have := HD.out; omega
            have g2 : h ≠ w.heap.size + 1 := by have := HD.out; omega
            have kk : Kept w ((wr.setCell ⟨w.heap.size + 1, 0, none⟩ (.slice (some ⟨g, 0, none⟩) S S)).setCell ⟨w.heap.size + 1, 1, none⟩ (.slice (some ⟨h, 0, none⟩) N N)) := ((K1.out.trans HK.out).setCell (by simp) _).setCell (by simp) _
            refine ⟨_, _, rfl, ⟨_, _, rfl, byts_mk (by rw [rcB]; simp) (Nat.le_refl _) (by omega) (cb_range (t := 5) ?_), bools_mk (by rw [rcT, HN.out]; simp) (Nat.le_refl _) (by omega) (cb_range (t := 4) ?_)⟩, ?_, kk⟩
            · exact (((HBG.out.far g1 _).far g1 _).cb _ (by rw [bcells_len, rcB]; simp) (fun j hj => by rw [bcells_at _ _ (by rw [rcB]; simpa using hj)]))
            · refine (((BH9.out.far g2 _).far g2 _).cb _ (by rw [tcells_len, rcT, HN.out]; simp) (fun j hj => ?_))
              rw [HN.out, Int.toNat_natCast, tcells_at _ _ (by rw [rcT]; simpa using hj)]
            · rw [HLB.out]
              exact (ints_own (row_low (row_low HROW.out (p := ⟨w.heap.size + 1, 0, none⟩) hlt _) (p := ⟨w.heap.size + 1, 1, none⟩) hlt _)).1)
          have r0 := HK.out.keeps R0.out; have r1 := HK.out.keeps R1.out
          have q0 := HK.out.free R0.out Q0.out; have q1 := HK.out.free R1.out Q1.out
          have hne : X ≠ w.heap.size + 1 := by have := HD.out; omega
          have i3 : ¬ ((i : Int) < (N : Int) ∧ (i : Int) < (q : Int)) := by omega
          rcases (by omega : (i < N ∧ ¬ i < q) ∨ ¬ i < N) with ⟨ha, hb⟩ | ha
          · have e1 : (i : Int) < (N : Int) := by omega
            have e2 : ¬ (i : Int) < (q : Int) := by omega
            clear i3 hin
            go_wp2
            refine bodyPost_ret (v := .tuple #[.agg #[.slice (some ⟨g, 0, none⟩) S S, .slice (some ⟨h, 0, none⟩) N N], u8]) (by simp [results, Try.results19, go_sem, r0, r1, q0, q1]) rfl (HPO.out _ rfl)
          · have e1 : ¬ (i : Int) < (N : Int) := by omega
            clear i3 hin
            go_wp2
            refine bodyPost_ret (v := .tuple #[.agg #[.slice (some ⟨g, 0, none⟩) S S, .slice (some ⟨h, 0, none⟩) N N], u8]) (by simp [results, Try.results19, go_sem, r0, r1, q0, q1]) rfl (HPO.out _ rfl)
end Go.Proofs.Ytfkmhdnapmicdaa
