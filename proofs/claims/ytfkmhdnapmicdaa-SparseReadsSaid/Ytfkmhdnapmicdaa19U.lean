/- haymowref19.Of. -/
import Derived.Test.Ytfkmhdnapmicdaa19T
namespace Go.Proofs.Ytfkmhdnapmicdaa
set_option linter.unusedSimpArgs false
set_option linter.unusedVariables false
open Go.RowKit

theorem findL_snoc (L : List Pc) (p : Pc) (i : Int) : findL (L ++ [p]) i = (findL L i).or (if p.n = i then some p else none) := by
  rw [find_app]
  congr 1
  by_cases e : p.n = i
  · rw [if_pos e, findL, List.find?_cons_of_pos (by simp [e])]
  · rw [if_neg e, findL, List.find?_cons_of_neg (by simp [e])]; rfl
theorem hasL_snoc (L : List Pc) (p : Pc) (t : Nat) : hasL (L ++ [p]) t = (decide ((t : Int) = p.n) || hasL L t) := by
  rw [hasL, findL_snoc, hasL]
  by_cases e : p.n = (t : Int)
  · rw [if_pos e]; simp [e.symm]
  · have e2 : ¬ (t : Int) = p.n := fun x => e x.symm
    rw [if_neg e]; simp [e2]
theorem al0 (w : World) (a b c : Obj) : (((w.alloc a).alloc b).alloc c).drew.heap[w.heap.size]? = some a := by
  show (((w.alloc a).alloc b).alloc c).heap[w.heap.size]? = some a
  rw [Below.heap_alloc _ _ _ (by simp; omega), Below.heap_alloc _ _ _ (by simp)]
  exact heap_alloc_new w a
theorem al1 (w : World) (a b c : Obj) : (((w.alloc a).alloc b).alloc c).drew.heap[w.heap.size + 1]? = some b := by
  show (((w.alloc a).alloc b).alloc c).heap[w.heap.size + 1]? = some b
  rw [Below.heap_alloc _ _ _ (by simp)]
  exact heap_alloc_at (w.alloc a) b _ (by simp)
theorem al2 (w : World) (a b c : Obj) : (((w.alloc a).alloc b).alloc c).drew.heap[w.heap.size + 1 + 1]? = some c :=
  heap_alloc_at ((w.alloc a).alloc b) c _ (by simp)
def OfPost (f : Fl) (w : World) (e : Ending) (w' : World) : Prop := ∃ v, e = .returned v ∧ Rf w' v (rdB f.L 0 f.size.toNat) ((List.range (needI f.size).toNat).map (hasL f.L)) ∧ Kept w w'
/-- the octets of block g while one piece is laid on them -/
def inF (p : Nat) (pb : List UInt8) (f : Nat → UInt8) (k : Nat) (j : Nat) : Value := .int .u8 (((if j / 128 = p ∧ j % 128 < k then pb.getD (j % 128) 0 else f j)).toNat : Int)
theorem inF_0 (p : Nat) (pb : List UInt8) (f : Nat → UInt8) (j : Nat) : Value.int .u8 ((f j).toNat : Int) = inF p pb f 0 j := by
  rw [inF, if_neg (by omega)]
theorem inF_s (p : Nat) (pb : List UInt8) (f : Nat → UInt8) (k : Nat) (hk : k < 128) (j : Nat) : (if j = 128 * p + k then Value.int .u8 ((pb.getD k 0).toNat : Int) else inF p pb f k j) = inF p pb f (k + 1) j := by
  unfold inF
  by_cases e : j = 128 * p + k
  · rw [if_pos e, if_pos (by omega), show j % 128 = k by omega]
  · rw [if_neg e]
    by_cases e2 : j / 128 = p ∧ j % 128 < k
    · rw [if_pos e2, if_pos (by omega)]
    · rw [if_neg e2, if_neg (by omega)]
theorem inF_end (p : Nat) (pb : List UInt8) (f : Nat → UInt8) (k S : Nat) (h : ¬ (k < 128 ∧ 128 * p + k < S)) (j : Nat) (hj : j < S) : inF p pb f k j = Value.int .u8 (((if ((j / 128 : Nat) : Int) = (p : Int) then pb.getD (j % 128) 0 else f j)).toNat : Int) := by
  unfold inF
  by_cases e : j / 128 = p
  · rw [if_pos (by omega), if_pos (by omega)]
  · rw [if_neg (by omega), if_neg (by omega)]
set_option maxRecDepth 100000 in
set_option maxHeartbeats 4000000 in
theorem of_any (f : Fl) (v : Value) (w : World) (h : Sp w v f) (hv : Valid f) : Calls Try.prog 13 #[v] w (OfPost f w) := by
  obtain ⟨vl, rfl, hP⟩ := h
  obtain ⟨A, c, rfl⟩ := hP.shape
  obtain ⟨-, hp1, hp2, -, -⟩ := hP.open_
  obtain ⟨s, L⟩ := f
  dsimp only at *
  have hs0 := hv.s0; have hs1 := hv.s1
  dsimp only at hs0 hs1
  obtain ⟨S, rfl⟩ : ∃ S : Nat, s = (S : Int) := ⟨s.toNat, by omega⟩
  have hn := needI_le (show (S : Int) ≤ 463488 by omega)
  obtain ⟨N, hN⟩ : ∃ N : Nat, needI (S : Int) = (N : Int) := ⟨(needI (S : Int)).toNat, by omega⟩
  have HSZ := hid (fun w => need_any (S : Int) (by omega) w)
  rw [hN] at HSZ hn
  have HN := hid hN
  have HV := hid hv; have HP := hid hP
  have hSb : S ≤ 463488 := by omega
  have hNb : N ≤ 3621 := by omega
  have HPO := hid (show ∀ w' g h, Kept w w' → CB w' g 5 (bcells (rdB L 0 S)) → CB w' h 4 (tcells ((List.range N).map (hasL L))) → OfPost ⟨(S : Int), L⟩ w (.returned (.agg #[.slice (some ⟨g, 0, none⟩) S S, .slice (some ⟨h, 0, none⟩) N N])) w' from fun w' g h hk h1 h2 => by
    refine ⟨_, rfl, ?_, hk⟩
    dsimp only
    rw [HN.out, Int.toNat_natCast, Int.toNat_natCast]
    exact ⟨_, _, rfl, byts_mk (rdB_len _ _ _) (Nat.le_refl _) (by omega) (cb_range h1), bools_mk (by simp) (Nat.le_refl _) (by omega) (cb_range h2)⟩)
  have hmk1 := make_bytes S (by omega)
  have hmk2 := make_bools N (by omega)
  obtain ⟨m, hm⟩ : ∃ m, L.length = m := ⟨_, rfl⟩
  rw [hm] at HP hp1 ⊢
  have HM := hid hm
  obtain ⟨Z1, hZ1⟩ : ∃ Z1, bcells (List.replicate S 0) = Z1 := ⟨_, rfl⟩
  obtain ⟨Z2, hZ2⟩ : ∃ Z2, tcells (List.replicate N false) = Z2 := ⟨_, rfl⟩
  rw [hZ1] at hmk1
  rw [hZ2] at hmk2
  have HZ1 := hid hZ1; have HZ2 := hid hZ2
  clear hP hv hm hN hZ1 hZ2 hs0 hs1 hn
  go_enter Try.func13, Try.ntmps13
  go_upto_region 2 with (go_at_call 28; (with_reducible refine (HSZ.out _).mono ?_); rintro e w1 ⟨rfl, rfl⟩)
  have hk0 : Kept w ((w.alloc (.cells #[.int .i64 (S : Int), .slice A m c] 24)).alloc (.cells #[.slice none 0 0, .slice none 0 0] 36)) := ((Kept.refl w).alloc _).alloc _
  have b0 : ((w.alloc (.cells #[.int .i64 (S : Int), .slice A m c] 24)).alloc (.cells #[.slice none 0 0, .slice none 0 0] 36)).cell? ⟨w.heap.size, 0, none⟩ = some (.int .i64 (S : Int)) := by simp [go_sem]
  have b1 : ((w.alloc (.cells #[.int .i64 (S : Int), .slice A m c] 24)).alloc (.cells #[.slice none 0 0, .slice none 0 0] 36)).cell? ⟨w.heap.size, 1, none⟩ = some (.slice A m c) := by simp [go_sem]
  have r0 : ((w.alloc (.cells #[.int .i64 (S : Int), .slice A m c] 24)).alloc (.cells #[.slice none 0 0, .slice none 0 0] 36)).cell? ⟨w.heap.size + 1, 0, none⟩ = some (.slice none 0 0) := by simp [go_sem]
  have r1 : ((w.alloc (.cells #[.int .i64 (S : Int), .slice A m c] 24)).alloc (.cells #[.slice none 0 0, .slice none 0 0] 36)).cell? ⟨w.heap.size + 1, 1, none⟩ = some (.slice none 0 0) := by simp [go_sem]
  have q0 : ((w.alloc (.cells #[.int .i64 (S : Int), .slice A m c] 24)).alloc (.cells #[.slice none 0 0, .slice none 0 0] 36)).frozen? ⟨w.heap.size + 1, 0, none⟩ = false := by simp [go_sem]
  have q1 : ((w.alloc (.cells #[.int .i64 (S : Int), .slice A m c] 24)).alloc (.cells #[.slice none 0 0, .slice none 0 0] 36)).frozen? ⟨w.heap.size + 1, 1, none⟩ = false := by simp [go_sem]
  generalize ((w.alloc (.cells #[.int .i64 (S : Int), .slice A m c] 24)).alloc (.cells #[.slice none 0 0, .slice none 0 0] 36)) = w1 at *
  have hlt : w.heap.size + 1 < w1.heap.size := cell_lt r0
  have K1 := hid hk0; have D0 := hid b0; have D1 := hid b1; have R0 := hid r0; have R1 := hid r1; have Q0 := hid q0; have Q1 := hid q1
  clear hk0 r0 r1 q0 q1
  go_cut [4] (fun t wx => ∃ X g h : Nat, t = .pointer (some ⟨X, 0, none⟩) ∧ CB wx X 36 [.slice (some ⟨g, 0, none⟩) S S, .slice (some ⟨h, 0, none⟩) N N] ∧ CB wx g 5 Z1 ∧ CB wx h 4 Z2 ∧ w1.heap.size ≤ X ∧ w1.heap.size ≤ g ∧ w1.heap.size ≤ h ∧ Kept w1 wx)
  case first =>
    go_region_held3 (fun w' => w'.cell? ⟨w.heap.size, 0, none⟩ = some (.int .i64 (S : Int)) ∧ w'.cell? ⟨w.heap.size, 1, none⟩ = some (.slice A m c))
      (first | exact ⟨b0, b1⟩ | exact ⟨by assumption, by assumption⟩ | (go_split_ands; exact ⟨by assumption, by assumption⟩) | exact ⟨by simp [go_sem, *], by simp [go_sem, *]⟩)
      (fail)
    all_goals (
      go_wp2_with fail
      go_meet
      apply Exists.intro
      apply Exists.intro
      apply Exists.intro
      refine ⟨rfl, ?_, ?_, ?_, ?_, ?_, ?_, ?_⟩
      · first | exact al0 _ _ _ _ | exact al1 _ _ _ _ | exact al2 _ _ _ _
      · first | exact al0 _ _ _ _ | exact al1 _ _ _ _ | exact al2 _ _ _ _
      · first | exact al0 _ _ _ _ | exact al1 _ _ _ _ | exact al2 _ _ _ _
      · omega
      · omega
      · omega
      · exact (by repeat (first | exact Kept.refl _ | assumption | refine Kept.alloc ?_ _ | refine Kept.drew ?_ | refine Kept.drewN ?_ _ | refine Kept.setCell ?_ (by simp; try omega) _ | refine Kept.trans ?_ (by assumption))))
  case rest =>
    obtain ⟨X, g, h, rfl, hX, hg, hh, lX, lg, lh, hkc⟩ := hcut
    have HKC := hid hkc
    have BG := hid (show BlkT wc g 5 S (fun j => .int .u8 ((octL (L.take 0) j).toNat : Int)) from CB.blkT hg S (by rw [← HZ1.out]; simp [bcells]) _ (fun j hj => by
      rw [← HZ1.out, bcells_at _ _ (by simpa using hj), List.getD_eq_getElem?_getD, List.getElem?_replicate, if_pos hj]; rfl))
    have BH := hid (show BlkT wc h 4 N (fun t => .bool (hasL (L.take 0) t)) from CB.blkT hh N (by rw [← HZ2.out]; simp [tcells]) _ (fun j hj => by
      rw [← HZ2.out, tcells_at _ _ (by simpa using hj), List.getD_eq_getElem?_getD, List.getElem?_replicate, if_pos hj]; rfl))
    have HX := hid hX
    have hgX : g ≠ X := fun e => by
      have h1 : wc.heap[g]? = _ := hg
      have h2 : wc.heap[X]? = _ := hX
      rw [← e, h1] at h2
      injection h2 with h2
      injection h2 with _ h3
      exact tyUF h3
    have hhX : h ≠ X := fun e => by
      have h1 : wc.heap[h]? = _ := hh
      have h2 : wc.heap[X]? = _ := hX
      rw [← e, h1] at h2
      injection h2 with h2
      injection h2 with _ h3
      exact tyBF h3
    have hgh : g ≠ h := BG.out.ne BH.out tyUB
    have HD := hid (⟨hgX, hhX, hgh, lX, lg, lh⟩ : g ≠ X ∧ h ≠ X ∧ g ≠ h ∧ w1.heap.size ≤ X ∧ w1.heap.size ≤ g ∧ w1.heap.size ≤ h)
    clear hX hg hh hkc hmk1 hmk2 b0 b1 hgX hhX hgh
    go_wp2_with fail
    go_loopw [5] (fun t wr => ∃ i : Nat, i ≤ m ∧ t = .int .i64 i ∧ BlkT wr g 5 S (fun j => .int .u8 ((octL (L.take i) j).toNat : Int)) ∧ BlkT wr h 4 N (fun t => .bool (hasL (L.take i) t)) ∧ CB wr X 36 [.slice (some ⟨g, 0, none⟩) S S, .slice (some ⟨h, 0, none⟩) N N] ∧ Kept w1 wr) (fun t _ => m - (intOf t).toNat)
    case atStart => exact ⟨0, by omega, rfl, BG.out, BH.out, HX.out, HKC.out⟩
    case round =>
      obtain ⟨i, hi, rfl, hbg, hbh, hcx, hkw⟩ := hrel
      have HBG := hid hbg; have HBH := hid hbh; have HCX := hid hcx; have HK := hid hkw
      have x0 := hcx.cell 0 (by simp); have x1 := hcx.cell 1 (by simp)
      simp only [List.getElem_cons_zero, List.getElem_cons_succ] at x0 x1
      have d0 := hkw.keeps D0.out; have d1 := hkw.keeps D1.out
      clear hbg hbh hcx hkw BG BH HX HKC
      by_cases hlt2 : i < m
      · obtain ⟨b, o, p, rfl, hp, hc1, vb, hc2, hby⟩ := HP.out.at_ i hlt2
        have i0 : (0 : Int) ≤ (i : Int) := by omega
        have i1 : (i : Int) < (m : Int) := by omega
        have c1 := (K1.out.trans HK.out).keeps hc1; have c2 := (K1.out.trans HK.out).keeps hc2
        obtain ⟨v1, v2, v3, -⟩ := HV.out.pc p (List.mem_of_getElem? hp)
        dsimp only at v2
        obtain ⟨A1, c3, rfl⟩ := hby.shape
        have HBY := hid hby
        have hpN : p.n < (N : Int) := by rw [← HN.out]; unfold needI; split <;> omega
        have HSN := hid (show L.take (i + 1) = L.take i ++ [p] from take_snoc hp)
        have HNE := hid (show ∀ q ∈ L.take i, q.n ≠ p.n from fun q hq => by
          obtain ⟨k, hk, rfl⟩ := List.getElem_of_mem hq
          rw [List.length_take] at hk
          obtain ⟨hi1, hi2⟩ := List.getElem?_eq_some_iff.1 hp
          have := List.pairwise_iff_getElem.1 HV.out.ord k i (by dsimp only; omega) hi1 (by omega)
          rw [List.getElem_take]
          dsimp only at this
          rw [hi2] at this; omega)
        have HOC := hid (fun k => octL_snoc (L.take i) p HNE.out k)
        have HHA := hid (fun t => hasL_snoc (L.take i) p t)
        rw [← HSN.out] at HOC HHA
        obtain ⟨pn, pb⟩ := p
        dsimp only at *
        rw [v3] at c2 hc2 HBY
        have V3 := hid v3
        obtain ⟨pN, rfl⟩ : ∃ pN : Nat, pn = (pN : Int) := ⟨pn.toNat, by omega⟩
        have hf := HBH.out.frozen pN
        have hcN := HBH.out.cell pN (by omega)
        have n0 : (0 : Int) ≤ (pN : Int) := by omega
        have HBL : b < w.heap.size := cell_lt hc1
        have C1 := hid (K1.out.keeps hc1); have C2 := hid (K1.out.keeps hc2)
        clear hp hc1 hc2 hby HSN HNE v3 v1
        have hbl := hid (show b < w.heap.size from HBL)
        have HK3 := hid (fun v => (⟨(World.cell?_setCell_far wr ⟨h, pN, none⟩ ⟨X, 1, none⟩ v HD.out.2.1).trans x1, (World.cell?_setCell_far wr ⟨h, pN, none⟩ ⟨w.heap.size, 1, none⟩ v (show h ≠ w.heap.size by omega)).trans d1, (World.cell?_setCell_far wr ⟨h, pN, none⟩ ⟨b, o + i * 2, none⟩ v (show h ≠ b by have := hbl.out; omega)).trans c1⟩ :
          (wr.setCell ⟨h, pN, none⟩ v).cell? ⟨X, 1, none⟩ = some (.slice (some ⟨h, 0, none⟩) N N) ∧ (wr.setCell ⟨h, pN, none⟩ v).cell? ⟨w.heap.size, 1, none⟩ = some (.slice (some ⟨b, o, none⟩) m c) ∧ (wr.setCell ⟨h, pN, none⟩ v).cell? ⟨b, o + i * 2, none⟩ = some (.int .i64 (pN : Int))))
        go_wp2_with fail
        go_region_held3 (fun w' => w'.cell? ⟨X, 1, none⟩ = some (.slice (some ⟨h, 0, none⟩) N N) ∧ w'.cell? ⟨w.heap.size, 1, none⟩ = some (.slice (some ⟨b, o, none⟩) m c) ∧ w'.cell? ⟨b, o + i * 2, none⟩ = some (.int .i64 (pN : Int)))
          (first | exact ⟨x1, d1, c1⟩ | exact HK3.out _)
          (fail)
        go_wp2_with fail
        have BG0 := hid (show BlkT (wr.setCell ⟨h, pN, none⟩ (.bool true)) g 5 S (inF pN pb (fun j => octL (L.take i) j) 0) from (HBG.out.far HD.out.2.2.1 _).congr (fun j hj => inF_0 _ _ _ _))
        have BH0 := hid (show BlkT (wr.setCell ⟨h, pN, none⟩ (.bool true)) h 4 N (fun t => .bool (hasL (L.take (i + 1)) t)) from (HBH.out.set1 pN (.bool true)).congr (fun j hj => by
          rw [HHA.out]
          by_cases e : j = pN
          · subst e; simp
          · have e2 : ¬ (j : Int) = (pN : Int) := by omega
            rw [if_neg e]; simp [e2]))
        have CX0 := hid (show CB (wr.setCell ⟨h, pN, none⟩ (.bool true)) X 36 [.slice (some ⟨g, 0, none⟩) S S, .slice (some ⟨h, 0, none⟩) N N] from (Below.heap_setCell _ _ _ _ HD.out.2.1.symm).trans HCX.out)
        have KK0 := hid (show Kept w1 (wr.setCell ⟨h, pN, none⟩ (.bool true)) from HK.out.setCell (by show w1.heap.size ≤ h; omega) _)
        have HBS := hid (fun (w' : World) (k : Kept w1 w') (j : Nat) (hj : j < 128) => by
          obtain ⟨b5, o5, hA, hc5⟩ := HBY.out.cell j hj
          exact (⟨b5, o5, hA, k.keeps (K1.out.keeps hc5), Nat.lt_of_lt_of_le (cell_lt hc5) K1.out.size⟩ : ∃ b5 o5, A1 = some ⟨b5, o5, none⟩ ∧ w'.cell? ⟨b5, o5 + j, none⟩ = some (.int .u8 ((pb.getD j 0).toNat : Int)) ∧ b5 < w1.heap.size))
        have HCS := hid (fun (w' : World) (k : Kept w1 w') => (⟨k.keeps D0.out, k.keeps D1.out, k.keeps C1.out, k.keeps C2.out⟩ : w'.cell? ⟨w.heap.size, 0, none⟩ = some (.int .i64 (S : Int)) ∧ w'.cell? ⟨w.heap.size, 1, none⟩ = some (.slice (some ⟨b, o, none⟩) m c) ∧ w'.cell? ⟨b, o + i * 2, none⟩ = some (.int .i64 (pN : Int)) ∧ w'.cell? ⟨b, o + i * 2 + 1, none⟩ = some (.slice A1 128 c3)))
        clear x0 x1 d0 d1 c1 c2 hf hcN HK3 HBG HBH HCX HK
        go_loopw [6] (fun t wr => ∃ k : Nat, k ≤ 128 ∧ t = .int .i64 k ∧ BlkT wr g 5 S (inF pN pb (fun j => octL (L.take i) j) k) ∧ BlkT wr h 4 N (fun t => .bool (hasL (L.take (i + 1)) t)) ∧ CB wr X 36 [.slice (some ⟨g, 0, none⟩) S S, .slice (some ⟨h, 0, none⟩) N N] ∧ Kept w1 wr) (fun t _ => 128 - (intOf t).toNat)
        case atStart => exact ⟨0, by omega, rfl, BG0.out, BH0.out, CX0.out, KK0.out.drew⟩
        case round =>
          obtain ⟨k, hk, rfl, hbg, hbh, hcx, hkw⟩ := hrel
          have HBG := hid hbg; have HBH := hid hbh; have HCX := hid hcx; have HK := hid hkw
          obtain ⟨d0, d1, c1, c2⟩ := HCS.out _ hkw
          have x0 := hcx.cell 0 (by simp)
          simp only [List.getElem_cons_zero] at x0
          clear hbg hbh hcx hkw BG0 BH0 CX0 KK0
          have w2 : IntKind.i64.wrap (128 * (pN : Int)) = 128 * (pN : Int) := IntWalk.i64_in _ (by omega)
          have w3 : IntKind.i64.wrap (128 * (pN : Int) + (k : Int)) = 128 * (pN : Int) + (k : Int) := IntWalk.i64_in _ (by omega)
          have w4 : IntKind.i64.wrap ((k : Int) + 1) = (k : Int) + 1 := IntWalk.i64_in _ (by omega)
          by_cases hin : k < 128 ∧ 128 * pN + k < S
          · obtain ⟨ha, hb⟩ := hin
            have e1 : (k : Int) < 128 := by omega
            have e2 : 128 * (pN : Int) + (k : Int) < (S : Int) := by omega
            obtain ⟨b5, o5, rfl, hc5, hl5⟩ := HBS.out _ HK.out k ha
            have hf := HBG.out.frozen (128 * pN + k)
            have hcN := HBG.out.cell (128 * pN + k) hb
            obtain ⟨J, hJ⟩ : ∃ J : Nat, 128 * pN + k = J := ⟨_, rfl⟩
            have hJ2 : 128 * (pN : Int) + (k : Int) = (J : Int) := by omega
            have j0 : (0 : Int) ≤ (J : Int) := by omega
            have j1 : (J : Int) < (S : Int) := by omega
            rw [hJ] at hf hcN
            have HK3 := hid (fun v => (⟨(World.cell?_setCell_far wr ⟨g, J, none⟩ ⟨X, 0, none⟩ v HD.out.1).trans x0, (World.cell?_setCell_far wr ⟨g, J, none⟩ ⟨w.heap.size, 1, none⟩ v (show g ≠ w.heap.size by omega)).trans d1, (World.cell?_setCell_far wr ⟨g, J, none⟩ ⟨b, o + i * 2, none⟩ v (show g ≠ b by have := hbl.out; omega)).trans c1, (World.cell?_setCell_far wr ⟨g, J, none⟩ ⟨b, o + i * 2 + 1, none⟩ v (show g ≠ b by have := hbl.out; omega)).trans c2, (World.cell?_setCell_far wr ⟨g, J, none⟩ ⟨b5, o5 + k, none⟩ v (show g ≠ b5 by omega)).trans hc5⟩ :
              (wr.setCell ⟨g, J, none⟩ v).cell? ⟨X, 0, none⟩ = some (.slice (some ⟨g, 0, none⟩) S S) ∧ (wr.setCell ⟨g, J, none⟩ v).cell? ⟨w.heap.size, 1, none⟩ = some (.slice (some ⟨b, o, none⟩) m c) ∧ (wr.setCell ⟨g, J, none⟩ v).cell? ⟨b, o + i * 2, none⟩ = some (.int .i64 (pN : Int)) ∧ (wr.setCell ⟨g, J, none⟩ v).cell? ⟨b, o + i * 2 + 1, none⟩ = some (.slice (some ⟨b5, o5, none⟩) 128 c3) ∧ (wr.setCell ⟨g, J, none⟩ v).cell? ⟨b5, o5 + k, none⟩ = some (.int .u8 ((pb.getD k 0).toNat : Int))))
            have w5 := w3.trans hJ2
            clear w3 e2
            go_wp2
            go_quiet (fail)
            have w6 : IntKind.i64.wrap (J : Int) = (J : Int) := IntWalk.i64_in _ (by omega)
            go_wp2_with fail
            go_region_held3 (fun w' => w'.cell? ⟨X, 0, none⟩ = some (.slice (some ⟨g, 0, none⟩) S S) ∧ w'.cell? ⟨w.heap.size, 1, none⟩ = some (.slice (some ⟨b, o, none⟩) m c) ∧ w'.cell? ⟨b, o + i * 2, none⟩ = some (.int .i64 (pN : Int)) ∧ w'.cell? ⟨b, o + i * 2 + 1, none⟩ = some (.slice (some ⟨b5, o5, none⟩) 128 c3) ∧ w'.cell? ⟨b5, o5 + k, none⟩ = some (.int .u8 ((pb.getD k 0).toNat : Int)))
              (first | exact ⟨x0, d1, c1, c2, hc5⟩ | exact HK3.out _)
              (fail)
            go_wp2
            go_roundw
            case rel => exact ⟨k + 1, by omega, by go_num, (HBG.out.set1 J _).congr (fun j hj => by rw [← hJ]; exact inF_s pN pb _ k ha j), HBH.out.far HD.out.2.2.1.symm _, (Below.heap_setCell _ _ _ _ HD.out.1.symm).trans HCX.out, (HK.out.setCell (by show w1.heap.size ≤ g; omega) _).drewN _⟩
            case measure => simp [intOf]; omega
          · have HIN := hid (fun (j : Nat) (hj : j < S) => inF_end pN pb (fun j => octL (L.take i) j) k S hin j hj)
            rcases (by omega : (k < 128 ∧ ¬ 128 * pN + k < S) ∨ ¬ k < 128) with ⟨ha, hb⟩ | ha
            · have e1 : (k : Int) < 128 := by omega
              have e2 : ¬ 128 * (pN : Int) + (k : Int) < (S : Int) := by omega
              go_wp2
              go_quiet (fail)
              go_wp2
              go_roundw
              case rel => exact ⟨i + 1, by omega, by go_num, HBG.out.congr (fun j hj => by rw [HIN.out j hj, HOC.out]), HBH.out, HCX.out, HK.out.drewN _⟩
              case measure => simp [intOf]; omega
            · obtain rfl : k = 128 := by omega
              go_wp2
              go_quiet (fail)
              go_wp2
              go_roundw
              case rel => exact ⟨i + 1, by omega, by go_num, HBG.out.congr (fun j hj => by rw [HIN.out j hj, HOC.out]), HBH.out, HCX.out, HK.out.drewN _⟩
              case measure => simp [intOf]; omega
      · have e9 : L.take i = L := List.take_of_length_le (by rw [HM.out]; omega)
        rw [e9] at HBG HBH
        have HE := hid (show i = m by omega)
        have r0 := HK.out.keeps R0.out; have r1 := HK.out.keeps R1.out
        have q0 := HK.out.free R0.out Q0.out; have q1 := HK.out.free R1.out Q1.out
        have i3 : ¬ (i : Int) < (m : Int) := by omega
        have hne : X ≠ w.heap.size + 1 := by omega
        have GB := hid (show CB wr g 5 (bcells (rdB L 0 S)) from HBG.out.cb _ (by rw [bcells_len, rdB_len]) (fun j hj => by rw [bcells_at _ _ (by rw [rdB_len]; exact hj), rdB_at _ _ _ _ hj, Nat.zero_add]))
        have GH := hid (show CB wr h 4 (tcells ((List.range N).map (hasL L))) from HBH.out.cb _ (by rw [tcells_len]; simp) (fun j hj => by rw [tcells_at _ _ (by simpa using hj)]; simp [List.getD_eq_getElem?_getD, hj]))
        go_wp2
        refine bodyPost_ret (v := .agg #[.slice (some ⟨g, 0, none⟩) S S, .slice (some ⟨h, 0, none⟩) N N]) (by simp [results, Try.results13, go_sem, r0, r1, q0, q1]) rfl (HPO.out _ g h (by repeat (first | exact Kept.refl _ | assumption | refine Kept.alloc ?_ _ | refine Kept.drew ?_ | refine Kept.drewN ?_ _ | refine Kept.setCell ?_ (by simp; try omega) _ | refine Kept.trans ?_ (by assumption))) ?_ ?_)
        · exact (Below.heap_setCell _ _ _ _ (show g ≠ w.heap.size + 1 by omega)).trans ((Below.heap_setCell _ _ _ _ (show g ≠ w.heap.size + 1 by omega)).trans GB.out)
        · exact (Below.heap_setCell _ _ _ _ (show h ≠ w.heap.size + 1 by omega)).trans ((Below.heap_setCell _ _ _ _ (show h ≠ w.heap.size + 1 by omega)).trans GH.out)
end Go.Proofs.Ytfkmhdnapmicdaa
