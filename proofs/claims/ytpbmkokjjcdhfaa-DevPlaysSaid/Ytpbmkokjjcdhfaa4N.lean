/- The law's awake. -/
import Derived.Test.Ytpbmkokjjcdhfaa4M
namespace Go.Proofs.Ytpbmkokjjcdhfaa
set_option linter.unusedSimpArgs false
set_option linter.unusedVariables false
open Go.RowKit

theorem bout_some {base : Nat} {w : World} {v : Value} {l : List UInt8} (hb : BOut base w v l) (hl : l ≠ []) : ∃ g, v = .slice (some ⟨g, 0, none⟩) 128 128 ∧ OBlk w g 65 l ∧ base ≤ g := by
  rcases hb with ⟨-, h0⟩ | ⟨g, h1, -, h2, h3⟩
  · exact absurd h0 hl
  · exact ⟨g, h1, h2, h3⟩
theorem bout_none {base : Nat} {w : World} {v : Value} (hb : BOut base w v []) : v = .slice none 0 0 := by
  rcases hb with ⟨h0, -⟩ | ⟨g, -, h1, -⟩
  · exact h0
  · cases h1
/-- append where there is room, at a guarded operation -/
theorem step_room {ops : Array Oper} {o : Oper} {a : Act} {w : World} {K : Act → World → Prop} {Q : Exit → Act → World → Prop} {E : Prop} (hw : Region.wanted o (yielded ops a.tmps) = true) (s x : Operand) (t : TypeId) (hop : o.op = Op.call { callee := Callee.builtin Builtin.append, args := #[s, x], argTypes := #[t, t] })
    (e : TypeId) (i : TypeInfo) (size : Nat) (h1 : Try.prog.underlying t = some (.slice e)) (h2 : Try.prog.info? e = some i) (h4 : i.size = size)
    (b off n cap : Nat) (hs : a.eval s = .slice (some ⟨b, off, none⟩) n cap)
    (ad : Addr) (m c : Nat) (news : List Value) (hx : a.eval x = .slice (some ad) m c) (hn : news.length = m * size) (hc : ∀ j u, news[j]? = some u → w.cell? (ad.add j) = some u) (h1c : ∀ u ∈ news, u.oneCell' = true)
    (hroom : n + m ≤ cap) (hspare : ∀ j, j < news.length → (w.cell? ⟨b, off + n * size + j, none⟩).isSome = true ∧ w.frozen? ⟨b, off + n * size + j, none⟩ = false)
    (hK : K (a.put o.dst (.slice (some ⟨b, off, none⟩) (n + m) cap)) (w.setCells b (off + n * size) news)) :
    if Region.wanted o (yielded ops a.tmps) = true then Oper.wp Try.prog o a w K Q else E := by
  rw [if_pos hw]
  subst h4
  have hrun := run_append_room_cells (P := Try.prog) w t o.type e i h1 h2 b off n cap ad m c news hn hc h1c hroom (fun j hj => (hspare j hj).1) (fun j hj => (hspare j hj).2)
  unfold Oper.wp
  simp [execOp, hop, resolve, invoke, builtin, hs, hx, hrun, Result.andThen]
  exact hK
theorem info_u8 : (Try.prog.info? 5).map (fun i => (i.zero, i.size, i.bytes)) = some (some (.int .u8 0), 1, 1) := by kernel_rfl
def aB : List UInt8 := List.replicate 5 7 ++ List.replicate 123 0
theorem app_src {w : World} {g : Nat} (oZ : OBlk w g 5 (rep 0)) : ∀ j u, (bcells (List.replicate 123 0))[j]? = some u → w.cell? ((⟨g, 5, none⟩ : Addr).add j) = some u := by
  intro j u hu
  have hj : j < 123 := by
    have := (List.getElem?_eq_some_iff.1 hu).1
    simpa [bcells_len] using this
  rw [Addr.add_mid, oZ.cell (5 + j) (by rw [rep_len]; omega), ← hu, bcells_at _ _ (by simpa using hj)]
  have h1 : (rep 0).getD (5 + j) 0 = 0 := by rw [rep, List.getD_eq_getElem?_getD, List.getElem?_replicate]; split <;> rfl
  have h2 : (List.replicate 123 (0 : UInt8)).getD j 0 = 0 := by rw [List.getD_eq_getElem?_getD, List.getElem?_replicate]; split <;> rfl
  rw [h1, h2]
theorem app_dst {w : World} {g : Nat} (oA : OBlk w g 5 (rep 7)) : ∀ j, j < (bcells (List.replicate 123 0)).length → (w.cell? ⟨g, 0 + 5 * 1 + j, none⟩).isSome = true ∧ w.frozen? ⟨g, 0 + 5 * 1 + j, none⟩ = false := by
  intro j hj
  have hj : j < 123 := by simpa [bcells_len] using hj
  refine ⟨by rw [oA.cell _ (by rw [rep_len]; omega)]; rfl, frozen_heap oA⟩
theorem app_res {w : World} {g : Nat} (oA : OBlk w g 5 (rep 7)) : OBlk (w.setCells g 5 (bcells (List.replicate 123 0))) g 5 aB := by
  have hb := (oA.blk.setCells 5 (bcells (List.replicate 123 0)) (by simp [bcells_len, rep_len]))
  refine BlkT.oblk (l := aB) (by rw [rep_len] at hb; exact hb) fun j hj => ?_
  have hj : j < 128 := by simpa [aB] using hj
  rw [bcells_len, List.length_replicate]
  by_cases e : 5 ≤ j
  · rw [if_pos (by omega), List.getD_eq_getElem?_getD, bcells_at _ _ (by simp; omega)]
    have h1 : (List.replicate 123 (0 : UInt8)).getD (j - 5) 0 = 0 := by rw [List.getD_eq_getElem?_getD, List.getElem?_replicate]; split <;> rfl
    have h2 : aB.getD j 0 = 0 := by
      rw [aB, List.getD_eq_getElem?_getD, List.getElem?_append_right (by simpa using e), List.getElem?_replicate]; split <;> rfl
    rw [h1, h2]; rfl
  · rw [if_neg (by omega)]
    have h1 : (rep 7).getD j 0 = 7 := by rw [rep, List.getD_eq_getElem?_getD, List.getElem?_replicate, if_pos hj]; rfl
    have h2 : aB.getD j 0 = 7 := by
      rw [aB, List.getD_eq_getElem?_getD, List.getElem?_append_left (by simp; omega), List.getElem?_replicate, if_pos (by omega)]; rfl
    rw [h1, h2]
theorem a_fn : a3.fn ≤ 1000 := by decide +kernel
theorem a_p5 : a4.pend.length ≤ 1000 := by decide +kernel
theorem a_p7 : a6.pend.length ≤ 1000 := by decide +kernel
theorem a_l4 : rdL a4 0 = [] := by decide +kernel
theorem a_f3 : (if fltE a3 0 1 = 0 then fltS a3 0 1 else a3) = a4 := by rw [a_e4]; rfl
theorem aB_ne : aB ≠ [] := by decide

set_option maxRecDepth 100000 in
set_option maxHeartbeats 4000000 in
theorem awake_any (w : World) : Calls Try.prog 15 #[] w fun e w' => e = .returned (.bool true) ∧ Kept w w' := by
  have HN := hid (new_any 2 (by decide) (by decide))
  have A7 := hid (all_at 7 7 rfl)
  have A1 := hid (all_at 1 1 rfl)
  have A2 := hid (all_at 2 2 rfl)
  have HL7 := hid (rep_len 7)
  go_enter Try.func15, Try.ntmps15
  go_wp2_with (first
    | (go_at_call 8; refine (HN.out _).mono ?_; rintro e w1 ⟨h0, rfl, d0, k0⟩; obtain ⟨P, hP⟩ : ∃ P, P = h0.P := ⟨_, rfl⟩; rw [← hP]; have P0 := hid hP.symm; have D0 := hid d0; have K0 := hid k0; clear hP d0 k0)
    | (go_at_call 10; (with_reducible refine (A7.out _).mono ?_); rintro e w2 ⟨g7, rfl, o7, l7, k7⟩; have D1 := hid (k7.dev D0.out); have B7 := hid (all_bin D0.out k7 o7 l7); have K7 := hid k7; clear o7 l7 k7)
    | (go_at_call 9; (with_reducible refine (write_at 1 _ (rep 7) _ D1.out P0.out B7.out (by decide) 0 a_e1 a1 rfl).mono ?_); rintro e w3 ⟨rfl, h1, d1, s1, p1⟩; have D2 := hid d1; have S2 := hid s1; have P2 := hid p1; clear d1 s1 p1)
    | (go_at_call 13; refine (crash_at _ [5] _ (((Kept.refl w3).alloc _).dev D2.out) P2.out (nin_one ⟨by simp, D2.out.new_out (Nat.le_refl _)⟩ (by simp [go_sem])) a2 rfl).mono ?_; rintro e w4 ⟨rfl, h2, d2, s2, p2⟩; have D3 := hid d2; have S3 := hid (((Kept.refl w3).alloc _).step h1 |>.trans s2); have P3 := hid p2; clear d2 s2 p2)
    | (go_at_call 18; refine (has_at 1 _ D3.out P3.out aB a_l2 0 a_e2).mono ?_; rintro e w5 ⟨vb, rfl, hb, k5⟩; obtain ⟨gb, rfl, ob, lb⟩ := bout_some hb aB_ne; have D4 := hid (k5.dev D3.out); have OB := hid ob; have OO := hid (show Out h2 w5 gb from ⟨ob.lt, D3.out.new_out lb⟩); have S4 := hid (k5.step h2); clear ob lb hb k5)
    | (go_at_call 14; refine (on_at _ D4.out P3.out a3 rfl).mono ?_; rintro e w6 ⟨rfl, h3, d3, s3, p3⟩; have D5 := hid d3; have S5 := hid s3; have P5 := hid p3; clear d3 s3 p3)
    | (go_at_call 16; refine (fault_at 0 1 _ D5.out P5.out a_fn 0 a_e4 a4 a_f3).mono ?_; rintro e w7 ⟨rfl, h4, d4, s4, p4⟩; have D6 := hid d4; have S6 := hid s4; have P6 := hid p4; clear d4 s4 p4)
    | (go_at_call 12; refine (read_at 0 _ D6.out P6.out [] a_l4 9 a_r4).mono ?_; rintro e w8 ⟨vr, rfl, hr, k8⟩; obtain rfl := bout_none hr; have D7 := hid (k8.dev D6.out); have S7 := hid (k8.step h4); clear hr k8)
    | (go_at_call 10; (with_reducible refine (A1.out _).mono ?_); rintro e w9 ⟨g1, rfl, o1, l1, k9⟩; have D8 := hid (k9.dev D7.out); have B1 := hid (all_bin D7.out k9 o1 l1); have S8 := hid (k9.step h4); clear o1 l1 k9)
    | (go_at_call 9; (with_reducible refine (write_at 0 _ (rep 1) _ D8.out P6.out B1.out a_p5 0 a_e5 a5 rfl).mono ?_); rintro e w10 ⟨rfl, h5, d5, s5, p5⟩; have D9 := hid d5; have S9 := hid s5; have P9 := hid p5; clear d5 s5 p5)
    | (go_at_call 26; refine (budget_at 1 _ D9.out P9.out (by decide) (by decide) a6 rfl).mono ?_; rintro e w11 ⟨rfl, h6, d6, s6, p6⟩; have D10 := hid d6; have S10 := hid s6; have P10 := hid p6; clear d6 s6 p6)
    | (go_at_call 10; (with_reducible refine (A2.out _).mono ?_); rintro e w12 ⟨g2, rfl, o2, l2, k12⟩; have D11 := hid (k12.dev D10.out); have B2 := hid (all_bin D10.out k12 o2 l2); have S11 := hid (k12.step h6); clear o2 l2 k12)
    | (go_at_call 9; (with_reducible refine (write_at 0 _ (rep 2) _ D11.out P10.out B2.out a_p7 0 a_e7 a7 rfl).mono ?_); rintro e w13 ⟨rfl, h7, d7, s7, p7⟩; have D12 := hid d7; have S12 := hid s7; have P12 := hid p7; clear d7 s7 p7)
    | (go_at_call 11; refine (flush_at _ D12.out P12.out 10 a_e8 (flS a7) rfl).mono ?_; rintro e w14 ⟨rfl, h8, d8, s8, p8⟩; have D13 := hid d8; have S13 := hid s8; clear d8 s8 p8))
  have Tot := S5.out.trans (S6.out.trans (S7.out.trans (S8.out.trans (S9.out.trans (S10.out.trans (S11.out.trans (S12.out.trans S13.out)))))))
  have hkk : Kept w w14 := by
    have b0 := D13.out.size_le
    have e1 := (K0.out.trans K7.out)
    have e2 := (S2.out.trans S3.out).trans (S4.out.trans Tot)
    exact e1.below.trans (e2.below D1.out (by have := e1.size; omega))
  have ob14 : OBlk w14 gb 65 aB := OB.out.of_heap (Tot.heap OO.out)
  have HKK := hid hkk; have HOB := hid ob14
  have A7' := hid (all_at 7 7 rfl)
  have A0 := hid (all_at 0 0 rfl)
  have HCV := hid (fun (w' : World) (k : Kept w14 w') => (⟨k, conv_blk (n := 128) aB (by decide) (k.oblk HOB.out).range 128⟩ : Kept w14 w' ∧ (convert 31 9 (.slice (some ⟨gb, 0, none⟩) 128 128)).run Try.prog w' = .ok (.string (bstr aB)) w'))
  clear Tot hkk ob14
  have KK := Kept.refl w14
  obtain ⟨iu, hiu, -, hsu, -⟩ := info_parts info_u8
  clear D0 D1 D2 D3 D4 D5 D6 D7 D8 D9 D10 D11 D12 D13 S2 S3 S4 S5 S6 S7 S8 S9 S10 S11 S12 S13 B1 B2 B7 A1 A2 A7 OB OO HN
  generalize hcs : bstr aB = cs at *
  have hcs2 := hcs
  have HSRC := hid (fun (w : World) (g : Nat) (oZ : OBlk w g 5 (rep 0)) => app_src oZ)
  have HDST := hid (fun (w : World) (g : Nat) (oA : OBlk w g 5 (rep 7)) => app_dst oA)
  have HRES := hid (fun (w : World) (g : Nat) (oA : OBlk w g 5 (rep 7)) => conv_blk (n := 128) aB (by decide) (app_res oA).range 128)
  have HONE := hid (bcells_one (List.replicate 123 0))
  have HLEN := hid (show (bcells (List.replicate 123 0)).length = 123 * 1 by simp [bcells_len])
  obtain ⟨zs, hzs⟩ : ∃ zs, zs = bcells (List.replicate 123 0) := ⟨_, rfl⟩
  rw [hcs2] at HRES
  simp only [← hzs] at HSRC HDST HRES HONE HLEN
  clear hzs hcs2
  refine wp_region_held_drew (S := fun w' => Kept w14 w' ∧ (convert 31 9 (.slice (some ⟨gb, 0, none⟩) 128 128)).run Try.prog w' = .ok (.string cs) w') (by kernel_rfl) (HCV.out _ (by repeat (first | exact Kept.refl _ | assumption | refine Kept.alloc ?_ _ | refine Kept.drew ?_ | refine Kept.drewN ?_ _ | refine Kept.setCell ?_ (by simp; try omega) _ | refine Kept.trans ?_ (by assumption)))) (fun hHeld => ?_)
  refine wpAnyH_take (i := 0) (v := ?_) rfl (by kernel_rfl) (by kernel_rfl) (by kernel_rfl) (fun _ _ _ h => h) (Or.inl ⟨by rfl, ?_⟩) (by assumption) ?_
  rotate_left
  focus (intro w hSw; (try dsimp only at hSw); go_simp; first | done | with_reducible rfl)
  (try simp only [List.getElem_toArray, List.getElem_cons_zero, List.getElem_cons_succ, Act.put, List.setIfInBounds_toArray, List.set_cons_zero, List.set_cons_succ])
  refine wpAnyH_take (i := 1) (v := ?_) rfl (by kernel_rfl) (by kernel_rfl) (by kernel_rfl) (fun _ _ _ h => h) (Or.inl ⟨by rfl, ?_⟩) (by assumption) ?_
  rotate_left
  focus (intro w hSw; (try dsimp only at hSw); go_simp; first | done | with_reducible rfl)
  (try simp only [List.getElem_toArray, List.getElem_cons_zero, List.getElem_cons_succ, Act.put, List.setIfInBounds_toArray, List.set_cons_zero, List.set_cons_succ])
  refine wpAnyH_take (i := 2) (v := ?_) rfl (by kernel_rfl) (by kernel_rfl) (by kernel_rfl) (fun _ _ _ h => h) (Or.inl ⟨by rfl, ?_⟩) (by assumption) ?_
  rotate_left
  focus (intro w hSw; (try dsimp only at hSw); go_simp; first | done | with_reducible rfl)
  (try simp only [List.getElem_toArray, List.getElem_cons_zero, List.getElem_cons_succ, Act.put, List.setIfInBounds_toArray, List.set_cons_zero, List.set_cons_succ])
  refine wpAnyH_take (i := 3) (v := ?_) rfl (by kernel_rfl) (by kernel_rfl) (by kernel_rfl) (fun _ _ _ h => h) (Or.inl ⟨by rfl, ?_⟩) (by assumption) ?_
  rotate_left
  focus (intro w hSw; (try dsimp only at hSw); go_simp; first | done | with_reducible rfl)
  (try simp only [List.getElem_toArray, List.getElem_cons_zero, List.getElem_cons_succ, Act.put, List.setIfInBounds_toArray, List.set_cons_zero, List.set_cons_succ])
  refine wpAnyH_take (i := 4) (v := ?_) rfl (by kernel_rfl) (by kernel_rfl) (by kernel_rfl) (fun _ _ _ h => h) (Or.inl ⟨by rfl, ?_⟩) (by assumption) ?_
  rotate_left
  focus (intro w hSw; (try dsimp only at hSw); go_simp; first | done | with_reducible rfl)
  (try simp only [List.getElem_toArray, List.getElem_cons_zero, List.getElem_cons_succ, Act.put, List.setIfInBounds_toArray, List.set_cons_zero, List.set_cons_succ])
  refine wpAnyH_ready (rs := [5]) (by kernel_rfl) (by simp) ?_
  refine AllReadyH.cons rfl (fun K hK => ?_) AllReadyH.nil
  go_simp; go_at_call 10; (with_reducible refine (A7'.out _).mono ?_); rintro e wA ⟨gA, rfl, oA, lA, kA⟩
  refine hK.out _ _ (HCV.out _ (by repeat (first | exact Kept.refl _ | assumption | refine Kept.alloc ?_ _ | refine Kept.drew ?_ | refine Kept.drewN ?_ _ | refine Kept.setCell ?_ (by simp; try omega) _ | refine Kept.trans ?_ (by assumption)))) (fun hHeld => ?_)
  clear hK K
  (try simp only [List.getElem_toArray, List.getElem_cons_zero, List.getElem_cons_succ, Act.put, List.setIfInBounds_toArray, List.set_cons_zero, List.set_cons_succ])
  refine wpAnyH_take (i := 6) (v := ?_) rfl (by kernel_rfl) (by kernel_rfl) (by kernel_rfl) (fun _ _ _ h => h) (Or.inl ⟨by rfl, ?_⟩) (by assumption) ?_
  rotate_left
  focus (intro w hSw; (try dsimp only at hSw); go_simp; first | done | with_reducible rfl)
  (try simp only [List.getElem_toArray, List.getElem_cons_zero, List.getElem_cons_succ, Act.put, List.setIfInBounds_toArray, List.set_cons_zero, List.set_cons_succ])
  refine wpAnyH_ready (rs := [7]) (by kernel_rfl) (by simp) ?_
  refine AllReadyH.cons rfl (fun K hK => ?_) AllReadyH.nil
  go_simp; go_at_call 10; (with_reducible refine (A0.out _).mono ?_); rintro e wZ ⟨gZ, rfl, oZ, lZ, kZ⟩
  refine hK.out _ _ (HCV.out _ (by repeat (first | exact Kept.refl _ | assumption | refine Kept.alloc ?_ _ | refine Kept.drew ?_ | refine Kept.drewN ?_ _ | refine Kept.setCell ?_ (by simp; try omega) _ | refine Kept.trans ?_ (by assumption)))) (fun hHeld => ?_)
  clear hK K
  (try simp only [List.getElem_toArray, List.getElem_cons_zero, List.getElem_cons_succ, Act.put, List.setIfInBounds_toArray, List.set_cons_zero, List.set_cons_succ])
  refine wpAnyH_take (i := 8) (v := ?_) rfl (by kernel_rfl) (by kernel_rfl) (by kernel_rfl) (fun _ _ _ h => h) (Or.inl ⟨by rfl, ?_⟩) (by assumption) ?_
  rotate_left
  focus (intro w hSw; (try dsimp only at hSw); go_simp; first | done | with_reducible rfl)
  (try simp only [List.getElem_toArray, List.getElem_cons_zero, List.getElem_cons_succ, Act.put, List.setIfInBounds_toArray, List.set_cons_zero, List.set_cons_succ])
  refine wpAnyH_ready (rs := [9]) (by kernel_rfl) (by simp) ?_
  refine AllReadyH.cons rfl (fun K hK => ?_) AllReadyH.nil
  refine step_room (w := wZ) ?_ (.tmp 58) (.tmp 60) 31 ?_ 5 iu 1 Try.underlying31 hiu hsu gA 0 5 128 ?_ ⟨gZ, 5, none⟩ 123 123 zs ?_ HLEN.out (HSRC.out _ _ oZ) HONE.out (by decide) (HDST.out _ _ (kZ.oblk oA)) ?_; (focus rfl); (focus rfl); (focus rfl); (focus rfl); have hcv2 := HRES.out _ _ (kZ.oblk oA)
  refine hK.out _ _ ?_ (fun hHeld => ?_)
  focus ((try dsimp only); (with_reducible refine HCV.out _ (Kept.setCells ?_ ?_ _ _)); (focus (exact (by repeat (first | exact Kept.refl _ | assumption | refine Kept.alloc ?_ _ | refine Kept.drew ?_ | refine Kept.drewN ?_ _ | refine Kept.setCell ?_ (by simp; try omega) _ | refine Kept.trans ?_ (by assumption))))); (focus (exact lA)))
  clear hK K
  (try simp only [List.getElem_toArray, List.getElem_cons_zero, List.getElem_cons_succ, Act.put, List.setIfInBounds_toArray, List.set_cons_zero, List.set_cons_succ])
  refine wpAnyH_ready (rs := [10]) (by kernel_rfl) (by simp) ?_
  refine AllReadyH.cons rfl (fun K hK => ?_) AllReadyH.nil
  go_simp
  refine hK.out _ _ ?_ (fun hHeld => ?_)
  focus ((try dsimp only); (with_reducible refine HCV.out _ (Kept.setCells ?_ ?_ _ _)); (focus (exact (by repeat (first | exact Kept.refl _ | assumption | refine Kept.alloc ?_ _ | refine Kept.drew ?_ | refine Kept.drewN ?_ _ | refine Kept.setCell ?_ (by simp; try omega) _ | refine Kept.trans ?_ (by assumption))))); (focus (exact lA)))
  clear hK K
  (try simp only [List.getElem_toArray, List.getElem_cons_zero, List.getElem_cons_succ, Act.put, List.setIfInBounds_toArray, List.set_cons_zero, List.set_cons_succ])
  refine wpAnyH_take (i := 11) (v := ?_) rfl (by kernel_rfl) (by kernel_rfl) (by kernel_rfl) (fun _ _ _ h => h) (Or.inl ⟨by rfl, ?_⟩) (by assumption) ?_
  rotate_left
  focus (intro w hSw; (try dsimp only at hSw); go_simp; first | done | with_reducible rfl)
  (try simp only [List.getElem_toArray, List.getElem_cons_zero, List.getElem_cons_succ, Act.put, List.setIfInBounds_toArray, List.set_cons_zero, List.set_cons_succ])
  refine wpAnyH_take (i := 12) (v := ?_) rfl (by kernel_rfl) (by kernel_rfl) (by kernel_rfl) (fun _ _ _ h => h) (Or.inl ⟨by rfl, ?_⟩) (by assumption) ?_
  rotate_left
  focus (intro w hSw; (try dsimp only at hSw); go_simp; first | done | with_reducible rfl)
  (try simp only [List.getElem_toArray, List.getElem_cons_zero, List.getElem_cons_succ, Act.put, List.setIfInBounds_toArray, List.set_cons_zero, List.set_cons_succ])
  refine wpAnyH_take (i := 13) (v := ?_) rfl (by kernel_rfl) (by kernel_rfl) (by kernel_rfl) (fun _ _ _ h => h) (Or.inl ⟨by rfl, ?_⟩) (by assumption) ?_
  rotate_left
  focus (intro w hSw; (try dsimp only at hSw); go_simp; first | done | with_reducible rfl)
  (try simp only [List.getElem_toArray, List.getElem_cons_zero, List.getElem_cons_succ, Act.put, List.setIfInBounds_toArray, List.set_cons_zero, List.set_cons_succ])
  refine wpAnyH_take (i := 14) (v := ?_) rfl (by kernel_rfl) (by kernel_rfl) (by kernel_rfl) (fun _ _ _ h => h) (Or.inl ⟨by rfl, ?_⟩) (by assumption) ?_
  rotate_left
  focus (intro w hSw; (try dsimp only at hSw); go_simp; first | done | with_reducible rfl)
  (try simp only [List.getElem_toArray, List.getElem_cons_zero, List.getElem_cons_succ, Act.put, List.setIfInBounds_toArray, List.set_cons_zero, List.set_cons_succ])
  refine wpAnyH_take (i := 15) (v := ?_) rfl (by kernel_rfl) (by kernel_rfl) (by kernel_rfl) (fun _ _ _ h => h) (Or.inl ⟨by rfl, ?_⟩) (by assumption) ?_
  rotate_left
  focus (intro w hSw; (try dsimp only at hSw); go_simp; first | done | with_reducible rfl)
  (try simp only [List.getElem_toArray, List.getElem_cons_zero, List.getElem_cons_succ, Act.put, List.setIfInBounds_toArray, List.set_cons_zero, List.set_cons_succ])
  refine wpAnyH_take (i := 16) (v := ?_) rfl (by kernel_rfl) (by kernel_rfl) (by kernel_rfl) (fun _ _ _ h => h) (Or.inl ⟨by rfl, ?_⟩) (by assumption) ?_
  rotate_left
  focus (intro w hSw; (try dsimp only at hSw); go_simp; first | done | with_reducible rfl)
  (try simp only [List.getElem_toArray, List.getElem_cons_zero, List.getElem_cons_succ, Act.put, List.setIfInBounds_toArray, List.set_cons_zero, List.set_cons_succ])
  refine wpAnyH_take (i := 17) (v := ?_) rfl (by kernel_rfl) (by kernel_rfl) (by kernel_rfl) (fun _ _ _ h => h) (Or.inl ⟨by rfl, ?_⟩) (by assumption) ?_
  rotate_left
  focus (intro w hSw; (try dsimp only at hSw); go_simp; first | done | with_reducible rfl)
  (try simp only [List.getElem_toArray, List.getElem_cons_zero, List.getElem_cons_succ, Act.put, List.setIfInBounds_toArray, List.set_cons_zero, List.set_cons_succ])
  refine wpAnyH_take (i := 18) (v := ?_) rfl (by kernel_rfl) (by kernel_rfl) (by kernel_rfl) (fun _ _ _ h => h) (Or.inl ⟨by rfl, ?_⟩) (by assumption) ?_
  rotate_left
  focus (intro w hSw; (try dsimp only at hSw); go_simp; first | done | with_reducible rfl)
  (try simp only [List.getElem_toArray, List.getElem_cons_zero, List.getElem_cons_succ, Act.put, List.setIfInBounds_toArray, List.set_cons_zero, List.set_cons_succ])
  refine wpAnyH_take (i := 19) (v := ?_) rfl (by kernel_rfl) (by kernel_rfl) (by kernel_rfl) (fun _ _ _ h => h) (Or.inl ⟨by rfl, ?_⟩) (by assumption) ?_
  rotate_left
  focus (intro w hSw; (try dsimp only at hSw); go_simp; first | done | with_reducible rfl)
  (try simp only [List.getElem_toArray, List.getElem_cons_zero, List.getElem_cons_succ, Act.put, List.setIfInBounds_toArray, List.set_cons_zero, List.set_cons_succ])
  refine wpAnyH_take (i := 20) (v := ?_) rfl (by kernel_rfl) (by kernel_rfl) (by kernel_rfl) (fun _ _ _ h => h) (Or.inl ⟨by rfl, ?_⟩) (by assumption) ?_
  rotate_left
  focus (intro w hSw; (try dsimp only at hSw); go_simp; first | done | with_reducible rfl)
  (try simp only [List.getElem_toArray, List.getElem_cons_zero, List.getElem_cons_succ, Act.put, List.setIfInBounds_toArray, List.set_cons_zero, List.set_cons_succ])
  refine wpAnyH_take (i := 21) (v := ?_) rfl (by kernel_rfl) (by kernel_rfl) (by kernel_rfl) (fun _ _ _ h => h) (Or.inl ⟨by rfl, ?_⟩) (by assumption) ?_
  rotate_left
  focus (intro w hSw; (try dsimp only at hSw); go_simp; first | done | with_reducible rfl)
  (try simp only [List.getElem_toArray, List.getElem_cons_zero, List.getElem_cons_succ, Act.put, List.setIfInBounds_toArray, List.set_cons_zero, List.set_cons_succ])
  refine wpAnyH_take (i := 22) (v := ?_) rfl (by kernel_rfl) (by kernel_rfl) (by kernel_rfl) (fun _ _ _ h => h) (Or.inl ⟨by rfl, ?_⟩) (by assumption) ?_
  rotate_left
  focus (intro w hSw; (try dsimp only at hSw); go_simp; first | done | with_reducible rfl)
  (try simp only [List.getElem_toArray, List.getElem_cons_zero, List.getElem_cons_succ, Act.put, List.setIfInBounds_toArray, List.set_cons_zero, List.set_cons_succ])
  refine wpAnyH_take (i := 23) (v := ?_) rfl (by kernel_rfl) (by kernel_rfl) (by kernel_rfl) (fun _ _ _ h => h) (Or.inl ⟨by rfl, ?_⟩) (by assumption) ?_
  rotate_left
  focus (intro w hSw; (try dsimp only at hSw); go_simp; first | done | with_reducible rfl)
  (try simp only [List.getElem_toArray, List.getElem_cons_zero, List.getElem_cons_succ, Act.put, List.setIfInBounds_toArray, List.set_cons_zero, List.set_cons_succ])
  refine wpAnyH_take (i := 24) (v := ?_) rfl (by kernel_rfl) (by kernel_rfl) (by kernel_rfl) (fun _ _ _ h => h) (Or.inl ⟨by rfl, ?_⟩) (by assumption) ?_
  rotate_left
  focus (intro w hSw; (try dsimp only at hSw); go_simp; first | done | with_reducible rfl)
  (try simp only [List.getElem_toArray, List.getElem_cons_zero, List.getElem_cons_succ, Act.put, List.setIfInBounds_toArray, List.set_cons_zero, List.set_cons_succ])
  refine wpAnyH_take (i := 25) (v := ?_) rfl (by kernel_rfl) (by kernel_rfl) (by kernel_rfl) (fun _ _ _ h => h) (Or.inl ⟨by rfl, ?_⟩) (by assumption) ?_
  rotate_left
  focus (intro w hSw; (try dsimp only at hSw); go_simp; first | done | with_reducible rfl)
  (try simp only [List.getElem_toArray, List.getElem_cons_zero, List.getElem_cons_succ, Act.put, List.setIfInBounds_toArray, List.set_cons_zero, List.set_cons_succ])
  refine wpAnyH_take (i := 26) (v := ?_) rfl (by kernel_rfl) (by kernel_rfl) (by kernel_rfl) (fun _ _ _ h => h) (Or.inl ⟨by rfl, ?_⟩) (by assumption) ?_
  rotate_left
  focus (intro w hSw; (try dsimp only at hSw); go_simp; first | done | with_reducible rfl)
  (try simp only [List.getElem_toArray, List.getElem_cons_zero, List.getElem_cons_succ, Act.put, List.setIfInBounds_toArray, List.set_cons_zero, List.set_cons_succ])
  refine wpAnyH_take (i := 27) (v := ?_) rfl (by kernel_rfl) (by kernel_rfl) (by kernel_rfl) (fun _ _ _ h => h) (Or.inl ⟨by rfl, ?_⟩) (by assumption) ?_
  rotate_left
  focus (intro w hSw; (try dsimp only at hSw); go_simp; first | done | with_reducible rfl)
  (try simp only [List.getElem_toArray, List.getElem_cons_zero, List.getElem_cons_succ, Act.put, List.setIfInBounds_toArray, List.set_cons_zero, List.set_cons_succ])
  refine wpAnyH_take (i := 28) (v := ?_) rfl (by kernel_rfl) (by kernel_rfl) (by kernel_rfl) (fun _ _ _ h => h) (Or.inl ⟨by rfl, ?_⟩) (by assumption) ?_
  rotate_left
  focus (intro w hSw; (try dsimp only at hSw); go_simp; first | done | with_reducible rfl)
  (try simp only [List.getElem_toArray, List.getElem_cons_zero, List.getElem_cons_succ, Act.put, List.setIfInBounds_toArray, List.set_cons_zero, List.set_cons_succ])
  refine wpAnyH_take (i := 29) (v := ?_) rfl (by kernel_rfl) (by kernel_rfl) (by kernel_rfl) (fun _ _ _ h => h) (Or.inl ⟨by rfl, ?_⟩) (by assumption) ?_
  rotate_left
  focus (intro w hSw; (try dsimp only at hSw); go_simp; first | done | with_reducible rfl)
  (try simp only [List.getElem_toArray, List.getElem_cons_zero, List.getElem_cons_succ, Act.put, List.setIfInBounds_toArray, List.set_cons_zero, List.set_cons_succ])
  refine wpAnyH_take (i := 30) (v := ?_) rfl (by kernel_rfl) (by kernel_rfl) (by kernel_rfl) (fun _ _ _ h => h) (Or.inl ⟨by rfl, ?_⟩) (by assumption) ?_
  rotate_left
  focus (intro w hSw; (try dsimp only at hSw); go_simp; first | done | with_reducible rfl)
  (try simp only [List.getElem_toArray, List.getElem_cons_zero, List.getElem_cons_succ, Act.put, List.setIfInBounds_toArray, List.set_cons_zero, List.set_cons_succ])
  refine wpAnyH_take (i := 31) (v := ?_) rfl (by kernel_rfl) (by kernel_rfl) (by kernel_rfl) (fun _ _ _ h => h) (Or.inl ⟨by rfl, ?_⟩) (by assumption) ?_
  rotate_left
  focus (intro w hSw; (try dsimp only at hSw); go_simp; first | done | with_reducible rfl)
  (try simp only [List.getElem_toArray, List.getElem_cons_zero, List.getElem_cons_succ, Act.put, List.setIfInBounds_toArray, List.set_cons_zero, List.set_cons_succ])
  refine wpAnyH_take (i := 32) (v := ?_) rfl (by kernel_rfl) (by kernel_rfl) (by kernel_rfl) (fun _ _ _ h => h) (Or.inl ⟨by rfl, ?_⟩) (by assumption) ?_
  rotate_left
  focus (intro w hSw; (try dsimp only at hSw); go_simp; first | done | with_reducible rfl)
  (try simp only [List.getElem_toArray, List.getElem_cons_zero, List.getElem_cons_succ, Act.put, List.setIfInBounds_toArray, List.set_cons_zero, List.set_cons_succ])
  refine wpAnyH_take (i := 33) (v := ?_) rfl (by kernel_rfl) (by kernel_rfl) (by kernel_rfl) (fun _ _ _ h => h) (Or.inl ⟨by rfl, ?_⟩) (by assumption) ?_
  rotate_left
  focus (intro w hSw; (try dsimp only at hSw); go_simp; first | done | with_reducible rfl)
  (try simp only [List.getElem_toArray, List.getElem_cons_zero, List.getElem_cons_succ, Act.put, List.setIfInBounds_toArray, List.set_cons_zero, List.set_cons_succ])
  refine wpAnyH_take (i := 34) (v := ?_) rfl (by kernel_rfl) (by kernel_rfl) (by kernel_rfl) (fun _ _ _ h => h) (Or.inl ⟨by rfl, ?_⟩) (by assumption) ?_
  rotate_left
  focus (intro w hSw; (try dsimp only at hSw); go_simp; first | done | with_reducible rfl)
  (try simp only [List.getElem_toArray, List.getElem_cons_zero, List.getElem_cons_succ, Act.put, List.setIfInBounds_toArray, List.set_cons_zero, List.set_cons_succ])
  refine wpAnyH_take (i := 35) (v := ?_) rfl (by kernel_rfl) (by kernel_rfl) (by kernel_rfl) (fun _ _ _ h => h) (Or.inl ⟨by rfl, ?_⟩) (by assumption) ?_
  rotate_left
  focus (intro w hSw; (try dsimp only at hSw); go_simp; first | done | with_reducible rfl)
  (try simp only [List.getElem_toArray, List.getElem_cons_zero, List.getElem_cons_succ, Act.put, List.setIfInBounds_toArray, List.set_cons_zero, List.set_cons_succ])
  refine wpAnyH_take (i := 36) (v := ?_) rfl (by kernel_rfl) (by kernel_rfl) (by kernel_rfl) (fun _ _ _ h => h) (Or.inl ⟨by rfl, ?_⟩) (by assumption) ?_
  rotate_left
  focus (intro w hSw; (try dsimp only at hSw); go_simp; first | done | with_reducible rfl)
  (try simp only [List.getElem_toArray, List.getElem_cons_zero, List.getElem_cons_succ, Act.put, List.setIfInBounds_toArray, List.set_cons_zero, List.set_cons_succ])
  refine wpAnyH_take (i := 37) (v := ?_) rfl (by kernel_rfl) (by kernel_rfl) (by kernel_rfl) (fun _ _ _ h => h) (Or.inl ⟨by rfl, ?_⟩) (by assumption) ?_
  rotate_left
  focus (intro w hSw; (try dsimp only at hSw); go_simp; first | done | with_reducible rfl)
  (try simp only [List.getElem_toArray, List.getElem_cons_zero, List.getElem_cons_succ, Act.put, List.setIfInBounds_toArray, List.set_cons_zero, List.set_cons_succ])
  refine wpAnyH_take (i := 38) (v := ?_) rfl (by kernel_rfl) (by kernel_rfl) (by kernel_rfl) (fun _ _ _ h => h) (Or.inl ⟨by rfl, ?_⟩) (by assumption) ?_
  rotate_left
  focus (intro w hSw; (try dsimp only at hSw); go_simp; first | done | with_reducible rfl)
  (try simp only [List.getElem_toArray, List.getElem_cons_zero, List.getElem_cons_succ, Act.put, List.setIfInBounds_toArray, List.set_cons_zero, List.set_cons_succ])
  refine wpAnyH_take (i := 39) (v := ?_) rfl (by kernel_rfl) (by kernel_rfl) (by kernel_rfl) (fun _ _ _ h => h) (Or.inl ⟨by rfl, ?_⟩) (by assumption) ?_
  rotate_left
  focus (intro w hSw; (try dsimp only at hSw); go_simp; first | done | with_reducible rfl)
  (try simp only [List.getElem_toArray, List.getElem_cons_zero, List.getElem_cons_succ, Act.put, List.setIfInBounds_toArray, List.set_cons_zero, List.set_cons_succ])
  refine wpAnyH_take (i := 40) (v := ?_) rfl (by kernel_rfl) (by kernel_rfl) (by kernel_rfl) (fun _ _ _ h => h) (Or.inl ⟨by rfl, ?_⟩) (by assumption) ?_
  rotate_left
  focus (intro w hSw; (try dsimp only at hSw); go_simp; first | done | with_reducible rfl)
  (try simp only [List.getElem_toArray, List.getElem_cons_zero, List.getElem_cons_succ, Act.put, List.setIfInBounds_toArray, List.set_cons_zero, List.set_cons_succ])
  refine wpAnyH_take (i := 41) (v := ?_) rfl (by kernel_rfl) (by kernel_rfl) (by kernel_rfl) (fun _ _ _ h => h) (Or.inl ⟨by rfl, ?_⟩) (by assumption) ?_
  rotate_left
  focus (intro w hSw; (try dsimp only at hSw); go_simp; first | done | with_reducible rfl)
  (try simp only [List.getElem_toArray, List.getElem_cons_zero, List.getElem_cons_succ, Act.put, List.setIfInBounds_toArray, List.set_cons_zero, List.set_cons_succ])
  refine wpAnyH_take (i := 42) (v := ?_) rfl (by kernel_rfl) (by kernel_rfl) (by kernel_rfl) (fun _ _ _ h => h) (Or.inl ⟨by rfl, ?_⟩) (by assumption) ?_
  rotate_left
  focus (intro w hSw; (try dsimp only at hSw); go_simp; first | done | with_reducible rfl)
  (try simp only [List.getElem_toArray, List.getElem_cons_zero, List.getElem_cons_succ, Act.put, List.setIfInBounds_toArray, List.set_cons_zero, List.set_cons_succ])
  refine wpAnyH_take (i := 43) (v := ?_) rfl (by kernel_rfl) (by kernel_rfl) (by kernel_rfl) (fun _ _ _ h => h) (Or.inl ⟨by rfl, ?_⟩) (by assumption) ?_
  rotate_left
  focus (intro w hSw; (try dsimp only at hSw); go_simp; first | done | with_reducible rfl)
  (try simp only [List.getElem_toArray, List.getElem_cons_zero, List.getElem_cons_succ, Act.put, List.setIfInBounds_toArray, List.set_cons_zero, List.set_cons_succ])
  refine wpAnyH_take (i := 44) (v := ?_) rfl (by kernel_rfl) (by kernel_rfl) (by kernel_rfl) (fun _ _ _ h => h) (Or.inl ⟨by rfl, ?_⟩) (by assumption) ?_
  rotate_left
  focus (intro w hSw; (try dsimp only at hSw); go_simp; first | done | with_reducible rfl)
  (try simp only [List.getElem_toArray, List.getElem_cons_zero, List.getElem_cons_succ, Act.put, List.setIfInBounds_toArray, List.set_cons_zero, List.set_cons_succ])
  refine wpAnyH_take (i := 45) (v := ?_) rfl (by kernel_rfl) (by kernel_rfl) (by kernel_rfl) (fun _ _ _ h => h) (Or.inl ⟨by rfl, ?_⟩) (by assumption) ?_
  rotate_left
  focus (intro w hSw; (try dsimp only at hSw); go_simp; first | done | with_reducible rfl)
  (try simp only [List.getElem_toArray, List.getElem_cons_zero, List.getElem_cons_succ, Act.put, List.setIfInBounds_toArray, List.set_cons_zero, List.set_cons_succ])
  refine wpAnyH_done (by kernel_rfl) ?_ _
  all_goals (
    go_wp2_with fail
    go_ret
    exact ⟨rfl, HKK.out.trans (Kept.setCells (show Kept w14 wZ from (by repeat (first | exact Kept.refl _ | assumption | refine Kept.alloc ?_ _ | refine Kept.drew ?_ | refine Kept.drewN ?_ _ | refine Kept.setCell ?_ (by simp; try omega) _ | refine Kept.trans ?_ (by assumption)))) lA _ _)⟩)
end Go.Proofs.Ytpbmkokjjcdhfaa
