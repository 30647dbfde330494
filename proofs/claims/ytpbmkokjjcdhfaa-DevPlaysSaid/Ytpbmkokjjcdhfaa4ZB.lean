/- The document's device: Write. -/
import Derived.Test.Ytpbmkokjjcdhfaa4ZA
namespace Go.Proofs.Ytpbmkokjjcdhfaa
set_option linter.unusedSimpArgs false
set_option linter.unusedVariables false
open Go.RowKit

theorem info_wait : (Try.prog.info? 73).map (fun i => (i.zero, i.size, i.bytes)) = some (some (.agg #[.int .i64 0, .string ByteArray.empty]), 2, 24) := by kernel_rfl
section
variable {w : World} {B : Nat} {h : RH} {S : DS}
/-- what a walk reads of the device behind a step -/
theorem RefAt.looks (r : RefAt w B h S) (i : Nat) (hi : i < S.n) : ∃ gH cH gF cF : Nat, w.cell? ⟨h.P, 0, none⟩ = some (.slice (some ⟨gH, 0, none⟩) S.n cH) ∧ w.cell? ⟨h.P, 1, none⟩ = some (.slice (some ⟨gF, 0, none⟩) S.n cF) ∧
    S.n ≤ cH ∧ S.n ≤ cF ∧ w.cell? ⟨gH, i, none⟩ = some (.string (bstr (S.blk i))) ∧ w.cell? ⟨gF, i, none⟩ = some (.int .i64 ((S.flt (i : Int)).getD 0)) ∧ w.frozen? ⟨gH, i, none⟩ = false ∧ w.frozen? ⟨gF, i, none⟩ = false ∧ h.vH = .slice (some ⟨gH, 0, none⟩) S.n cH ∧ h.vF = .slice (some ⟨gF, 0, none⟩) S.n cF := by
  obtain ⟨gH, cH, h1, h2, -, h3, h4⟩ := r.atH i hi
  obtain ⟨gF, cF, k1, k2, -, k3, k4⟩ := r.atF i hi
  exact ⟨gH, cH, gF, cF, by rw [r.c0, h1], by rw [r.c1, k1], h2, k2, h3 i hi, k3 i hi, h4, k4, h1, k1⟩
set_option maxHeartbeats 2000000 in
theorem rwrite_any (i : Int) (l : List UInt8) (w : World) (r : RefAt w B h S) (ok : S.ok) (hpl : S.pend.length ≤ 1000) :
    Calls Try.prog 24 #[.pointer (some ⟨h.P, 0, none⟩), .int .i64 i, .string (bstr l)] w (RPost (.int .i64 (wrE S i l.length)) (wrS S i l) B h w) := by
  have hn := ok.n2
  have hn1 := ok.n1
  have hsz := bstr_size l
  obtain ⟨g0, k0, hv0, hk0, -⟩ := row_some r.hH (by omega)
  have c0 := r.c0
  rw [hv0] at c0
  have HD := hid r
  cases hbb : isB S.n i with
  | false =>
    have HE := hid (show wrE S i l.length = 4 by simp [wrE, hbb])
    have HS := hid (show wrS S i l = S by simp [wrS, hbb])
    rw [HE.out, HS.out]
    have hd := isB_f hbb
    clear r hbb HE HS hv0 ok
    generalize bstr l = t at *
    generalize S.n = n at *
    by_cases h0 : i < 0
    · go_enter Try.func24, Try.ntmps24
      go_wp2
      go_ret
      exact ⟨rfl, _, HD.out, RStep.refl _ _⟩
    · have h1 : (n : Int) ≤ i := by omega
      have h0' : decide (i < 0) = false := decide_eq_false h0
      clear hd h0
      go_enter Try.func24, Try.ntmps24
      go_wp2
      go_ret
      exact ⟨rfl, _, HD.out, RStep.refl _ _⟩
  | true =>
    obtain ⟨hi0, hi1⟩ := isB_t hbb
    have h0' : decide (i < 0) = false := decide_eq_false (by omega)
    have h1' : decide ((S.n : Int) ≤ i) = false := decide_eq_false (by omega)
    by_cases hl : l.length = 128
    · rw [hl] at hsz
      have HSP := hid (rfails_any w r ok)
      obtain ⟨q, rfl⟩ : ∃ q : Nat, i = (q : Int) := ⟨i.toNat, by omega⟩
      have hq : q < S.n := by omega
      cases hsp : spendP S with
      | false =>
        have hse : spendE S = 10 := by simp [spendE, hsp]
        have HE := hid (show wrE S q l.length = 10 by rw [wrE, if_neg (by simp [hbb]), if_neg (by simp [hl]), if_pos (by rw [hse]; decide), hse])
        have HS := hid (show wrS S q l = spendS S by rw [wrS, if_neg (by simp [hbb, hl]), if_neg (by rw [HE.out]; decide)])
        rw [HE.out, HS.out]
        rw [hsp] at HSP
        clear r hbb HE HS hv0 ok hse hsp hl HD
        generalize bstr l = t at *
        generalize S.n = n at *
        generalize spendS S = T at *
        go_enter Try.func24, Try.ntmps24
        go_wp2_with (go_at_call 39; refine HSP.out.mono ?_; rintro e w1 ⟨rfl, h1, d1, s1⟩; have D1 := hid d1; have S1 := hid s1; clear d1 s1)
        go_ret
        exact ⟨rfl, _, D1.out, S1.out⟩
      | true =>
        rw [hsp] at HSP
        obtain ⟨m, hm⟩ : ∃ m, S.mnt = m := ⟨_, rfl⟩
        have HLK := hid (fun (w' : World) (h' : RH) (r' : RefAt w' B h' (spendS S)) => (⟨by rw [← hm]; exact r'.c5, r'.c2, r'.fz 2, r'.looks q hq⟩ : w'.cell? ⟨h'.P, 5, none⟩ = some (.bool (!m)) ∧ w'.cell? ⟨h'.P, 2, none⟩ = some h'.vL ∧ w'.frozen? ⟨h'.P, 2, none⟩ = false ∧
          ∃ gH cH gF cF : Nat, w'.cell? ⟨h'.P, 0, none⟩ = some (.slice (some ⟨gH, 0, none⟩) S.n cH) ∧ w'.cell? ⟨h'.P, 1, none⟩ = some (.slice (some ⟨gF, 0, none⟩) S.n cF) ∧
            S.n ≤ cH ∧ S.n ≤ cF ∧ w'.cell? ⟨gH, q, none⟩ = some (.string (bstr (S.blk q))) ∧ w'.cell? ⟨gF, q, none⟩ = some (.int .i64 ((S.flt (q : Int)).getD 0)) ∧ w'.frozen? ⟨gH, q, none⟩ = false ∧ w'.frozen? ⟨gF, q, none⟩ = false ∧ h'.vH = .slice (some ⟨gH, 0, none⟩) S.n cH ∧ h'.vF = .slice (some ⟨gF, 0, none⟩) S.n cF))
        cases m with
        | false =>
          have hse : spendE S = 9 := by simp [spendE, hsp, hm]
          have HE := hid (show wrE S q l.length = 9 by rw [wrE, if_neg (by simp [hbb]), if_neg (by simp [hl]), if_pos (by rw [hse]; decide), hse])
          have HS := hid (show wrS S q l = spendS S by rw [wrS, if_neg (by simp [hbb, hl]), if_neg (by rw [HE.out]; decide)])
          rw [HE.out, HS.out]
          clear r hbb HE HS hv0 ok hse hsp hl HD hm
          generalize bstr l = t at *
          go_enter Try.func24, Try.ntmps24
          go_wp2_with (go_at_call 39; refine HSP.out.mono ?_; rintro e w1 ⟨rfl, h1, d1, s1⟩; obtain ⟨k5, k2, kf2, -⟩ := HLK.out _ _ d1; rw [s1.P] at k5; have D1 := hid d1; have S1 := hid s1; clear d1 s1)
          go_ret
          exact ⟨rfl, _, D1.out, S1.out⟩
        | true =>
          have hse : spendE S = 0 := by simp [spendE, hsp, hm]
          by_cases hf : 1 < (S.flt (q : Int)).getD 0
          · have HE := hid (show wrE S q l.length = 9 by rw [wrE, if_neg (by simp [hbb]), if_neg (by simp [hl]), if_neg (by simp [hse]), if_pos hf])
            have HS := hid (show wrS S q l = spendS S by rw [wrS, if_neg (by simp [hbb, hl]), if_neg (by rw [HE.out]; decide)])
            rw [HE.out, HS.out]
            clear r hbb HE HS hv0 ok hse hsp hl HD hm
            generalize bstr l = t at *
            generalize (S.flt (q : Int)).getD 0 = v at *
            go_enter Try.func24, Try.ntmps24
            go_wp2_with (go_at_call 39; refine HSP.out.mono ?_; rintro e w1 ⟨rfl, h1, d1, s1⟩; obtain ⟨k5, k2, kf2, gH, cH, gF, cF, k0, k1, hcH, hcF, kH, kF, -⟩ := HLK.out _ _ d1; rw [s1.P] at k5 k1; have D1 := hid d1; have S1 := hid s1; clear d1 s1)
            go_ret
            exact ⟨rfl, _, D1.out, S1.out⟩
          · have HE := hid (show wrE S q l.length = 0 by rw [wrE, if_neg (by simp [hbb]), if_neg (by simp [hl]), if_neg (by simp [hse]), if_neg hf])
            have HS := hid (show wrS S q l = { spendS S with pend := S.pend ++ [(q, l)] } by rw [wrS, if_neg (by simp [hbb, hl]), if_pos HE.out]; rfl)
            rw [HE.out, HS.out]
            have hf' : decide (1 < (S.flt (q : Int)).getD 0) = false := decide_eq_false hf
            have HPU := hid (fun (w' : World) (h' : RH) (r' : RefAt w' B h' (spendS S)) (w2 : World) (v' : Value) (tmp : Obj) (a : w2.ownsRow B 73 2 v' (S.pend.length + 1) (waitsF S.pend ++ [Value.int .i64 (q : Int), Value.string (bstr l)])) (b : (w'.alloc tmp).grownBy w2 h'.vL.ownBlock) (c : v'.ownBlock = h'.vL.ownBlock ∨ v'.ownBlock = some (w'.heap.size + 1)) => (r'.pushed q l (w2 := w2) v' tmp a b c : RefAt (w2.setCell ⟨h'.P, 2, none⟩ v') B { h' with vL := v' } { spendS S with pend := S.pend ++ [(q, l)] } ∧ RStep h' { h' with vL := v' } w' (w2.setCell ⟨h'.P, 2, none⟩ v')))
            have HOW := hid (fun (w' : World) (h' : RH) (r' : RefAt w' B h' (spendS S)) => (⟨r'.hL, r'.apart.LP, (Array.getElem?_eq_some_iff.1 r'.hP).1, r'.size_le⟩ : w'.ownsRow B 73 2 h'.vL S.pend.length (waitsF S.pend) ∧ h'.vL.ownBlock ≠ some h'.P ∧ h'.P < w'.heap.size ∧ B ≤ w'.heap.size))
            clear r hbb HE HS hv0 ok hse hsp hl HD hm hf
            obtain ⟨np, hnp⟩ : ∃ np, np = S.pend.length := ⟨_, rfl⟩
            rw [← hnp] at hpl HPU HOW
            have HNP := hid hnp
            clear hnp
            generalize hbl : bstr l = t at *
            have HBL := hid hbl
            clear hbl
            generalize (S.flt (q : Int)).getD 0 = v at *
            go_enter Try.func24, Try.ntmps24
            go_wp2_with (first
              | (go_at_call 39; refine HSP.out.mono ?_; rintro e w1 ⟨rfl, h1, d1, s1⟩; obtain ⟨k5, k2, kf2, gH, cH, gF, cF, k0, k1, hcH, hcF, kH, kF, -⟩ := HLK.out _ _ d1; obtain ⟨hro, hvP, hPs, hBs⟩ := HOW.out _ _ d1; rw [s1.P] at k5 k1 k2 kf2 hvP hPs; obtain ⟨AL, cL, hvL⟩ := ownsRow_shape hro; rw [hvL] at k2; have D1 := hid d1; have S1 := hid s1; have RO := hid hro; have HVL := hid hvL; have k20 := ((Kept.refl w1).alloc (.cells #[.int .i64 (q : Int), .string t] 73)).keeps k2; clear d1 s1 hro)
              | (at_builtin; go_loud (refine wpList_pushB (w := w1) rfl (.tmp 41) (.tmp 45) 53 rfl B 73 _ 2 24 Try.underlying53 info_wait rfl (by decide) (by decide) _ np (waitsF S.pend) [.int .i64 (q : Int), .string t] 1 _ HVL.out.symm RO.out rfl rfl rfl (by simp [Value.oneCell']) (by omega) hBs ?_; intro v' w' ho hg hat; obtain ⟨A', c', rfl⟩ := ownsRow_shape ho; obtain ⟨pu, ps⟩ := HPU.out w1 h1 D1.out w' _ _ ho hg hat; rw [S1.out.P] at pu ps; have hPw : w'.heap[h.P]? = w1.heap[h.P]? := (hg.block _ (by rw [World.size_alloc]; omega) (fun e => hvP e.symm)).trans (Below.heap_alloc w1 _ _ hPs); have q2 := (World.cell?_of_block (w := w1) (a := ⟨h.P, 2, none⟩) hPw).trans k2; have q3 := (World.frozen?_of_block (w := w1) (a := ⟨h.P, 2, none⟩) hPw).trans kf2; have PU := hid pu; have PS := hid (S1.out.trans ps); clear ho hg hat pu ps hPw)))
            go_ret
            exact ⟨rfl, _, PU.out, PS.out⟩
    · have HE := hid (show wrE S i l.length = 1 by simp [wrE, hbb, hl])
      have HS := hid (show wrS S i l = S by simp [wrS, hl])
      rw [HE.out, HS.out]
      have hl3 : ((l.length : Int) != 128) = true := by rw [bne_iff_ne]; omega
      clear r hbb HE HS hl hv0 ok
      generalize bstr l = t at *
      generalize l.length = m at *
      go_enter Try.func24, Try.ntmps24
      go_wp2
      go_ret
      exact ⟨rfl, _, HD.out, RStep.refl _ _⟩
end
end Go.Proofs.Ytpbmkokjjcdhfaa
