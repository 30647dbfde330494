/- The document's device: Flush, Erase. -/
import Derived.Test.Ytpbmkokjjcdhfaa4ZC
namespace Go.Proofs.Ytpbmkokjjcdhfaa
set_option linter.unusedSimpArgs false
set_option linter.unusedVariables false
open Go.RowKit

section
variable {w : World} {B : Nat} {h : RH} {S : DS}
theorem exB_128 (n : Nat) (blk : Nat → List UInt8) (pend : List (Nat × List UInt8)) (hb : ∀ i, i < n → (blk i).length = 128) (hp : ∀ p ∈ pend, p.1 < n ∧ p.2.length = 128) (k : Nat) (hk : k < pend.length) :
    exB blk pend (fun _ => 128) (k + 1) = upd (exB blk pend (fun _ => 128) k) (pend[k]).1 (pend[k]).2 := by
  have h1 := hp _ (List.getElem_mem hk)
  have h2 := exB_len n blk pend (fun _ => 128) hb hp k _ h1.1
  have h3 : cl 128 = 128 := by decide
  rw [exB_succ _ _ _ _ hk]
  rw [h3, List.take_of_length_le (by omega), List.drop_of_length_le (by omega), List.append_nil]
theorem RefAt.congr_blk (r : RefAt w B h S) (b : Nat → List UInt8) (hb : ∀ i, i < S.n → S.blk i = b i) : RefAt w B h { S with blk := b } := by
  have e : textsF { S with blk := b } = textsF S := by
    simp only [textsF]
    apply List.map_congr_left
    intro i hi
    rw [hb i (by simpa using hi)]
  exact ⟨r.hP, by rw [e]; exact r.hH, r.hF, r.hL, r.lo⟩
set_option maxRecDepth 100000 in
set_option maxHeartbeats 2000000 in
theorem rflush_any (w : World) (r : RefAt w B h S) (ok : S.ok) : Calls Try.prog 25 #[.pointer (some ⟨h.P, 0, none⟩)] w (RPost (.int .i64 (spendE S)) (flS S) B h w) := by
  have HSP := hid (rfails_any w r ok)
  cases hsp : spendP S with
  | false =>
    have hse : spendE S = 10 := by simp [spendE, hsp]
    have HS := hid (show flS S = spendS S by rw [flS, if_neg (by rw [hse]; decide)])
    rw [hse, HS.out]
    rw [hsp] at HSP
    clear r ok hse hsp HS
    generalize spendS S = T at *
    go_enter Try.func25, Try.ntmps25
    go_wp2_with (go_at_call 39; refine HSP.out.mono ?_; rintro e w1 ⟨rfl, h1, d1, s1⟩; have D1 := hid d1; have S1 := hid s1; clear d1 s1)
    go_ret
    exact ⟨rfl, _, D1.out, S1.out⟩
  | true =>
    rw [hsp] at HSP
    cases hm : S.mnt with
    | false =>
      have hse : spendE S = 9 := by simp [spendE, hsp, hm]
      have HS := hid (show flS S = spendS S by rw [flS, if_neg (by rw [hse]; decide)])
      have HM := hid (show (spendS S).mnt = false from hm)
      rw [hse, HS.out]
      clear r ok hse hsp HS hm
      generalize spendS S = T at *
      go_enter Try.func25, Try.ntmps25
      go_wp2_with (go_at_call 39; refine HSP.out.mono ?_; rintro e w1 ⟨rfl, h1, d1, s1⟩; have k5 := d1.c5; rw [s1.P, HM.out] at k5; have D1 := hid d1; have S1 := hid s1; clear d1 s1)
      go_ret
      exact ⟨rfl, _, D1.out, S1.out⟩
    | true =>
      have hse : spendE S = 0 := by simp [spendE, hsp, hm]
      have HS := hid (show flS S = { spendS S with blk := exB (spendS S).blk (spendS S).pend (fun _ => 128) (spendS S).pend.length, pend := [] } by rw [flS, if_pos hse]; rfl)
      have HM := hid (show (spendS S).mnt = true from hm)
      have HOK := hid ok.spend
      rw [hse, HS.out]
      clear r ok hse hsp HS hm
      generalize spendS S = T at *
      have hn1 := HOK.out.n1
      have hn2 := HOK.out.n2
      have HX := hid (exB_128 T.n T.blk T.pend HOK.out.blk HOK.out.pend)
      go_enter Try.func25, Try.ntmps25
      go_wp2_with (go_at_call 39; refine HSP.out.mono ?_; rintro e w1 ⟨rfl, h1, d1, s1⟩; have k5 := d1.c5; rw [s1.P, HM.out] at k5; have D1 := hid d1; have S1 := hid s1; have hP1 := hid s1.P; clear d1 s1)
      obtain ⟨AL, cL, hvL, hnc, hcm⟩ := row_len D1.out.hL
      obtain ⟨np, hnp⟩ : ∃ np, np = T.pend.length := ⟨_, rfl⟩
      obtain ⟨gH, cH, hvH, hnH, -⟩ := row_some D1.out.hH (by omega)
      rw [← hnp] at hnc
      have HNP := hid hnp; have HVL := hid hvL; have HVH := hid hvH
      clear hnp hvL hvH
      go_loopw [3] (fun t wr => ∃ k : Nat, k ≤ np ∧ t = .int .i64 k ∧ RefAt wr B h1 { T with blk := exB T.blk T.pend (fun _ => 128) k } ∧ RStep h1 h1 w1 wr) (fun t _ => np - (intOf t).toNat)
      case atStart => exact ⟨0, by omega, rfl, D1.out, RStep.refl _ _⟩
      case round =>
        obtain ⟨k, hk, rfl, hdk, hsk⟩ := hrel
        have HDK := hid hdk; have HSK := hid hsk
        have c0 := hdk.c0
        have c2 := hdk.c2
        have f2 := hdk.fz 2
        rw [hP1.out] at c0 c2 f2
        rw [HVH.out] at c0
        rw [HVL.out, ← HNP.out] at c2
        clear hdk hsk
        by_cases hlt : k < np
        · have hkl : k < T.pend.length := by rw [← HNP.out]; exact hlt
          obtain ⟨g, c, hv, -, -, l0, l1⟩ := HDK.out.atL k hkl
          rw [HVL.out] at hv
          injection hv with eA _ ec
          subst eA; subst ec
          have hpp := HOK.out.pend _ (List.getElem_mem hkl)
          have HXK := hid (HX.out k hkl)
          dsimp only at l0 l1
          generalize hpk : T.pend[k] = pk at *
          obtain ⟨at', l⟩ := pk
          dsimp only at l0 l1 hpp HXK
          clear hpk
          obtain ⟨hat, hll⟩ := hpp
          have q0 : (0 : Int) ≤ (k : Int) := by omega
          have q1 : (k : Int) < (np : Int) := by omega
          have q2 : (0 : Int) ≤ (at' : Int) := by omega
          have q3 : (at' : Int) < (T.n : Int) := by omega
          obtain ⟨gH2, cH2, hv2, -, -, hx, hfx⟩ := HDK.out.atH at' hat
          rw [HVH.out] at hv2
          injection hv2 with e2 _ e3
          simp only [Option.some.injEq, Addr.mk.injEq, and_true] at e2
          subst e2; subst e3
          have hx2 := hx at' hat
          have HSET := hid (HDK.out.drew.setH at' l HVH.out)
          dsimp only at hx2 HSET
          clear hx
          rw [← HXK.out] at HSET
          generalize bstr (exB T.blk T.pend (fun _ => 128) k at') = told at *
          go_wp2_with fail
          go_still_tail 20, (by kernel_rfl)
          change wpList _ _ _ _ _ (World.drew _)
          go_wp2_with fail
          go_roundw
          case rel => exact ⟨k + 1, by omega, by go_num, HSET.out.1, (HSK.out.trans ((Kept.refl wr).drew.rstep h1)).trans HSET.out.2⟩
          case measure => simp [intOf]; omega
        · obtain rfl : k = np := by omega
          have hlt2 : ¬ (k : Int) < (k : Int) := by omega
          have FG := hid HDK.out.forgot
          rw [hP1.out] at FG
          dsimp only at FG
          go_wp2
          go_ret
          rw [← HNP.out]
          exact ⟨rfl, _, FG.out.1, (S1.out.trans HSK.out).trans FG.out.2⟩
theorem eraB_succ (blk : Nat → List UInt8) (k : Nat) : (fun i => if i < k + 1 then rep 0 else blk i) = upd (fun i => if i < k then rep 0 else blk i) k (rep 0) := by
  funext i
  simp only [upd]
  by_cases h1 : i = k
  · subst h1; simp
  · by_cases h2 : i < k
    · rw [if_pos (by omega), if_neg h1, if_pos h2]
    · rw [if_neg (by omega), if_neg h1, if_neg h2]
set_option maxRecDepth 100000 in
set_option maxHeartbeats 2000000 in
theorem rerase_any (w : World) (r : RefAt w B h S) (ok : S.ok) : Calls Try.prog 30 #[.pointer (some ⟨h.P, 0, none⟩)] w (RPost (.int .i64 (spendE S)) (eraS S) B h w) := by
  have HSP := hid (rfails_any w r ok)
  have HNN := hid noughts_any
  cases hsp : spendP S with
  | false =>
    have hse : spendE S = 10 := by simp [spendE, hsp]
    have HS := hid (show eraS S = spendS S by rw [eraS, if_neg (by rw [hse]; decide)])
    rw [hse, HS.out]
    rw [hsp] at HSP
    clear r ok hse hsp HS
    generalize spendS S = T at *
    go_enter Try.func30, Try.ntmps30
    go_wp2_with (go_at_call 39; refine HSP.out.mono ?_; rintro e w1 ⟨rfl, h1, d1, s1⟩; have D1 := hid d1; have S1 := hid s1; clear d1 s1)
    go_ret
    exact ⟨rfl, _, D1.out, S1.out⟩
  | true =>
    rw [hsp] at HSP
    cases hm : S.mnt with
    | false =>
      have hse : spendE S = 9 := by simp [spendE, hsp, hm]
      have HS := hid (show eraS S = spendS S by rw [eraS, if_neg (by rw [hse]; decide)])
      have HM := hid (show (spendS S).mnt = false from hm)
      rw [hse, HS.out]
      clear r ok hse hsp HS hm
      generalize spendS S = T at *
      go_enter Try.func30, Try.ntmps30
      go_wp2_with (go_at_call 39; refine HSP.out.mono ?_; rintro e w1 ⟨rfl, h1, d1, s1⟩; have k5 := d1.c5; rw [s1.P, HM.out] at k5; have D1 := hid d1; have S1 := hid s1; clear d1 s1)
      go_ret
      exact ⟨rfl, _, D1.out, S1.out⟩
    | true =>
      have hse : spendE S = 0 := by simp [spendE, hsp, hm]
      have HS := hid (show eraS S = { spendS S with blk := zB, pend := [] } by rw [eraS, if_pos hse])
      have HM := hid (show (spendS S).mnt = true from hm)
      have HOK := hid ok.spend
      rw [hse, HS.out]
      clear r ok hse hsp HS hm
      generalize spendS S = T at *
      have hn1 := HOK.out.n1
      have hn2 := HOK.out.n2
      go_enter Try.func30, Try.ntmps30
      go_wp2_with (go_at_call 39; refine HSP.out.mono ?_; rintro e w1 ⟨rfl, h1, d1, s1⟩; have k5 := d1.c5; rw [s1.P, HM.out] at k5; have D1 := hid d1; have S1 := hid s1; have hP1 := hid s1.P; clear d1 s1)
      obtain ⟨gH, cH, hvH, hnH, hcm⟩ := row_some D1.out.hH (by omega)
      obtain ⟨A2, cL, hvL, -, -⟩ := row_len D1.out.hL
      have HVH := hid hvH; have HVL := hid hvL
      clear hvH hvL
      go_loopw [3] (fun t wr => ∃ k : Nat, k ≤ T.n ∧ t = .int .i64 k ∧ RefAt wr B h1 { T with blk := fun i => if i < k then rep 0 else T.blk i } ∧ RStep h1 h1 w1 wr) (fun t _ => T.n - (intOf t).toNat)
      case atStart => exact ⟨0, by omega, rfl, D1.out.congr_blk _ (fun i _ => rfl), RStep.refl _ _⟩
      case round =>
        obtain ⟨k, hk, rfl, hdk, hsk⟩ := hrel
        have HDK := hid hdk; have HSK := hid hsk
        have c0 := hdk.c0
        have c2 := hdk.c2
        have f2 := hdk.fz 2
        rw [hP1.out] at c0 c2 f2
        rw [HVH.out] at c0
        rw [HVL.out] at c2
        clear hdk hsk
        by_cases hlt : k < T.n
        · have q0 : (0 : Int) ≤ (k : Int) := by omega
          have q1 : (k : Int) < (T.n : Int) := by omega
          obtain ⟨gH2, cH2, hv2, -, -, hx, hfx⟩ := HDK.out.atH k hlt
          rw [HVH.out] at hv2
          injection hv2 with e2 _ e3
          simp only [Option.some.injEq, Addr.mk.injEq, and_true] at e2
          subst e2; subst e3
          have hx2 := hx k hlt
          have HSET := hid (fun (w' : World) (k' : Kept wr w') => (k'.ref HDK.out).setH k (rep 0) HVH.out)
          dsimp only at hx2 HSET
          clear hx
          rw [← eraB_succ] at HSET
          generalize bstr (if k < k then rep 0 else T.blk k) = told at *
          go_wp2_with fail
          have HW := hid (fun (u : Value) (w' : World) (k' : Kept wr w') => ((World.cell?_setCell_far _ _ _ _ (fun e => HDK.out.apart.HP (by rw [HVH.out, hP1.out]; exact congrArg some e))).trans (k'.keeps c0) : (w'.setCell ⟨gH, k, none⟩ u).cell? ⟨h.P, 0, none⟩ = some (.slice (some ⟨gH, 0, none⟩) T.n cH)))
          go_region_held3 (fun w' => w'.cell? ⟨h.P, 0, none⟩ = some (.slice (some ⟨gH, 0, none⟩) T.n cH))
            (first | exact c0 | exact HW.out _ _ K9.out | assumption)
            ((go_at_call 38; (with_reducible refine (HNN.out _).mono ?_); rintro e w2 ⟨rfl, k2⟩; have K9 := hid ((Kept.refl wr).drew.trans k2); have d0 := k2.keeps (b := h.P) (o := 0) (s := none) c0; have dx := k2.keeps (b := gH) (o := k) (s := none) hx2; have fx := k2.free (b := gH) (o := k) (s := none) hx2 hfx))
          all_goals (
            go_wp2_with fail
            go_roundw
            case rel => exact ⟨k + 1, by omega, by go_num, (HSET.out _ K9.out).1, (HSK.out.trans (K9.out.rstep h1)).trans (HSET.out _ K9.out).2⟩
            case measure => simp [intOf]; omega)
        · obtain rfl : k = T.n := by omega
          have hlt2 : ¬ (T.n : Int) < (T.n : Int) := by omega
          have FG := hid (HDK.out.congr_blk zB (fun i hi => if_pos hi)).forgot
          rw [hP1.out] at FG
          dsimp only at FG
          go_wp2
          go_ret
          exact ⟨rfl, _, FG.out.1, (S1.out.trans HSK.out).trans FG.out.2⟩
end
end Go.Proofs.Ytpbmkokjjcdhfaa
