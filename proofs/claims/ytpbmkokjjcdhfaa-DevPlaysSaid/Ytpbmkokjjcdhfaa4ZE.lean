/- The document's device: Crash. -/
import Derived.Test.Ytpbmkokjjcdhfaa4ZD
namespace Go.Proofs.Ytpbmkokjjcdhfaa
set_option linter.unusedSimpArgs false
set_option linter.unusedVariables false
open Go.RowKit

theorem bstr_app (a b : List UInt8) : bstr a ++ bstr b = bstr (a ++ b) := by
  apply ByteArray.ext
  simp [bstr]
theorem str_add (a b : List UInt8) (h : a.length + b.length ≤ 1000000) : Op.stringOp .add (bstr a) (bstr b) = pure (.string (bstr (a ++ b))) := by
  unfold Op.stringOp
  dsimp only
  rw [if_neg (by rw [bstr_size, bstr_size]; have : IntKind.i64.max = 9223372036854775807 := by decide
                 omega), bstr_app]
theorem bstr_cut (l : List UInt8) (m : Nat) : (bstr l).extract 0 m = bstr (l.take m) := by
  apply ByteArray.ext
  simp [bstr]
theorem bstr_from (l : List UInt8) (m n : Nat) (h : l.length = n) : (bstr l).extract m n = bstr (l.drop m) := by
  apply ByteArray.ext
  simp [bstr, ← h]
  exact List.take_of_length_le (by rw [List.length_drop]; exact Nat.le_refl _)
/-- a slice of numbers that is handed to the document's crash -/
def RIn (h : RH) (w : World) (v : Value) (L : List Int) : Prop :=
  ∃ A c, v = .slice A L.length c ∧ L.length ≤ c ∧ c ≤ 9223372036854775807 ∧ (0 < L.length → ∃ b o, A = some ⟨b, o, none⟩ ∧ (b < w.heap.size ∧ ¬ rfoot h b) ∧ ∀ i, i < L.length → w.cell? ⟨b, o + i, none⟩ = some (.int .i64 (L.getD i 0)))
theorem exB_tail (blk : Nat → List UInt8) (pend : List (Nat × List UInt8)) (F : Nat → Int) (k m : Nat) (hkm : k ≤ m) (hF : ∀ j, k ≤ j → F j ≤ 0) : exB blk pend F m = exB blk pend F k := by
  induction m with
  | zero => obtain rfl : k = 0 := by omega
            rfl
  | succ m ih =>
    rcases Nat.lt_or_ge m k with h | h
    · obtain rfl : k = m + 1 := by omega
      rfl
    · rw [← ih h]
      rcases Nat.lt_or_ge m pend.length with hm | hm
      · rw [exB_succ _ _ _ _ hm]
        have h0 : cl (F m) = 0 := by have := hF m h; unfold cl; omega
        rw [h0, List.take_zero, List.nil_append, List.drop_zero]
        funext j
        simp only [upd]
        split
        · rename_i e; rw [e]
        · rfl
      · rw [exB, List.getElem?_eq_none hm]
section
variable {w : World} {B : Nat} {h : RH} {S : DS}
theorem RStep.rin {h' : RH} {w' : World} (s : RStep h h' w w') {v : Value} {L : List Int} (f : RIn h w v L) : RIn h' w' v L := by
  obtain ⟨A, c, h1, h3, h4, h5⟩ := f
  refine ⟨A, c, h1, h3, h4, fun h0 => ?_⟩
  obtain ⟨b, o, hA, ho, hc⟩ := h5 h0
  exact ⟨b, o, hA, ⟨Nat.lt_of_lt_of_le ho.1 s.size, s.out b ho.1 ho.2⟩, fun i hi => (World.cell?_of_block (w := w) (a := ⟨b, o + i, none⟩) (s.block b ho.1 ho.2)).trans (hc i hi)⟩
set_option maxRecDepth 100000 in
set_option maxHeartbeats 4000000 in
theorem rcrash_any (v : Value) (L : List Int) (w : World) (r : RefAt w B h S) (ok : S.ok) (hL : RIn h w v L) : Calls Try.prog 27 #[.pointer (some ⟨h.P, 0, none⟩), v] w (RPost (.tuple #[]) (crS S L) B h w) := by
  have hn1 := ok.n1
  have hn2 := ok.n2
  have HOK := hid ok
  have HD := hid r
  have HF := hid hL
  obtain ⟨Af, cf, rfl, hf1, hf2, hf3⟩ := hL
  have HF3 := hid hf3
  obtain ⟨AL, cL, hvL, hnc, hcm⟩ := row_len r.hL
  obtain ⟨np, hnp⟩ : ∃ np, np = S.pend.length := ⟨_, rfl⟩
  obtain ⟨nf, hnf⟩ : ∃ nf, nf = L.length := ⟨_, rfl⟩
  obtain ⟨gH, cH, hvH, hnH, -⟩ := row_some r.hH (by omega)
  rw [← hnp] at hnc
  rw [← hnf] at HF hf1 HF3 ⊢
  have HNP := hid hnp; have HVL := hid hvL; have HVH := hid hvH; have HNF := hid hnf
  clear hnp hvL hvH hnf hf3 r ok
  have hP : Hid (h.P = h.P) := hid rfl
  go_enter Try.func27, Try.ntmps27
  go_wp2
  go_loopw [4, 5, 6] (fun t _ _ wr => ∃ k : Nat, k ≤ np ∧ k ≤ nf ∧ t = .int .i64 k ∧ RefAt wr B h { S with blk := exB S.blk S.pend (fun k => L.getD k 0) k } ∧ RStep h h w wr) (fun t _ _ _ => np - (intOf t).toNat)
  case atStart => exact ⟨0, by omega, by omega, rfl, HD.out, RStep.refl _ _⟩
  case round =>
    obtain ⟨k, hk, hkf, rfl, hdk, hsk⟩ := hrel
    have HDK := hid hdk; have HSK := hid hsk
    have c0 := hdk.c0
    have c2 := hdk.c2
    have c4 := hdk.c4
    have f2 := hdk.fz 2
    have f4 := hdk.fz 4
    rw [HVH.out] at c0
    rw [HVL.out, ← HNP.out] at c2
    clear hdk hsk
    dsimp only at c0 c4
    by_cases hlt : k < np ∧ k < nf
    · obtain ⟨hlt, hltf⟩ := hlt
      have hkl : k < S.pend.length := by rw [← HNP.out]; exact hlt
      obtain ⟨g, c, hv, -, -, l0, l1⟩ := HDK.out.atL k hkl
      rw [HVL.out] at hv
      injection hv with eA _ ec
      subst eA; subst ec
      have hpp := HOK.out.pend _ (List.getElem_mem hkl)
      have HXK := hid (exB_succ S.blk S.pend (fun k => L.getD k 0) k hkl)
      dsimp only at l0 l1
      obtain ⟨fb, fo, rfl, ⟨hfb, hfo⟩, hfc⟩ := HF3.out (by omega)
      have hx0 := (World.cell?_of_block (w := w) (a := ⟨fb, fo + k, none⟩) (HSK.out.block fb hfb hfo)).trans (hfc k hltf)
      generalize hpk : S.pend[k] = pk at *
      obtain ⟨at', l⟩ := pk
      dsimp only at l0 l1 hpp HXK
      clear hpk hfc
      obtain ⟨hat, hll⟩ := hpp
      have q0 : (0 : Int) ≤ (k : Int) := by omega
      have q1 : (k : Int) < (np : Int) := by omega
      have q1f : (k : Int) < (nf : Int) := by omega
      have q2 : (0 : Int) ≤ (at' : Int) := by omega
      have q3 : (at' : Int) < (S.n : Int) := by omega
      obtain ⟨gH2, cH2, hv2, -, -, hx, hfx⟩ := HDK.out.atH at' hat
      rw [HVH.out] at hv2
      injection hv2 with e2 _ e3
      simp only [Option.some.injEq, Addr.mk.injEq, and_true] at e2
      subst e2; subst e3
      have hx2 := hx at' hat
      dsimp only at hx2
      have HBL := hid (exB_len S.n S.blk S.pend (fun k => L.getD k 0) HOK.out.blk HOK.out.pend k at' hat)
      have HSET := hid (fun (m : Nat) (hm : cl (L.getD k 0) = m) => (by rw [HXK.out, hm]; exact HDK.out.drew.setH at' (l.take m ++ (exB S.blk S.pend (fun k => L.getD k 0) k at').drop m) HVH.out : RefAt (wr.drew.setCell ⟨gH, at', none⟩ (.string (bstr (l.take m ++ (exB S.blk S.pend (fun k => L.getD k 0) k at').drop m)))) B h { S with blk := exB S.blk S.pend (fun k => L.getD k 0) (k + 1) } ∧ _))
      have HNO := hid (fun (h0 : L.getD k 0 ≤ 0) => exB_tail S.blk S.pend (fun k => L.getD k 0))
      clear hx
      generalize hxv : L.getD k 0 = x at *
      generalize hold : exB S.blk S.pend (fun k => L.getD k 0) k at' = old at *
      by_cases h0 : 0 < x
      · obtain ⟨m, hm1, hm2, hm3⟩ : ∃ m : Nat, m ≤ 128 ∧ cl x = m ∧ (m : Int) = if 128 < x then 128 else x := by
          refine ⟨cl x, cl_le x, rfl, ?_⟩
          rw [cl_int]
          split <;> omega
        have HS := hid (HSET.out m hm2)
        have hadd := str_add (l.take m) (old.drop m) (by rw [List.length_take, List.length_drop, HBL.out]; omega)
        rw [← bstr_cut, ← bstr_from _ _ _ HBL.out] at hadd
        have hs1 : (bstr l).size = 128 := by rw [bstr_size, hll]
        have hs2 : (bstr old).size = 128 := by rw [bstr_size, HBL.out]
        have HX8 := hid (show m = 128 → bstr (l.take m ++ old.drop m) = (bstr l).extract 0 128 from fun e => by rw [e, List.drop_of_length_le (by rw [HBL.out]; exact Nat.le_refl _), List.append_nil, bstr_cut])
        clear HSET hm2 hold HXK
        generalize bstr (l.take m ++ old.drop m) = tn at *
        generalize bstr l = ts at *
        generalize bstr old = td at *
        by_cases h1 : 128 < x
        · obtain rfl : m = 128 := by rw [if_pos h1] at hm3; omega
          clear hm3
          have e8 := HX8.out rfl
          rw [e8] at HS
          clear HX8
          go_wp2_with fail
          go_still_tail 25, (by kernel_rfl)
          change wpList _ _ _ _ _ (World.drew _)
          go_wp2_with fail
          go_roundw
          case rel => exact ⟨k + 1, by omega, by omega, by go_num, HS.out.1, (HSK.out.trans ((Kept.refl wr).drew.rstep h)).trans HS.out.2⟩
          case measure => simp [intOf]; omega
        · obtain rfl : x = (m : Int) := by rw [if_neg h1] at hm3; omega
          clear hm3
          have h1' : decide (128 < (m : Int)) = false := decide_eq_false h1
          have hm0 : (m : Int) ≤ 128 := by omega
          have hm00 : (0 : Int) ≤ (m : Int) := by omega
          go_wp2_with fail
          go_still_tail 25, (by kernel_rfl)
          change wpList _ _ _ _ _ (World.drew _)
          go_wp2_with fail
          go_roundw
          case rel => exact ⟨k + 1, by omega, by omega, by go_num, HS.out.1, (HSK.out.trans ((Kept.refl wr).drew.rstep h)).trans HS.out.2⟩
          case measure => simp [intOf]; omega
      · have hm2 : cl x = 0 := by unfold cl; omega
        have HS := hid (show exB S.blk S.pend (fun k => L.getD k 0) (k + 1) = exB S.blk S.pend (fun k => L.getD k 0) k from by
          rw [HXK.out, hm2, List.take_zero, List.nil_append, List.drop_zero, ← hold]
          funext j
          simp only [upd]
          split
          · rename_i e; rw [e]
          · rfl)
        have h1' : decide (128 < x) = false := decide_eq_false (by omega)
        have h0' : decide (0 < x) = false := decide_eq_false h0
        clear HSET hm2 hold HXK h0
        go_wp2
        go_roundw
        case rel => exact ⟨k + 1, by omega, by omega, by go_num, by rw [HS.out]; exact HDK.out, HSK.out⟩
        case measure => simp [intOf]; omega
    · have HE := hid (show exB S.blk S.pend (fun k => L.getD k 0) k = exB S.blk S.pend (fun k => L.getD k 0) S.pend.length from by
        rcases (by omega : k = np ∨ k = nf) with e | e
        · rw [e, HNP.out]
        · refine (exB_tail _ _ _ k _ (by rw [← HNP.out]; exact hk) (fun j hj => ?_)).symm
          rw [e, HNF.out] at hj
          rw [List.getD_eq_getElem?_getD, List.getElem?_eq_none hj]
          decide)
      have FG := HDK.out.forgot
      dsimp only at FG
      rw [HE.out] at FG
      have F4 := FG.1.field 4 (.bool true) (crS S L) rfl rfl rfl rfl rfl
      have HF4 := hid F4
      have HFS := hid ((HSK.out.trans FG.2).trans (RStep.field 4 (.bool true)))
      dsimp only at HF4 HFS
      clear FG F4
      by_cases h1 : k < np
      · have h2 : ¬ k < nf := by omega
        have h1' : (k : Int) < (np : Int) := by omega
        have h2' : decide ((k : Int) < (nf : Int)) = false := decide_eq_false (by omega)
        clear hlt
        go_wp2
        go_end0
        exact ⟨rfl, _, HF4.out, HFS.out⟩
      · have h1' : decide ((k : Int) < (np : Int)) = false := decide_eq_false (by omega)
        clear hlt
        go_wp2
        go_end0
        exact ⟨rfl, _, HF4.out, HFS.out⟩
end
end Go.Proofs.Ytpbmkokjjcdhfaa
