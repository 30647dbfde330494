/- The device: Spoil; both devices are the same. -/
import Derived.Test.Ytpbmkokjjcdhfaa4ZE
import Derived.BigQuiet
namespace Go.Proofs.Ytpbmkokjjcdhfaa
set_option linter.unusedSimpArgs false
set_option linter.unusedVariables false
open Go.RowKit

theorem wpStill_loadB {ops : Array Oper} {rest : List Oper} {op : Oper} {a : Act} {w : World} {Q : Act → Prop} (hgd : op.guard = none) (x : Operand) (ho : op.op = .load 65 x)
    (b o : Nat) (hx : a.eval x = .pointer (some ⟨b, o, none⟩)) (l : List UInt8) (hl : l.length = 128) (hc : w.rangeAt b o (bcells l))
    (h : wpStill Try.prog ops w Q rest (a.put op.dst (.agg (bcells l).toArray))) : wpStill Try.prog ops w Q (op :: rest) a := by
  refine wpStill_step (fun K hK => ?_)
  rw [if_pos (by simp [Region.wanted, hgd])]
  unfold Oper.still execOp
  have hr := run_loadAt_mid (P := Try.prog) w b o 65 (bcells l) _ hc Try.underlying65 rfl (by rw [info_size_block, bcells_len, hl])
  simp only [ho, hx, Sem.run_bind, Sem.run_pure, hr, Result.andThen_ok, Oper.stillUpon_value]
  exact hK _ h
def spE (S : DS) (i : Int) (n : Nat) : Int := if isB S.n i = false then 4 else if n ≠ 128 then 1 else 0
def spS (S : DS) (i : Int) (l : List UInt8) : DS := if spE S i l.length = 0 then { S with blk := upd S.blk i.toNat l } else S
section
variable {w : World} {B : Nat} {h : DH} {S : DS}
set_option maxRecDepth 100000 in
set_option maxHeartbeats 2000000 in
theorem spoil_any (i : Int) (vb : Value) (l : List UInt8) (w : World) (d : DevAt w B h S) (hb : BIn h w vb l) :
    Calls Try.prog 29 #[.pointer (some ⟨h.P, 0, none⟩), .int .i64 i, vb] w (DPost (.int .i64 (spE S i l.length)) (spS S i l) B h w) := by
  have HT := hid (there_any i w d)
  have hn := d.ok.n2
  obtain ⟨A, c, rfl, hl1, hl2, hbi⟩ := hb
  have HD := hid d
  cases hbb : isB S.n i with
  | false =>
    have HE := hid (show spE S i l.length = 4 by simp [spE, hbb])
    have HS := hid (show spS S i l = S by simp [spS, HE.out])
    rw [HE.out, HS.out]
    rw [hbb] at HT
    clear d hbb HE HS hbi
    generalize l.length = n at *
    go_enter Try.func29, Try.ntmps29
    go_wp2_with (go_at_call 32; refine HT.out.mono ?_; rintro e w2 ⟨rfl, rfl⟩)
    go_ret
    exact ⟨rfl, _, HD.out, Step.refl _ _⟩
  | true =>
    rw [hbb] at HT
    by_cases hl : l.length = 128
    · have HE := hid (show spE S i l.length = 0 by simp [spE, hbb, hl])
      have HS := hid (show spS S i l = { S with blk := upd S.blk i.toNat l } by rw [spS, if_pos HE.out])
      rw [HE.out, HS.out]
      obtain ⟨hi0, hi1⟩ := isB_t hbb
      obtain ⟨q, rfl⟩ : ∃ q : Nat, i = (q : Int) := ⟨i.toNat, by omega⟩
      have hq : q < S.n := by omega
      obtain ⟨b, o, rfl, hr, ho⟩ := hbi (by omega)
      have HR := hid (show w.drew.rangeAt b o (bcells l) from hr)
      have HTH := hid (d.hB.there (q * 128) 128 (by omega))
      have HW := hid (d.drew.written q hq l (by omega))
      have hbq := d.ok.blk q hq
      rw [List.drop_of_length_le (by omega), List.append_nil] at HW
      rw [Int.toNat_natCast]
      have c0 := d.c0
      have HLL := hid hl
      rw [hl] at hl1 ⊢
      have hBl := bcells_len l
      rw [hl] at hBl
      have HBL := hid hBl
      have har := run_array_block (some ⟨b, o, none⟩) c
      clear d hbb HE HS hbi hr hbq hBl hl
      generalize S.n = n at *
      obtain ⟨gB, hgB⟩ : ∃ gB, gB = h.gB := ⟨_, rfl⟩
      rw [← hgB] at c0 HTH HW
      clear hgB
      go_enter Try.func29, Try.ntmps29
      go_wp2_with (go_at_call 32; refine HT.out.mono ?_; rintro e w2 ⟨rfl, rfl⟩)
      refine wp_region_still_tail 8 (by kernel_rfl) (by kernel_rfl) ?_
      simp only [List.take_succ_cons, List.take_zero, List.drop_succ_cons, List.drop_zero]
      still_step
      still_step
      still_step
      still_step
      still_step
      still_step
      still_step
      refine wpStill_loadB rfl (.tmp 22) rfl b o rfl l HLL.out HR.out ?_
      refine wpStill_nil ?_
      change wpList _ _ _ _ _ (World.drew _)
      go_wp2_with (refine wpList_store_mid rfl 65 (.tmp 24) (.tmp 23) rfl gB (q * 128) (bcells l).toArray rfl rfl (by simp only [List.size_toArray, HBL.out]; exact HTH.out) (by rw [info_size_block]; simp [HBL.out]) (all_oneCell_toArray (bcells_one l)) ?_)
      go_ret
      exact ⟨rfl, _, HW.out.1, ((Kept.refl w).drew.step h).trans HW.out.2⟩
    · have HE := hid (show spE S i l.length = 1 by simp [spE, hbb, hl])
      have HS := hid (show spS S i l = S by simp [spS, HE.out])
      rw [HE.out, HS.out]
      have hl3 : ((l.length : Int) != 128) = true := by rw [bne_iff_ne]; omega
      clear d hbb HE HS hbi hl
      generalize l.length = n at *
      go_enter Try.func29, Try.ntmps29
      go_wp2_with (go_at_call 32; refine HT.out.mono ?_; rintro e w2 ⟨rfl, rfl⟩)
      go_ret
      exact ⟨rfl, _, HD.out, Step.refl _ _⟩
end
end Go.Proofs.Ytpbmkokjjcdhfaa
