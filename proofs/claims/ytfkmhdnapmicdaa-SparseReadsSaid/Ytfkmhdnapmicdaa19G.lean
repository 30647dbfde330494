/- sparse: Block, agrees, Same. -/
import Derived.Test.Ytfkmhdnapmicdaa19F
import Derived.Lib.SlBytesRow
import Derived.Laws.BytesString
namespace Go.Proofs.Ytfkmhdnapmicdaa
set_option linter.unusedSimpArgs false
set_option linter.unusedVariables false
open Go.RowKit

/-- octets as a text -/
def bstr (l : List UInt8) : ByteArray := ⟨l.toArray⟩
theorem bstr_size (l : List UInt8) : (bstr l).size = l.length := by simp [bstr, ByteArray.size]
theorem bstr_list (l : List UInt8) : (bstr l).data.toList = l := by simp [bstr]
theorem bstr_inj {a b : List UInt8} (h : bstr a = bstr b) : a = b := by rw [← bstr_list a, h, bstr_list]
theorem conv_range {w : World} {b o n : Nat} (l : List UInt8) (hl : l.length = n) (hr : w.rangeAt b o (bcells l)) (cap : Nat) : (convert 25 9 (.slice (some ⟨b, o, none⟩) n cap)).run Try.prog w = .ok (.string (bstr l)) w := by
  have h := Lib.run_convert_whole (P := Try.prog) w 25 5 9 Try.underlying25 Try.underlying5 Try.underlying9 b o (bstr l) (fun i hi => by
    rw [bstr_size] at hi
    have := hr i _ (bcells_at l i hi)
    rw [this, List.getD_eq_getElem?_getD, List.getElem?_eq_getElem hi]
    rfl) cap
  rwa [bstr_size, hl] at h
theorem conv_byts {w : World} {A : Option Addr} {n c : Nat} {l : List UInt8} (h : Byts w (.slice A n c) l) : (convert 25 9 (.slice A n c)).run Try.prog w = .ok (.string (bstr l)) w := by
  obtain ⟨h0, h1, h2, h3, h4⟩ := h.open_
  rcases Nat.eq_zero_or_pos n with e | e
  · subst e
    obtain rfl := List.eq_nil_of_length_eq_zero h0
    rw [run_convert_bytes_string w _ _ 5 A 0 c Try.underlying25 Try.underlying5 Try.underlying9]
    cases A with
    | none => rfl
    | some a =>
      have hl := run_loadCells_list (P := Try.prog) w a [] (by simp)
      simp only [List.length_nil] at hl
      simp [Conv.bytesToString, hl]
      rfl
  · obtain ⟨b, o, rfl, hr⟩ := h4 e
    exact conv_range l h0 hr c

theorem field_piece (x : Int) (A : Option Addr) (n c : Nat) (w : World) : (Instr.field 62 (.agg #[.int .i64 x, .slice A n c]) 1).run Try.prog w = .ok (.slice A n c) w := by kernel_rfl
def BlkPost (f : Fl) (n : Int) (w : World) (e : Ending) (w' : World) : Prop :=
  ∃ v, e = .returned (.tuple #[v, .bool (mayB f && (findL f.L n).isSome)]) ∧ Kept w w' ∧ (mayB f = false → v = .slice none 0 0) ∧ (findL f.L n = none → v = .slice none 0 0) ∧ (mayB f = true → ∀ p, findL f.L n = some p → ∃ g, v = .slice (some ⟨g, 0, none⟩) 128 128 ∧ OBlk w' g 5 p.b)
set_option maxHeartbeats 2000000 in
theorem sblock_any (f : Fl) (n : Int) (v : Value) (w : World) (h : Sp w v f) : Calls Try.prog 23 #[v, .int .i64 n] w (BlkPost f n w) := by
  have HM := hid (fun (w' : World) (k : Kept w w') => may_any f v w' (k.sp h))
  obtain ⟨vl, rfl, hP⟩ := h
  obtain ⟨A, c, rfl⟩ := hP.shape
  obtain ⟨s, L⟩ := f
  dsimp only at *
  obtain ⟨m, hm⟩ : ∃ m, L.length = m := ⟨_, rfl⟩
  rw [hm] at hP HM ⊢
  have HP := hid hP
  clear hP
  cases hmb : mayB ⟨s, L⟩ with
  | false =>
    rw [hmb] at HM
    have HPO := hid (show ∀ (w' : World), Kept w w' → BlkPost ⟨s, L⟩ n w (.returned (.tuple #[.slice none 0 0, .bool false])) w' from fun w' k => ⟨_, by rw [hmb]; rfl, k, fun _ => rfl, fun _ => rfl, fun h => by rw [hmb] at h; cases h⟩)
    clear hmb hm
    go_enter Try.func23, Try.ntmps23
    go_wp2_with (go_at_call 21; (with_reducible refine (HM.out _ ?_).mono ?_); exact (by repeat (first | exact Kept.refl _ | assumption | refine Kept.alloc ?_ _ | refine Kept.drew ?_ | refine Kept.drewN ?_ _ | refine Kept.setCell ?_ (by simp; try omega) _ | refine Kept.trans ?_ (by assumption))); rintro e w1 ⟨rfl, k1⟩)
    go_ret2
    exact HPO.out _ (by repeat (first | exact Kept.refl _ | assumption | refine Kept.alloc ?_ _ | refine Kept.drew ?_ | refine Kept.drewN ?_ _ | refine Kept.setCell ?_ (by simp; try omega) _ | refine Kept.trans ?_ (by assumption)))
  | true =>
    rw [hmb] at HM
    have hv := mayB_iff.1 hmb
    have hlen : L.length ≤ 100000 := by have := hv.len; dsimp only at this; omega
    have HLE := hid hlen
    clear hlen
    have HV := hid hv
    have HMB := hid hmb
    clear hmb hm hv
    rcases hf : findL L n with _ | p
    · have HBL := hid (fun (w' : World) (k : Kept w w') => block_none s L A m c n w' (k.pcs HP.out) HV.out.ord HLE.out hf)
      have HF := hid hf
      have HPO := hid (show ∀ (w' : World), Kept w w' → BlkPost ⟨s, L⟩ n w (.returned (.tuple #[.slice none 0 0, .bool false])) w' from fun w' k => ⟨_, by rw [HMB.out, hf]; rfl, k, fun _ => rfl, fun _ => rfl, fun _ p hp => by rw [hf] at hp; cases hp⟩)
      clear hf
      go_enter Try.func23, Try.ntmps23
      go_wp2_with (first
        | (go_at_call 21; (with_reducible refine (HM.out _ ?_).mono ?_); exact (by repeat (first | exact Kept.refl _ | assumption | refine Kept.alloc ?_ _ | refine Kept.drew ?_ | refine Kept.drewN ?_ _ | refine Kept.setCell ?_ (by simp; try omega) _ | refine Kept.trans ?_ (by assumption))); rintro e w1 ⟨rfl, k1⟩; have d0 := k1.keeps (b := w.heap.size) (o := 0) (s := none) (v := .int .i64 s) (by simp [go_sem]); have d1 := k1.keeps (b := w.heap.size) (o := 1) (s := none) (v := .slice A m c) (by simp [go_sem]))
        | (go_at_call 26; (with_reducible refine (HBL.out _ ?_).mono ?_); exact (by repeat (first | exact Kept.refl _ | assumption | refine Kept.alloc ?_ _ | refine Kept.drew ?_ | refine Kept.drewN ?_ _ | refine Kept.setCell ?_ (by simp; try omega) _ | refine Kept.trans ?_ (by assumption))); rintro e w2 ⟨rfl, k2⟩))
      go_ret2
      exact HPO.out _ (by repeat (first | exact Kept.refl _ | assumption | refine Kept.alloc ?_ _ | refine Kept.drew ?_ | refine Kept.drewN ?_ _ | refine Kept.setCell ?_ (by simp; try omega) _ | refine Kept.trans ?_ (by assumption)))
    · have HBL := hid (fun (w' : World) (k : Kept w w') => block_some s L A m c n w' (k.pcs HP.out) HV.out.ord HLE.out p hf)
      have HF := hid hf
      have hpb := (HV.out.pc p (find_some hf).1).2.2.1
      have HPB := hid hpb
      have HPO := hid (show ∀ (w' : World) g, Kept w w' → OBlk w' g 5 p.b → BlkPost ⟨s, L⟩ n w (.returned (.tuple #[.slice (some ⟨g, 0, none⟩) 128 128, .bool true])) w' from fun w' g k ob => ⟨_, by rw [HMB.out, hf]; rfl, k, fun h => (by rw [HMB.out] at h; cases h), fun h => (by rw [hf] at h; cases h), fun _ q hq => (by rw [hf] at hq; cases hq; exact ⟨g, rfl, ob⟩)⟩)
      clear hf hpb
      have hfp := field_piece
      go_enter Try.func23, Try.ntmps23
      go_wp2_with (first
        | (go_at_call 21; (with_reducible refine (HM.out _ ?_).mono ?_); exact (by repeat (first | exact Kept.refl _ | assumption | refine Kept.alloc ?_ _ | refine Kept.drew ?_ | refine Kept.drewN ?_ _ | refine Kept.setCell ?_ (by simp; try omega) _ | refine Kept.trans ?_ (by assumption))); rintro e w1 ⟨rfl, k1⟩; have d0 := k1.keeps (b := w.heap.size) (o := 0) (s := none) (v := .int .i64 s) (by simp [go_sem]); have d1 := k1.keeps (b := w.heap.size) (o := 1) (s := none) (v := .slice A m c) (by simp [go_sem]))
        | (go_at_call 26; (with_reducible refine (HBL.out _ ?_).mono ?_); exact (by repeat (first | exact Kept.refl _ | assumption | refine Kept.alloc ?_ _ | refine Kept.drew ?_ | refine Kept.drewN ?_ _ | refine Kept.setCell ?_ (by simp; try omega) _ | refine Kept.trans ?_ (by assumption))); rintro e w2 ⟨v2, rfl, k2, hb2, -⟩; obtain ⟨A3, c4, rfl⟩ := hb2.shape; rw [HPB.out] at hb2 ⊢; have HB2 := hid (k2.byts hb2); clear hb2)
        | (go_at_call 27; (with_reducible refine (clone_any _ _ p.b _ ?_).mono ?_); exact HB2.out; rintro e w3 ⟨g, rfl, ob, hg, k3⟩; rw [pad_id HPB.out] at ob; have OB := hid ob; clear ob))
      go_ret2
      exact HPO.out _ _ (by repeat (first | exact Kept.refl _ | assumption | refine Kept.alloc ?_ _ | refine Kept.drew ?_ | refine Kept.drewN ?_ _ | refine Kept.setCell ?_ (by simp; try omega) _ | refine Kept.trans ?_ (by assumption))) OB.out
end Go.Proofs.Ytfkmhdnapmicdaa
