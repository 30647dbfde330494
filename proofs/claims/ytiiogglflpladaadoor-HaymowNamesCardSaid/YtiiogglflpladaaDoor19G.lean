/- sparse: Block, agrees, Same. -/
import Derived.Test.YtiiogglflpladaaDoor19F
import Derived.Lib.SlBytesRow
import Derived.Laws.BytesString
namespace Go.Proofs.YtiiogglflpladaaDoor
set_option linter.unusedSimpArgs false
set_option linter.unusedVariables false
open Go.RowKit

/-- octets as a text -/
def bstr (l : List UInt8) : ByteArray := ⟨l.toArray⟩
theorem bstr_size (l : List UInt8) : (bstr l).size = l.length := by simp [bstr, ByteArray.size]
theorem bstr_list (l : List UInt8) : (bstr l).data.toList = l := by simp [bstr]
theorem bstr_inj {a b : List UInt8} (h : bstr a = bstr b) : a = b := by rw [← bstr_list a, h, bstr_list]
theorem conv_range {w : World} {b o n : Nat} (l : List UInt8) (hl : l.length = n) (hr : w.rangeAt b o (bcells l)) (cap : Nat) : (convert 33 9 (.slice (some ⟨b, o, none⟩) n cap)).run Tryd.prog w = .ok (.string (bstr l)) w := by
  have h := Lib.run_convert_whole (P := Tryd.prog) w 33 5 9 Tryd.underlying33 Tryd.underlying5 Tryd.underlying9 b o (bstr l) (fun i hi => by
    rw [bstr_size] at hi
    have := hr i _ (bcells_at l i hi)
    rw [this, List.getD_eq_getElem?_getD, List.getElem?_eq_getElem hi]
    rfl) cap
  rwa [bstr_size, hl] at h
theorem conv_byts {w : World} {A : Option Addr} {n c : Nat} {l : List UInt8} (h : Byts w (.slice A n c) l) : (convert 33 9 (.slice A n c)).run Tryd.prog w = .ok (.string (bstr l)) w := by
  obtain ⟨h0, h1, h2, h3, h4⟩ := h.open_
  rcases Nat.eq_zero_or_pos n with e | e
  · subst e
    obtain rfl := List.eq_nil_of_length_eq_zero h0
    rw [run_convert_bytes_string w _ _ 5 A 0 c Tryd.underlying33 Tryd.underlying5 Tryd.underlying9]
    cases A with
    | none => rfl
    | some a =>
      have hl := run_loadCells_list (P := Tryd.prog) w a [] (by simp)
      simp only [List.length_nil] at hl
      simp [Conv.bytesToString, hl]
      rfl
  · obtain ⟨b, o, rfl, hr⟩ := h4 e
    exact conv_range l h0 hr c

theorem field_piece (x : Int) (A : Option Addr) (n c : Nat) (w : World) : (Instr.field 64 (.agg #[.int .i64 x, .slice A n c]) 1).run Tryd.prog w = .ok (.slice A n c) w := by kernel_rfl
def BlkPost (f : Fl) (n : Int) (w : World) (e : Ending) (w' : World) : Prop :=
  ∃ v, e = .returned (.tuple #[v, .bool (mayB f && (findL f.L n).isSome)]) ∧ Kept w w' ∧ (mayB f = false → v = .slice none 0 0) ∧ (findL f.L n = none → v = .slice none 0 0) ∧ (mayB f = true → ∀ p, findL f.L n = some p → ∃ g, v = .slice (some ⟨g, 0, none⟩) 128 128 ∧ OBlk w' g 5 p.b)
end Go.Proofs.YtiiogglflpladaaDoor
