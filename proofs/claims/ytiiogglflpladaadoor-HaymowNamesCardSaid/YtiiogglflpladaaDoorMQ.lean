/- HaymowNames: the file's part of a round, with shapes; texts that came in. -/
import Derived.Test.YtiiogglflpladaaDoorMO
import Derived.Test.YtiiogglflpladaaDoorMW
import Derived.Deep.CutRange
import Derived.Deep.CutBlock
namespace Go.Proofs.YtiiogglflpladaaDoor
set_option linter.unusedSimpArgs false
set_option linter.unusedVariables false
open Go.RowKit

theorem Kept.opc {w w1 : World} {base : Nat} {v : Value} {L : List Pc} (k : Kept w w1) (h : OPc w base v L) : OPc w1 base v L := by
  obtain ⟨a, h, e⟩ := h; exact ⟨a, k.own h, e⟩
theorem opc_low {w : World} {base base' : Nat} {v : Value} {L : List Pc} (h : OPc w base v L) (hb : base' ≤ base) : OPc w base' v L := by
  obtain ⟨a, h, e⟩ := h
  exact ⟨a, ⟨ownsRow_base h.row hb, fun q hq => ⟨Nat.le_trans hb (h.blk q hq).1, (h.blk q hq).2.1, (h.blk q hq).2.2⟩⟩, e⟩
theorem opc_nil (w : World) (base : Nat) : OPc w base (.slice none 0 0) [] := ⟨[], ⟨World.ownsRow_nil _ _ _ _, by simp⟩, rfl⟩
theorem ncut (f : Fl) (B : List UInt8) (h : Holds f B) (vl : Value) (sz : Int) (hs : f.size = sz) (m : Nat) (hm1 : B.length ≤ m) (hm : m ≤ 2000) (w : World) (hP : Pcs w vl f.L) :
    Calls Tryd.prog 7 #[.agg #[.int .i64 sz, vl], .int .i64 (m : Int)] w fun e w' => ∃ A k c A2 k2 c2, e = .returned (.tuple #[.agg #[.int .i64 (m : Int), .slice A k c], .slice A2 k2 c2, .int .i64 0]) ∧ Pcs w' (.slice A k c) (cutF f m).L ∧ Kept w w' := by
  subst hs
  refine (cut_any f m _ w ⟨vl, rfl, hP⟩).mono ?_
  rintro e w' ⟨k, -, -, h3⟩
  obtain ⟨v2, u, rfl, ⟨v, rfl, hQ⟩, hU⟩ := h3 (mayB_t h.v) (by omega) (by omega)
  obtain ⟨A, c, rfl⟩ := hQ.shape
  obtain ⟨A2, c2, rfl⟩ := hU.shape
  exact ⟨A, _, c, A2, _, c2, rfl, hQ, k⟩
theorem nwrite (f : Fl) (B b : List UInt8) (h : Holds f B) (hb : b ≠ []) (hl : B.length ≤ b.length) (hm : b.length ≤ 2000) (m : Nat) (hmm : b.length = m) (v vb : Value) (w : World) (hP : Pcs w v (cutF f m).L) (hB : Byts w vb b) :
    Calls Tryd.prog 8 #[.agg #[.int .i64 (m : Int), v], .int .i64 0, vb] w fun e w' => ∃ A k c A2 k2 c2, e = .returned (.tuple #[.agg #[.int .i64 (m : Int), .slice A k c], .slice A2 k2 c2, .int .i64 0]) ∧ OPc w' w.heap.size (.slice A k c) (wrF (cutF f m) 0 b).L ∧ Kept w w' := by
  subst hmm
  have hN := holds_next h b hb hl hm
  have hv := cut_valid h.v (b.length : Int) (by omega) (by omega)
  refine (write_any (cutF f b.length) 0 b _ vb w ⟨v, rfl, hP⟩ hB).mono ?_
  rintro e w' ⟨k, -, -, h3⟩
  obtain ⟨vl, u, rfl, hQ, hU⟩ := h3 (mayB_t hv) (by omega) (by omega)
  have := hN.s
  rw [this]
  obtain ⟨A, c, rfl⟩ := hQ.pcs.shape
  obtain ⟨A2, c2, rfl⟩ := hU.shape
  exact ⟨A, _, c, A2, _, c2, rfl, hQ, k⟩
theorem nread (f : Fl) (B : List UInt8) (h : Holds f B) (hm : B.length ≤ 2000) (vl : Value) (sz : Int) (hs : f.size = sz) (w : World) (hP : Pcs w vl f.L) :
    Calls Tryd.prog 9 #[.agg #[.int .i64 sz, vl], .int .i64 0, .int .i64 2000] w fun e w' => ∃ vb, e = .returned (.tuple #[vb, .int .i64 0]) ∧ Byts w' vb B ∧ Kept w w' := by
  have hsz := h.s
  subst hs
  refine (read_any f 0 2000 _ w ⟨vl, rfl, hP⟩ (by omega) (by omega)).mono ?_
  rintro e w' ⟨k, -, h3⟩
  obtain ⟨h4, h5⟩ := h3 (mayB_t h.v) (by omega) (by omega)
  by_cases h0 : f.size ≤ 0
  · have e0 : B = [] := List.eq_nil_of_length_eq_zero (by omega)
    rw [e0]
    exact ⟨_, h4 h0, byts_nil _, k⟩
  · obtain ⟨g, rfl, ob⟩ := h5 (by omega)
    have e1 : (min 2000 (f.size - 0)).toNat = B.length := by omega
    rw [e1] at ob ⊢
    rw [show (0 : Int).toNat = 0 from rfl, h.r] at ob
    exact ⟨_, rfl, byts_mk rfl (Nat.le_refl _) (by omega) ob.range, k⟩
theorem quiet_d {P : Program} {f : FuncId} {args : Array Value} {w : World} {n : Nat} {v : Value}
    (h : Calls P f args (w.drewN n) fun e w' => e = .returned v ∧ ∃ m, w' = (w.drewN n).drewN m) : Calls P f args (w.drewN n) fun e w'' => e = .returned v ∧ ∃ m, w'' = w.drewN m :=
  h.mono fun _ _ ⟨he, m, hm⟩ => ⟨he, n + m, by rw [hm]; simp [World.drewN, Nat.add_assoc]⟩
/-- a slice of texts that came in -/
def Texts (w : World) (A : Option Addr) (n : Nat) (T : List (List UInt8)) : Prop := T.length = n ∧ (0 < n → ∃ b o, A = some ⟨b, o, none⟩ ∧ ∀ i s, T[i]? = some s → w.cell? ⟨b, o + i, none⟩ = some (.string (bstr s)))
theorem bstr_take (s : List UInt8) (n : Nat) : (bstr s).extract 0 n = bstr (s.take n) := by rw [bstr_extract]; simp
end Go.Proofs.YtiiogglflpladaaDoor
