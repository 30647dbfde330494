/- Checksums: Sum. -/
import Derived.Test.YtiiogglflpladaaDoorNB
import Derived.WalkMore
namespace Go.Proofs.YtiiogglflpladaaDoor
set_option linter.unusedSimpArgs false
set_option linter.unusedVariables false
open Go.RowKit

def tabHL : List Int := [0, 274646895, 549293790, 820201905, 1098587580, 1361435347, 1640403810, 1905808397, 2197175160, 2460548119, 2722870694, 2987750089, 3280807620, 3553878443, 3811616794, 4084100981]
/-- crc's table -/
def HTab (w : World) : Prop := ∀ k, k < 16 → w.cell? ⟨1, k, none⟩ = some (.int .u32 (tabHL.getD k 0))
theorem Kept.htab {w w1 : World} (k : Kept w w1) (h : HTab w) : HTab w1 := fun i hi => k.keeps (h i hi)
def hstep (a : Int) : Int := bits .xor .u32 (a / 16) (tabHL.getD (a % 16).toNat 0)
def stepW (x : Int) (c : UInt8) : Int := hstep (hstep (bits .xor .u32 x (c.toNat : Int)))
def wordF (l : List UInt8) : Int := l.foldl stepW 4294967295
def sumF (l : List UInt8) : Int := bits .xor .u32 4294967295 (wordF l)
theorem xor32_range (x y : Int) : 0 ≤ bits .xor .u32 x y ∧ bits .xor .u32 x y < 4294967296 := by
  have : bits .xor .u32 x y = IntKind.u32.wrap ((BitVec.ofInt 32 x ^^^ BitVec.ofInt 32 y).toNat : Int) := rfl
  rw [this, IntKind.wrap_u32]
  omega
theorem hstep_range (a : Int) : 0 ≤ hstep a ∧ hstep a < 4294967296 := xor32_range _ _
theorem stepW_range (x : Int) (c : UInt8) : 0 ≤ stepW x c ∧ stepW x c < 4294967296 := hstep_range _
theorem sumF_range (l : List UInt8) : 0 ≤ sumF l ∧ sumF l < 4294967296 := xor32_range _ _
theorem wordF_snoc (l : List UInt8) (c : UInt8) : wordF (l ++ [c]) = stepW (wordF l) c := by simp [wordF, List.foldl_append]
theorem foldl_range (l : List UInt8) (x : Int) (h : 0 ≤ x ∧ x < 4294967296) : 0 ≤ l.foldl stepW x ∧ l.foldl stepW x < 4294967296 := by
  induction l generalizing x with
  | nil => exact h
  | cons c r ih => exact ih _ (stepW_range x c)
theorem wordF_range (l : List UInt8) : 0 ≤ wordF l ∧ wordF l < 4294967296 := foldl_range l _ (by omega)
theorem wraps_u32 (n : Int) (h₀ : 0 ≤ n) (h₁ : n < 2 ^ 32) : IntKind.u32.wrap n = n := by rw [IntKind.wrap_u32]; omega
theorem and15 (x : Int) (h0 : 0 ≤ x) (h1 : x < 4294967296) : bits .and .u32 x 15 = x % 16 := bits_mask .u32 32 (by decide) wraps_u32 4 (by decide) x h0 (by omega)
theorem take_snocU (l : List UInt8) (k : Nat) (hk : k < l.length) : l.take (k + 1) = l.take k ++ [l.getD k 0] := by
  rw [List.take_add_one, List.getElem?_eq_getElem hk, List.getD_eq_getElem?_getD, List.getElem?_eq_getElem hk]; rfl
theorem u8_nat (c : UInt8) : (c.toNat : Int) < 256 := by have := c.toNat_lt; omega

set_option maxHeartbeats 2000000 in
theorem sum_any (vb : Value) (l : List UInt8) (g c : Nat) (w : World) (hT : HTab w) (hc : w.cell? ⟨g, 0, none⟩ = some vb) (hB : Byts w vb l) :
    Calls Tryd.prog 48 #[.slice (some ⟨g, 0, none⟩) 1 c] w fun e w' => e = .returned (.int .u32 (sumF l)) ∧ w = w' := by
  obtain ⟨A, cap, rfl⟩ := hB.shape
  obtain ⟨-, hc1, hc2, -, -⟩ := hB.open_
  have HT := hid hT; have HB := hid hB
  obtain ⟨n, hn⟩ : ∃ n, l.length = n := ⟨_, rfl⟩
  rw [hn] at HB hc hc1
  have HN := hid hn
  clear hT hB hn
  go_enter Tryd.func48, Tryd.ntmps48
  go_wp2
  go_loopw [10, 3] (fun t tw wr => ∃ i : Nat, i ≤ 1 ∧ t = .int .i64 i ∧ tw = .int .u32 (if i = 0 then 4294967295 else wordF l) ∧ w = wr) (fun t _ _ => 1 - (intOf t).toNat)
  case atStart => exact ⟨0, by omega, rfl, rfl, rfl⟩
  case round =>
    obtain ⟨i, hi, rfl, rfl, rfl⟩ := hrel
    rcases (by omega : i = 0 ∨ i = 1) with rfl | rfl
    · go_wp2
      go_loopw [16, 3] (fun t tw wr => ∃ k : Nat, k ≤ n ∧ t = .int .i64 k ∧ tw = .int .u32 (wordF (l.take k)) ∧ w = wr) (fun t _ _ => n - (intOf t).toNat)
      case atStart => exact ⟨0, by omega, rfl, rfl, rfl⟩
      case round =>
        obtain ⟨k, hk, rfl, rfl, rfl⟩ := hrel
        by_cases hlt : k < n
        · obtain ⟨b, o, rfl, hx⟩ := HB.out.cell k hlt
          have hsn := take_snocU l k (by rw [HN.out]; exact hlt)
          have HW := hid (show wordF (l.take (k + 1)) = stepW (wordF (l.take k)) (l.getD k 0) by rw [hsn, wordF_snoc])
          obtain ⟨wd0, wd1⟩ := wordF_range (l.take k)
          have hu := u8_nat (l.getD k 0)
          have hun : 0 ≤ ((l.getD k 0).toNat : Int) := by omega
          clear hsn
          unfold stepW at HW
          generalize wordF (l.take k) = x at *
          generalize ((l.getD k 0).toNat : Int) = u at *
          have hu0 : IntKind.u32.wrap u = u := wraps_u32 u hun (by omega)
          obtain ⟨a, ha⟩ : ∃ a, bits .xor .u32 x u = a := ⟨_, rfl⟩
          obtain ⟨a0, a1⟩ := xor32_range x u
          rw [ha] at a0 a1 HW
          obtain ⟨q, hq⟩ : ∃ q : Nat, a % 16 = (q : Int) := ⟨(a % 16).toNat, by omega⟩
          have hq16 : q < 16 := by omega
          have hand := and15 a a0 a1
          rw [hq] at hand
          have t1 := HT.out q hq16
          obtain ⟨d, hd⟩ : ∃ d, bits .xor .u32 (a / 16) (tabHL.getD q 0) = d := ⟨_, rfl⟩
          have hd2 : hstep a = d := by rw [hstep, hq, Int.toNat_natCast, hd]
          obtain ⟨d0, d1⟩ := hstep_range a
          rw [hd2] at d0 d1 HW
          obtain ⟨q', hq'⟩ : ∃ q' : Nat, d % 16 = (q' : Int) := ⟨(d % 16).toNat, by omega⟩
          have hq16' : q' < 16 := by omega
          have hand' := and15 d d0 d1
          rw [hq'] at hand'
          have t2 := HT.out q' hq16'
          obtain ⟨f, hf⟩ : ∃ f, bits .xor .u32 (d / 16) (tabHL.getD q' 0) = f := ⟨_, rfl⟩
          have hf2 : hstep d = f := by rw [hstep, hq', Int.toNat_natCast, hf]
          rw [hf2] at HW
          clear hd2 hf2 a0 a1 d0 d1 wd0 wd1 hq hq'
          generalize tabHL.getD q 0 = th1 at *
          generalize tabHL.getD q' 0 = th2 at *
          have p1 : (0 : Int) ≤ (q : Int) := by omega
          have p2 : (q : Int) < 16 := by omega
          have p3 : (0 : Int) ≤ (q' : Int) := by omega
          have p4 : (q' : Int) < 16 := by omega
          have p5 : (0 : Int) ≤ (k : Int) := by omega
          have p6 : (k : Int) < (n : Int) := by omega
          go_wp2
          go_roundw
          case rel => exact ⟨k + 1, by omega, by go_num, by rw [HW.out], by first | rfl | trivial⟩
          case measure => simp [intOf]; omega
        · obtain rfl : k = n := by omega
          have hall : l.take k = l := List.take_of_length_le (by rw [HN.out]; exact Nat.le_refl _)
          rw [hall]
          have hlt2 : ¬ (k : Int) < (k : Int) := by omega
          go_wp2
          go_roundw
          case rel => exact ⟨1, by omega, by go_num, rfl, by first | rfl | trivial⟩
          case measure => simp [intOf]
    · go_wp2
      go_ret
      exact ⟨rfl, rfl⟩
end Go.Proofs.YtiiogglflpladaaDoor
