/- The device's methods, by the pointer; the law's awake: what is done. -/
import Derived.Test.Ytpbmkokjjcdhfaa4L
import Derived.Lib.SlBytesRow
import Derived.Deep.RegionLaw
namespace Go.Proofs.Ytpbmkokjjcdhfaa
set_option linter.unusedSimpArgs false
set_option linter.unusedVariables false
open Go.RowKit

def DP (r : Value) (S' : DS) (B P : Nat) (h : DH) (w : World) (e : Ending) (w' : World) : Prop := e = .returned r ∧ ∃ h', DevAt w' B h' S' ∧ Step h h' w w' ∧ h'.P = P
theorem DPost.at_ {r : Value} {S' : DS} {B P : Nat} {h : DH} {w : World} {e : Ending} {w' : World} (p : DPost r S' B h w e w') (hP : h.P = P) : DP r S' B P h w e w' := by
  obtain ⟨he, h', hd, hs⟩ := p
  exact ⟨he, h', hd, hs, hs.P.trans hP⟩
section
variable {w : World} {B P : Nat} {h : DH} {S : DS}
theorem write_at (i : Int) (vb : Value) (l : List UInt8) (w : World) (d : DevAt w B h S) (hP : h.P = P) (hb : BIn h w vb l) (hpl : S.pend.length ≤ 1000) (k : Int) (hk : wrE S i l.length = k) (S' : DS) (hS : wrS S i l = S') :
    Calls Try.prog 9 #[.pointer (some ⟨P, 0, none⟩), .int .i64 i, vb] w (DP (.int .i64 k) S' B P h w) := by
  subst hk; subst hS; subst hP
  exact (write_any i vb l w d hb hpl).mono fun _ _ p => p.at_ rfl
theorem crash_at (v : Value) (L : List Int) (w : World) (d : DevAt w B h S) (hP : h.P = P) (hL : NIn h w v L) (S' : DS) (hS : crS S L = S') : Calls Try.prog 13 #[.pointer (some ⟨P, 0, none⟩), v] w (DP (.tuple #[]) S' B P h w) := by
  subst hS; subst hP
  exact (crash_any v L w d hL).mono fun _ _ p => p.at_ rfl
theorem flush_at (w : World) (d : DevAt w B h S) (hP : h.P = P) (k : Int) (hk : spendE S = k) (S' : DS) (hS : flS S = S') : Calls Try.prog 11 #[.pointer (some ⟨P, 0, none⟩)] w (DP (.int .i64 k) S' B P h w) := by
  subst hk; subst hS; subst hP
  exact (flush_any w d).mono fun _ _ p => p.at_ rfl
theorem on_at (w : World) (d : DevAt w B h S) (hP : h.P = P) (S' : DS) (hS : { S with pow := true, bud := -1, pend := [] } = S') : Calls Try.prog 14 #[.pointer (some ⟨P, 0, none⟩)] w (DP (.tuple #[]) S' B P h w) := by
  subst hS; subst hP
  exact (on_any w d).mono fun _ _ p => p.at_ rfl
theorem fault_at (i k : Int) (w : World) (d : DevAt w B h S) (hP : h.P = P) (hfn : S.fn ≤ 1000) (r : Int) (hr : fltE S i k = r) (S' : DS) (hS : (if fltE S i k = 0 then fltS S i k else S) = S') : Calls Try.prog 16 #[.pointer (some ⟨P, 0, none⟩), .int .i64 i, .int .i64 k] w (DP (.int .i64 r) S' B P h w) := by
  subst hr; subst hS; subst hP
  exact (fault_any i k w d hfn).mono fun _ _ p => p.at_ rfl
theorem budget_at (k : Int) (w : World) (d : DevAt w B h S) (hP : h.P = P) (hk : k ≤ 9223372036854775807) (hk1 : -1 ≤ k) (S' : DS) (hS : { S with bud := k } = S') : Calls Try.prog 26 #[.pointer (some ⟨P, 0, none⟩), .int .i64 k] w (DP (.int .i64 0) S' B P h w) := by
  subst hS; subst hP
  have := budget_any k w d hk
  rw [if_pos hk1, if_pos hk1] at this
  exact this.mono fun _ _ p => p.at_ rfl
theorem mount_at (b : Bool) (w : World) (d : DevAt w B h S) (hP : h.P = P) (S' : DS) (hS : { S with mnt := b } = S') : Calls Try.prog 17 #[.pointer (some ⟨P, 0, none⟩), .bool b] w (DP (.tuple #[]) S' B P h w) := by
  subst hS; subst hP
  exact (mount_any b w d).mono fun _ _ p => p.at_ rfl
theorem has_at (i : Int) (w : World) (d : DevAt w B h S) (hP : h.P = P) (l : List UInt8) (hl : hasL S i = l) (k : Int) (hk : hasE S i = k) : Calls Try.prog 18 #[.pointer (some ⟨P, 0, none⟩), .int .i64 i] w (BPost l k w) := by
  subst hl; subst hk; subst hP
  exact has_any i w d
theorem read_at (i : Int) (w : World) (d : DevAt w B h S) (hP : h.P = P) (l : List UInt8) (hl : rdL S i = l) (k : Int) (hk : rdE S i = k) : Calls Try.prog 12 #[.pointer (some ⟨P, 0, none⟩), .int .i64 i] w (BPost l k w) := by
  subst hl; subst hk; subst hP
  exact read_any i w d
theorem power_at (w : World) (d : DevAt w B h S) (hP : h.P = P) (b : Bool) (hb : S.pow = b) : Calls Try.prog 19 #[.pointer (some ⟨P, 0, none⟩)] w fun e w' => e = .returned (.bool b) ∧ w = w' := by
  subst hb; subst hP
  exact power_any w d
theorem nin_one {h : DH} {w : World} {g : Nat} {x : Int} (ho : Out h w g) (hc : w.cell? ⟨g, 0, none⟩ = some (.int .i64 x)) : NIn h w (.slice (some ⟨g, 0, none⟩) 1 1) [x] :=
  ⟨_, 1, rfl, by simp, by omega, fun _ => ⟨g, 0, rfl, ho, fun i hi => by
    obtain rfl : i = 0 := by simpa using hi
    exact hc⟩⟩
end
def rep (c : UInt8) : List UInt8 := List.replicate 128 c
theorem rep_len (c : UInt8) : (rep c).length = 128 := List.length_replicate
theorem all_at (c : UInt8) (x : Int) (hx : (c.toNat : Int) = x) (w : World) : Calls Try.prog 10 #[.int .u8 x] w fun e w' => ∃ g, e = .returned (.slice (some ⟨g, 0, none⟩) 128 128) ∧ OBlk w' g 5 (rep c) ∧ w.heap.size ≤ g ∧ Kept w w' := by
  subst hx; exact all_any c w
theorem all_bin {w w' : World} {B : Nat} {h : DH} {S : DS} {g : Nat} {c : UInt8} (d : DevAt w B h S) (k : Kept w w') (ob : OBlk w' g 5 (rep c)) (hg : w.heap.size ≤ g) : BIn h w' (.slice (some ⟨g, 0, none⟩) 128 128) (rep c) :=
  ob.bin ⟨ob.lt, d.new_out hg⟩ (rep_len c)

/-- octets as a text -/
def bstr (l : List UInt8) : ByteArray := ⟨l.toArray⟩
theorem bstr_size (l : List UInt8) : (bstr l).size = l.length := by simp [bstr, ByteArray.size]
theorem conv_blk {w : World} {b o n : Nat} (l : List UInt8) (hl : l.length = n) (hr : w.rangeAt b o (bcells l)) (cap : Nat) : (convert 31 9 (.slice (some ⟨b, o, none⟩) n cap)).run Try.prog w = .ok (.string (bstr l)) w := by
  have h := Lib.run_convert_whole (P := Try.prog) w 31 5 9 Try.underlying31 Try.underlying5 Try.underlying9 b o (bstr l) (fun i hi => by
    rw [bstr_size] at hi
    have := hr i _ (bcells_at l i hi)
    rw [this, List.getD_eq_getElem?_getD, List.getElem?_eq_getElem hi]
    rfl) cap
  rwa [bstr_size, hl] at h
theorem Kept.setCells {w w1 : World} (h : Kept w w1) {g : Nat} (hg : w.heap.size ≤ g) (o : Nat) (vs : List Value) : Kept w (w1.setCells g o vs) := by
  obtain ⟨o1, o2, o3⟩ := setCells_os vs w1 g o
  exact ⟨o1.trans h.os, o2.trans h.tape, o3.trans h.output, by rw [size_setCells]; exact h.size, fun k hk => (heap_setCells_ne vs w1 g o k (by omega)).trans (h.block k hk)⟩
theorem Kept.oblk {w w1 : World} (k : Kept w w1) {g : Nat} {t : TypeId} {l : List UInt8} (ob : OBlk w g t l) : OBlk w1 g t l := ob.of_heap (k.block _ ob.lt)
/-- the states of the chapter's examples -/
def a1 : DS := wrS (newS 2) 1 (rep 7)
def a2 : DS := crS a1 [5]
def a3 : DS := { a2 with pow := true, bud := -1, pend := [] }
def a4 : DS := fltS a3 0 1
def a5 : DS := wrS a4 0 (rep 1)
def a6 : DS := { a5 with bud := 1 }
def a7 : DS := wrS a6 0 (rep 2)
theorem a_e1 : wrE (newS 2) 1 (rep 7).length = 0 := by decide +kernel
theorem a_e2 : hasE a2 1 = 0 := by decide +kernel
theorem a_l2 : hasL a2 1 = List.replicate 5 7 ++ List.replicate 123 0 := by decide +kernel
theorem a_e4 : fltE a3 0 1 = 0 := by decide +kernel
theorem a_r4 : rdE a4 0 = 9 := by decide +kernel
theorem a_e5 : wrE a4 0 (rep 1).length = 0 := by decide +kernel
theorem a_e7 : wrE a6 0 (rep 2).length = 0 := by decide +kernel
theorem a_e8 : spendE a7 = 10 := by decide +kernel
end Go.Proofs.Ytpbmkokjjcdhfaa
