/- Both devices at once. -/
import Derived.Test.Ytpbmkokjjcdhfaa4ZG
namespace Go.Proofs.Ytpbmkokjjcdhfaa
set_option linter.unusedSimpArgs false
set_option linter.unusedVariables false
open Go.RowKit

theorem new_bad (n : Int) (h : n < 1 ∨ 8192 < n) (w : World) : Calls Try.prog 8 #[.int .i64 n] w fun e w' => e = .returned (.tuple #[.pointer none, .int .i64 1]) ∧ w = w' := by
  by_cases h1 : n < 1
  · go_enter Try.func8, Try.ntmps8
    go_wp2
    go_ret2
    exact ⟨rfl, rfl⟩
  · have h2 : 8192 < n := by omega
    have h1' : decide (n < 1) = false := decide_eq_false h1
    clear h h1
    go_enter Try.func8, Try.ntmps8
    go_wp2
    go_ret2
    exact ⟨rfl, rfl⟩
theorem conv_nil (w : World) : (convert 31 9 (.slice none 0 0)).run Try.prog w = .ok (.string (bstr [])) w := by
  rw [run_convert_bytes_string w _ _ 5 none 0 0 Try.underlying31 Try.underlying5 Try.underlying9]
  rfl
theorem conv_bout {base : Nat} {w : World} {v : Value} {l : List UInt8} (h : BOut base w v l) : ∃ A n c, v = .slice A n c ∧ (n = 0 ↔ l = []) ∧ (convert 31 9 (.slice A n c)).run Try.prog w = .ok (.string (bstr l)) w := by
  rcases h with ⟨rfl, rfl⟩ | ⟨g, rfl, hl, ob, -⟩
  · exact ⟨none, 0, 0, rfl, by simp, conv_nil w⟩
  · exact ⟨_, 128, 128, rfl, ⟨(fun e => by cases e), (fun e => by rw [e] at hl; cases hl)⟩, conv_blk (n := 128) l hl ob.range 128⟩
theorem RefAt.lower {w : World} {B B' : Nat} {h : RH} {S : DS} (r : RefAt w B h S) (hB : B' ≤ B) : RefAt w B' h S :=
  ⟨r.hP, ownsRow_base r.hH hB, ownsRow_base r.hF hB, ownsRow_base r.hL hB, by have := r.lo; omega⟩
/-- the program's device and the document's, in one memory -/
structure Two (w : World) (B P R : Nat) (S T : DS) (h : DH) (r : RH) : Prop where
  d : DevAt w B h S
  rr : RefAt w B r T
  hP : h.P = P
  rP : r.P = R
/-- a call of either's method: the other blocks are as they were -/
structure BS (h : DH) (r : RH) (h' : DH) (r' : RH) (w w' : World) : Prop where
  os : w'.os = w.os
  tape : w'.tape = w.tape
  output : w'.output = w.output
  size : w.heap.size ≤ w'.heap.size
  block : ∀ q, q < w.heap.size → ¬ foot h q → ¬ rfoot r q → w'.heap[q]? = w.heap[q]?
  out : ∀ q, q < w.heap.size → ¬ foot h q → ¬ rfoot r q → ¬ foot h' q ∧ ¬ rfoot r' q
/-- a block of neither's -/
structure Free (h : DH) (r : RH) (w : World) (q : Nat) : Prop where
  lt : q < w.heap.size
  f : ¬ foot h q
  r : ¬ rfoot r q
section
variable {w w' : World} {B P R : Nat} {h h' : DH} {r r' : RH} {S S' T T' : DS}
theorem BS.refl (h : DH) (r : RH) (w : World) : BS h r h r w w := ⟨rfl, rfl, rfl, Nat.le_refl _, fun _ _ _ _ => rfl, fun _ _ a b => ⟨a, b⟩⟩
theorem BS.trans {h2 : DH} {r2 : RH} {w2 : World} (a : BS h r h' r' w w') (b : BS h' r' h2 r2 w' w2) : BS h r h2 r2 w w2 :=
  ⟨b.os.trans a.os, b.tape.trans a.tape, b.output.trans a.output, Nat.le_trans a.size b.size,
    fun q hq f g => (b.block q (Nat.lt_of_lt_of_le hq a.size) (a.out q hq f g).1 (a.out q hq f g).2).trans (a.block q hq f g),
    fun q hq f g => b.out q (Nat.lt_of_lt_of_le hq a.size) (a.out q hq f g).1 (a.out q hq f g).2⟩
theorem Kept.bs (k : Kept w w') (h : DH) (r : RH) : BS h r h r w w' := ⟨k.os, k.tape, k.output, k.size, fun q hq _ _ => k.block q hq, fun _ _ a b => ⟨a, b⟩⟩
theorem Kept.two (k : Kept w w') (t : Two w B P R S T h r) : Two w' B P R S T h r := ⟨k.dev t.d, k.ref t.rr, t.hP, t.rP⟩
theorem BS.free (b : BS h r h' r' w w') {q : Nat} (f : Free h r w q) : Free h' r' w' q := ⟨Nat.lt_of_lt_of_le f.lt b.size, (b.out q f.lt f.f f.r).1, (b.out q f.lt f.f f.r).2⟩
theorem BS.heap (b : BS h r h' r' w w') {q : Nat} (f : Free h r w q) : w'.heap[q]? = w.heap[q]? := b.block q f.lt f.f f.r
theorem BS.keeps (b : BS h r h' r' w w') {q o : Nat} {sp : Option Nat} {v : Value} (f : Free h r w q) (hc : w.cell? ⟨q, o, sp⟩ = some v) : w'.cell? ⟨q, o, sp⟩ = some v :=
  (World.cell?_of_block (w := w) (a := ⟨q, o, sp⟩) (b.heap f)).trans hc
theorem Two.new_free (t : Two w B P R S T h r) (k : Kept w w') {q : Nat} (hq : w.heap.size ≤ q) (hl : q < w'.heap.size) : Free h r w' q := ⟨hl, t.d.new_out hq, t.rr.new_out hq⟩
theorem Two.low_free (t : Two w B P R S T h r) {q : Nat} (hq : q < B) : Free h r w q := ⟨Nat.lt_of_lt_of_le hq t.d.size_le, t.d.low_out hq, t.rr.low_out hq⟩
theorem Two.kept {w0 : World} (t : Two w B P R S T h r) (b : BS h r h' r' w w') (hB : B = w0.heap.size) (k : Kept w0 w) : Kept w0 w' :=
  ⟨b.os.trans k.os, b.tape.trans k.tape, b.output.trans k.output, Nat.le_trans k.size b.size, fun q hq => (b.heap (t.low_free (by omega))).trans (k.block q hq)⟩
theorem Two.step (t : Two w B P R S T h r) (s : Step h h' w w') (d : DevAt w' B h' S') (hP : h'.P = P) : Two w' B P R S' T h' r ∧ BS h r h' r w w' := by
  have hr : ∀ q, rfoot r q → w'.heap[q]? = w.heap[q]? := fun q hq => s.block q (t.rr.foot_lt hq).1 (fun hf => two_apart t.d t.rr hf hq)
  exact ⟨⟨d, t.rr.of_heap hr, hP, t.rP⟩, ⟨s.os, s.tape, s.output, s.size, fun q hq f _ => s.block q hq f, fun q hq f g => ⟨s.out q hq f, g⟩⟩⟩
theorem DevAt.of_heap (d : DevAt w B h S) (k : ∀ q, foot h q → w'.heap[q]? = w.heap[q]?) : DevAt w' B h S :=
  ⟨(k _ (.inl rfl)).trans d.hP, d.hB.of_heap (k _ (.inr (.inl rfl))), row_of_heap d.hp fun q e => k q (.inr (.inr (.inr (.inr e)))), d.hN.of_heap (k _ (.inr (.inr (.inl rfl)))), d.hF.of_heap (k _ (.inr (.inr (.inr (.inl rfl))))), d.lo, d.ne, d.ok⟩
theorem Two.rstep (t : Two w B P R S T h r) (s : RStep r r' w w') (d : RefAt w' B r' T') : Two w' B P R S T' h r' ∧ BS h r h r' w w' := by
  have hr : ∀ q, foot h q → w'.heap[q]? = w.heap[q]? := fun q hq => s.block q (t.d.foot_lt hq).1 (fun hf => two_apart t.d t.rr hq hf)
  exact ⟨⟨t.d.of_heap hr, d, t.hP, s.P.trans t.rP⟩, ⟨s.os, s.tape, s.output, s.size, fun q hq _ g => s.block q hq g, fun q hq f g => ⟨f, s.out q hq g⟩⟩⟩
/-- a cell of neither's is set -/
theorem Two.setCell (t : Two w B P R S T h r) {q o : Nat} (f : ¬ foot h q) (g : ¬ rfoot r q) (v : Value) : Two (w.setCell ⟨q, o, none⟩ v) B P R S T h r :=
  ⟨t.d.of_heap fun p hp => Below.heap_setCell _ _ _ _ (fun e => f (by rw [← show p = q from e]; exact hp)), t.rr.of_heap fun p hp => Below.heap_setCell _ _ _ _ (fun e => g (by rw [← show p = q from e]; exact hp)), t.hP, t.rP⟩
/-- what a method of the program's does to both -/
def TPost (v : Value) (S' T : DS) (B P R : Nat) (h : DH) (r : RH) (w : World) (e : Ending) (w' : World) : Prop := e = .returned v ∧ ∃ h' r', Two w' B P R S' T h' r' ∧ BS h r h' r' w w'
theorem Two.dcall {f : FuncId} {args : Array Value} {v : Value} (t : Two w B P R S T h r) (c : Calls Try.prog f args w (DP v S' B P h w)) : Calls Try.prog f args w (TPost v S' T B P R h r w) :=
  c.mono fun _ _ ⟨he, h', hd, hs, hP⟩ => ⟨he, h', r, (t.step hs hd hP).1, (t.step hs hd hP).2⟩
theorem Two.dcallp {f : FuncId} {args : Array Value} {v : Value} (t : Two w B P R S T h r) (c : Calls Try.prog f args w (DPost v S' B h w)) : Calls Try.prog f args w (TPost v S' T B P R h r w) :=
  t.dcall (c.mono fun _ _ p => p.at_ t.hP)
theorem Two.rcall {f : FuncId} {args : Array Value} {v : Value} (t : Two w B P R S T h r) (c : Calls Try.prog f args w (RPost v T' B r w)) : Calls Try.prog f args w (TPost v S T' B P R h r w) :=
  c.mono fun _ _ ⟨he, r', hd, hs⟩ => ⟨he, h, r', (t.rstep hs hd).1, (t.rstep hs hd).2⟩

/-! the program's -/
theorem t_write (i : Int) (vb : Value) (l : List UInt8) (w : World) (t : Two w B P R S T h r) (hb : BIn h w vb l) (hpl : S.pend.length ≤ 1000) (n : Nat) (hn : l.length = n) : Calls Try.prog 9 #[.pointer (some ⟨P, 0, none⟩), .int .i64 i, vb] w (TPost (.int .i64 (wrE S i n)) (wrS S i l) T B P R h r w) := by
  subst hn
  rw [← t.hP]
  have := t.dcallp (write_any i vb l w t.d hb hpl)
  rwa [t.hP] at this ⊢
theorem t_flush (w : World) (t : Two w B P R S T h r) : Calls Try.prog 11 #[.pointer (some ⟨P, 0, none⟩)] w (TPost (.int .i64 (spendE S)) (flS S) T B P R h r w) := by
  have := t.dcallp (flush_any w t.d)
  rwa [t.hP] at this
theorem t_erase (w : World) (t : Two w B P R S T h r) : Calls Try.prog 20 #[.pointer (some ⟨P, 0, none⟩)] w (TPost (.int .i64 (spendE S)) (eraS S) T B P R h r w) := by
  have := t.dcallp (erase_any w t.d)
  rwa [t.hP] at this
theorem t_budget (k : Int) (w : World) (t : Two w B P R S T h r) (hk : k ≤ 9223372036854775807) : Calls Try.prog 26 #[.pointer (some ⟨P, 0, none⟩), .int .i64 k] w (TPost (.int .i64 (if -1 ≤ k then 0 else 1)) (if -1 ≤ k then { S with bud := k } else S) T B P R h r w) := by
  have := t.dcallp (budget_any k w t.d hk)
  rwa [t.hP] at this
theorem t_crash (v : Value) (L : List Int) (w : World) (t : Two w B P R S T h r) (hL : NIn h w v L) : Calls Try.prog 13 #[.pointer (some ⟨P, 0, none⟩), v] w (TPost (.tuple #[]) (crS S L) T B P R h r w) := by
  have := t.dcallp (crash_any v L w t.d hL)
  rwa [t.hP] at this
theorem t_on (w : World) (t : Two w B P R S T h r) : Calls Try.prog 14 #[.pointer (some ⟨P, 0, none⟩)] w (TPost (.tuple #[]) { S with pow := true, bud := -1, pend := [] } T B P R h r w) := by
  have := t.dcallp (on_any w t.d)
  rwa [t.hP] at this
theorem t_fault (i k : Int) (w : World) (t : Two w B P R S T h r) (hfn : S.fn ≤ 1000) : Calls Try.prog 16 #[.pointer (some ⟨P, 0, none⟩), .int .i64 i, .int .i64 k] w (TPost (.int .i64 (fltE S i k)) (if fltE S i k = 0 then fltS S i k else S) T B P R h r w) := by
  have := t.dcallp (fault_any i k w t.d hfn)
  rwa [t.hP] at this
theorem t_mount (b : Bool) (w : World) (t : Two w B P R S T h r) : Calls Try.prog 17 #[.pointer (some ⟨P, 0, none⟩), .bool b] w (TPost (.tuple #[]) { S with mnt := b } T B P R h r w) := by
  have := t.dcallp (mount_any b w t.d)
  rwa [t.hP] at this
theorem t_spoil (i : Int) (vb : Value) (l : List UInt8) (w : World) (t : Two w B P R S T h r) (hb : BIn h w vb l) (n : Nat) (hn : l.length = n) : Calls Try.prog 29 #[.pointer (some ⟨P, 0, none⟩), .int .i64 i, vb] w (TPost (.int .i64 (spE S i n)) (spS S i l) T B P R h r w) := by
  subst hn
  have := t.dcallp (spoil_any i vb l w t.d hb)
  rwa [t.hP] at this
theorem t_has (i : Int) (w : World) (t : Two w B P R S T h r) : Calls Try.prog 18 #[.pointer (some ⟨P, 0, none⟩), .int .i64 i] w (BPost (hasL S i) (hasE S i) w) := by
  have := has_any i w t.d
  rwa [t.hP] at this
theorem t_read (i : Int) (w : World) (t : Two w B P R S T h r) : Calls Try.prog 12 #[.pointer (some ⟨P, 0, none⟩), .int .i64 i] w (BPost (rdL S i) (rdE S i) w) := by
  have := read_any i w t.d
  rwa [t.hP] at this
/-! the document's -/
theorem r_write (i : Int) (l : List UInt8) (w : World) (t : Two w B P R S T h r) (ok : T.ok) (hpl : T.pend.length ≤ 1000) (n : Nat) (hn : l.length = n) : Calls Try.prog 24 #[.pointer (some ⟨R, 0, none⟩), .int .i64 i, .string (bstr l)] w (TPost (.int .i64 (wrE T i n)) S (wrS T i l) B P R h r w) := by
  subst hn
  have := t.rcall (rwrite_any i l w t.rr ok hpl)
  rwa [t.rP] at this
theorem r_flush (w : World) (t : Two w B P R S T h r) (ok : T.ok) : Calls Try.prog 25 #[.pointer (some ⟨R, 0, none⟩)] w (TPost (.int .i64 (spendE T)) S (flS T) B P R h r w) := by
  have := t.rcall (rflush_any w t.rr ok)
  rwa [t.rP] at this
theorem r_erase (w : World) (t : Two w B P R S T h r) (ok : T.ok) : Calls Try.prog 30 #[.pointer (some ⟨R, 0, none⟩)] w (TPost (.int .i64 (spendE T)) S (eraS T) B P R h r w) := by
  have := t.rcall (rerase_any w t.rr ok)
  rwa [t.rP] at this
theorem r_crash (v : Value) (L : List Int) (w : World) (t : Two w B P R S T h r) (ok : T.ok) (hL : RIn r w v L) : Calls Try.prog 27 #[.pointer (some ⟨R, 0, none⟩), v] w (TPost (.tuple #[]) S (crS T L) B P R h r w) := by
  have := t.rcall (rcrash_any v L w t.rr ok hL)
  rwa [t.rP] at this
theorem r_on (w : World) (t : Two w B P R S T h r) : Calls Try.prog 28 #[.pointer (some ⟨R, 0, none⟩)] w (TPost (.tuple #[]) S { T with pow := true, bud := -1, pend := [] } B P R h r w) := by
  have := t.rcall (ron_any w t.rr)
  rwa [t.rP] at this
theorem r_read (i : Int) (w : World) (t : Two w B P R S T h r) (ok : T.ok) : Calls Try.prog 23 #[.pointer (some ⟨R, 0, none⟩), .int .i64 i] w (RdPost (rdL T i) (rdE T i) w) := by
  have := rread_any i w t.rr ok
  rwa [t.rP] at this
theorem t_same (w : World) (t : Two w B P R S S h r) (hpl : S.pend.length ≤ 1000) : Calls Try.prog 31 #[.pointer (some ⟨P, 0, none⟩), .pointer (some ⟨R, 0, none⟩)] w fun e w' => e = .returned (.bool true) ∧ Kept w w' := by
  have := same_any w t.d t.rr hpl
  rwa [t.hP, t.rP] at this
/-- a field of the document's -/
theorem Two.field (t : Two w B P R S T h r) (o : Nat) (v : Value) (T' : DS) (hc : (rcells r T).setIfInBounds o v = rcells r T') (e1 : T'.n = T.n) (e2 : T'.blk = T.blk) (e3 : T'.pend = T.pend) (e4 : T'.flt = T.flt) :
    Two (w.setCell ⟨R, o, none⟩ v) B P R S T' h r ∧ BS h r h r w (w.setCell ⟨R, o, none⟩ v) := by
  have a := t.rr.field o v T' hc e1 e2 e3 e4
  have b := RStep.field (w := w) (h := r) o v
  rw [t.rP] at a b
  exact t.rstep b a
end
end Go.Proofs.Ytpbmkokjjcdhfaa
