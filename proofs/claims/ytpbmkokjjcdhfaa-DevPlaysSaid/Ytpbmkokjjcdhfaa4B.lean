/- The device in memory; what a call of its methods leaves alone. -/
import Derived.Test.Ytpbmkokjjcdhfaa4A
namespace Go.Proofs.Ytpbmkokjjcdhfaa
set_option linter.unusedSimpArgs false
set_option linter.unusedVariables false
open Go.RowKit

/-- a device -/
structure DS where
  n : Nat
  blk : Nat → List UInt8
  pend : List (Nat × List UInt8)
  flt : Int → Option Int
  fn : Nat
  bud : Int
  pow : Bool
  mnt : Bool
/-- where it lies -/
structure DH where
  P : Nat
  gB : Nat
  gN : Nat
  gF : Nat
  vp : Value

def pcells : List (Nat × List UInt8) → List Value
  | [] => []
  | p :: r => (.int .i64 (p.1 : Int) :: bcells p.2) ++ pcells r
theorem pcells_snoc (l : List (Nat × List UInt8)) (p : Nat × List UInt8) : pcells (l ++ [p]) = pcells l ++ (.int .i64 (p.1 : Int) :: bcells p.2) := by
  induction l with
  | nil => simp [pcells]
  | cons a r ih => rw [List.cons_append, pcells, ih, pcells]; simp
/-- the last write that waits, of each block -/
def nmStep (a : Nat × (Int → Option Int)) (p : Nat × List UInt8) : Nat × (Int → Option Int) := (a.1 + 1, fun i => if i = (p.1 : Int) then some (a.1 : Int) else a.2 i)
def nmS (l : List (Nat × List UInt8)) : Nat × (Int → Option Int) := l.foldl nmStep (0, fun _ => none)
def nmF (l : List (Nat × List UInt8)) : Int → Option Int := (nmS l).2
theorem nmS_len (l : List (Nat × List UInt8)) : (nmS l).1 = l.length := by
  have : ∀ (l : List (Nat × List UInt8)) (a : Nat × (Int → Option Int)), (l.foldl nmStep a).1 = a.1 + l.length := by
    intro l
    induction l with
    | nil => intro a; rfl
    | cons x r ih => intro a; rw [List.foldl_cons, ih, List.length_cons]; show a.1 + 1 + r.length = _; omega
  rw [nmS, this]; simp
theorem nmF_nil : nmF [] = fun _ => none := rfl
theorem nmF_snoc (l : List (Nat × List UInt8)) (p : Nat × List UInt8) : nmF (l ++ [p]) = fun i => if i = (p.1 : Int) then some (l.length : Int) else nmF l i := by
  have h := nmS_len l
  have e : nmS (l ++ [p]) = nmStep (nmS l) p := by simp [nmS, List.foldl_append]
  rw [nmF, e, ← h]; rfl
/-- what is read -/
def rdF (blk : Nat → List UInt8) (l : List (Nat × List UInt8)) (i : Nat) : List UInt8 := l.foldl (fun acc p => if p.1 = i then p.2 else acc) (blk i)
theorem rdF_snoc (blk : Nat → List UInt8) (l : List (Nat × List UInt8)) (p : Nat × List UInt8) (i : Nat) : rdF blk (l ++ [p]) i = if p.1 = i then p.2 else rdF blk l i := by
  simp [rdF, List.foldl_append]
theorem snoc_ind {α : Type} {P : List α → Prop} (h0 : P []) (h1 : ∀ l a, P l → P (l ++ [a])) (l : List α) : P l := by
  have : ∀ r : List α, P r.reverse := by
    intro r
    induction r with
    | nil => exact h0
    | cons a r ih => rw [List.reverse_cons]; exact h1 _ _ ih
  have h := this l.reverse
  rwa [List.reverse_reverse] at h
theorem rd_nm (blk : Nat → List UInt8) (l : List (Nat × List UInt8)) (i : Nat) :
    (nmF l (i : Int) = none ∧ rdF blk l i = blk i) ∨ (∃ k : Nat, nmF l (i : Int) = some (k : Int) ∧ ∃ h : k < l.length, l[k].2 = rdF blk l i) := by
  refine snoc_ind (P := fun l => (nmF l (i : Int) = none ∧ rdF blk l i = blk i) ∨ (∃ k : Nat, nmF l (i : Int) = some (k : Int) ∧ ∃ h : k < l.length, l[k].2 = rdF blk l i)) (.inl ⟨rfl, rfl⟩) ?_ l
  intro l p ih
  rw [nmF_snoc, rdF_snoc]
  dsimp only
  by_cases e : p.1 = i
  · subst e
    rw [if_pos rfl, if_pos rfl]
    exact .inr ⟨l.length, rfl, by simp, by simp⟩
  · rw [if_neg (by omega), if_neg e]
    rcases ih with h | ⟨k, h1, h2, h3⟩
    · exact .inl h
    · refine .inr ⟨k, h1, by simp; omega, ?_⟩
      rw [List.getElem_append_left h2]; exact h3
theorem nmF_range (l : List (Nat × List UInt8)) (i k : Int) (h : nmF l i = some k) : 0 ≤ k ∧ k < l.length := by
  revert i k
  refine snoc_ind (P := fun l => ∀ i k, nmF l i = some k → 0 ≤ k ∧ k < l.length) (fun i k h => by cases h) ?_ l
  intro l p ih i k h
  rw [nmF_snoc] at h
  dsimp only at h
  rw [List.length_append, List.length_cons, List.length_nil]
  split at h
  · cases h; omega
  · have := ih i k h; omega

structure DS.ok (S : DS) : Prop where
  n1 : 1 ≤ S.n
  n2 : S.n ≤ 8192
  blk : ∀ i, i < S.n → (S.blk i).length = 128
  pend : ∀ p ∈ S.pend, p.1 < S.n ∧ p.2.length = 128
  bud : -1 ≤ S.bud ∧ S.bud ≤ 9223372036854775807
  flt : ∀ i v, S.flt i = some v → 0 ≤ v ∧ v ≤ 3

def devCells (h : DH) (S : DS) : Array Value := #[.slice (some ⟨h.gB, 0, none⟩) S.n S.n, h.vp, .map (some h.gN), .map (some h.gF), .int .i64 S.bud, .bool S.pow, .bool S.mnt]
/-- block h.P is a device -/
structure DevAt (w : World) (B : Nat) (h : DH) (S : DS) : Prop where
  hP : w.heap[h.P]? = some (.cells (devCells h S) 62 (0, 0))
  hB : BlkT w h.gB 65 (S.n * 128) (devF S.blk)
  hp : w.ownsRow B 67 129 h.vp S.pend.length (pcells S.pend)
  hN : IMap w h.gN S.pend.length (nmF S.pend)
  hF : IMap w h.gF S.fn S.flt
  lo : B ≤ h.P ∧ B ≤ h.gB ∧ B ≤ h.gN ∧ B ≤ h.gF
  ne : h.gN ≠ h.gF
  ok : S.ok

/-- the blocks of a device -/
def foot (h : DH) (q : Nat) : Prop := q = h.P ∨ q = h.gB ∨ q = h.gN ∨ q = h.gF ∨ h.vp.ownBlock = some q
/-- a call of a method: the other blocks are as they were, and not the device's -/
structure Step (h h' : DH) (w w' : World) : Prop where
  os : w'.os = w.os
  tape : w'.tape = w.tape
  output : w'.output = w.output
  size : w.heap.size ≤ w'.heap.size
  block : ∀ q, q < w.heap.size → ¬ foot h q → w'.heap[q]? = w.heap[q]?
  out : ∀ q, q < w.heap.size → ¬ foot h q → ¬ foot h' q
  P : h'.P = h.P
theorem Step.refl (h : DH) (w : World) : Step h h w w := ⟨rfl, rfl, rfl, Nat.le_refl _, fun _ _ _ => rfl, fun _ _ h => h, rfl⟩
theorem Step.trans {h h1 h2 : DH} {w w1 w2 : World} (a : Step h h1 w w1) (b : Step h1 h2 w1 w2) : Step h h2 w w2 :=
  ⟨b.os.trans a.os, b.tape.trans a.tape, b.output.trans a.output, Nat.le_trans a.size b.size, fun q hq hf => (b.block q (Nat.lt_of_lt_of_le hq a.size) (a.out q hq hf)).trans (a.block q hq hf), fun q hq hf => b.out q (Nat.lt_of_lt_of_le hq a.size) (a.out q hq hf), b.P.trans a.P⟩
theorem Kept.step {w w' : World} (k : Kept w w') (h : DH) : Step h h w w' := ⟨k.os, k.tape, k.output, k.size, fun q hq _ => k.block q hq, fun _ _ h => h, rfl⟩
/-- a block of someone else's -/
def Out (h : DH) (w : World) (q : Nat) : Prop := q < w.heap.size ∧ ¬ foot h q
theorem Step.outs {h h' : DH} {w w' : World} (s : Step h h' w w') {q : Nat} (o : Out h w q) : Out h' w' q := ⟨Nat.lt_of_lt_of_le o.1 s.size, s.out q o.1 o.2⟩
theorem Step.heap {h h' : DH} {w w' : World} (s : Step h h' w w') {q : Nat} (o : Out h w q) : w'.heap[q]? = w.heap[q]? := s.block q o.1 o.2
theorem Step.keeps {h h' : DH} {w w' : World} (s : Step h h' w w') {b o : Nat} {sp : Option Nat} {v : Value} (ou : Out h w b) (hc : w.cell? ⟨b, o, sp⟩ = some v) : w'.cell? ⟨b, o, sp⟩ = some v :=
  (World.cell?_of_block (w := w) (a := ⟨b, o, sp⟩) (s.heap ou)).trans hc
theorem Step.frees {h h' : DH} {w w' : World} (s : Step h h' w w') {b o : Nat} {sp : Option Nat} {f : Bool} (ou : Out h w b) (hc : w.frozen? ⟨b, o, sp⟩ = f) : w'.frozen? ⟨b, o, sp⟩ = f :=
  (World.frozen?_of_block (w := w) (a := ⟨b, o, sp⟩) (s.heap ou)).trans hc

section
variable {w w' : World} {B : Nat} {h : DH} {S : DS}
theorem BlkT.cells (hb : BlkT w h.gB 65 (S.n * 128) (devF S.blk)) : ∃ cs, w.heap[h.gB]? = some (.cells cs 65 (0, 0)) := by obtain ⟨cs, h, -⟩ := hb; exact ⟨cs, h⟩
/-- the blocks are apart -/
structure Apart (h : DH) : Prop where
  PB : h.P ≠ h.gB
  PN : h.P ≠ h.gN
  PF : h.P ≠ h.gF
  BN : h.gB ≠ h.gN
  BF : h.gB ≠ h.gF
  NF : h.gN ≠ h.gF
  vP : h.vp.ownBlock ≠ some h.P
  vB : h.vp.ownBlock ≠ some h.gB
  vN : h.vp.ownBlock ≠ some h.gN
  vF : h.vp.ownBlock ≠ some h.gF
theorem row_block {base : Nat} {e : TypeId} {size n : Nat} {v : Value} {xs : List Value} (hr : w.ownsRow base e size v n xs) {q : Nat} (hq : v.ownBlock = some q) : ∃ cs, w.heap[q]? = some (.cells cs e (0, 0)) ∧ base ≤ q := by
  rcases hr.2 with ⟨rfl, _⟩ | ⟨g, cap, cur, rfl, hb, hg, _⟩
  · simp [Value.ownBlock] at hq
  · obtain rfl : g = q := by simpa [Value.ownBlock] using hq
    exact ⟨cur, hg, hb⟩
theorem DevAt.apart (d : DevAt w B h S) : Apart h := by
  obtain ⟨cs, hcs⟩ := d.hB.cells
  obtain ⟨e1, c1, h1⟩ := d.hN.isMap
  obtain ⟨e2, c2, h2⟩ := d.hF.isMap
  have hP := d.hP
  have key : ∀ {q : Nat} {o o' : Obj}, w.heap[q]? = some o → w.heap[q]? = some o' → o = o' := fun a b => by rw [a] at b; exact Option.some.inj b
  have tB : 65 ≠ 62 := by decide
  have tW : 67 ≠ 62 := by decide
  have tWB : 67 ≠ 65 := by decide
  refine ⟨fun e => ?_, fun e => ?_, fun e => ?_, fun e => ?_, fun e => ?_, d.ne, fun e => ?_, fun e => ?_, fun e => ?_, fun e => ?_⟩
  · rw [← e] at hcs; have := key hP hcs; injection this with _ ht; exact tB ht.symm
  · rw [← e] at h1; have := key hP h1; cases this
  · rw [← e] at h2; have := key hP h2; cases this
  · rw [← e] at h1; have := key hcs h1; cases this
  · rw [← e] at h2; have := key hcs h2; cases this
  · obtain ⟨c, hc, -⟩ := row_block d.hp e; have := key hP hc; injection this with _ ht; exact tW ht.symm
  · obtain ⟨c, hc, -⟩ := row_block d.hp e; have := key hcs hc; injection this with _ ht; exact tWB ht.symm
  · obtain ⟨c, hc, -⟩ := row_block d.hp e; have := key h1 hc; cases this
  · obtain ⟨c, hc, -⟩ := row_block d.hp e; have := key h2 hc; cases this
theorem DevAt.foot_lt (d : DevAt w B h S) {q : Nat} (hq : foot h q) : q < w.heap.size ∧ B ≤ q := by
  rcases hq with rfl | rfl | rfl | rfl | hq
  · exact ⟨(Array.getElem?_eq_some_iff.1 d.hP).1, d.lo.1⟩
  · exact ⟨d.hB.lt, d.lo.2.1⟩
  · exact ⟨d.hN.lt, d.lo.2.2.1⟩
  · exact ⟨d.hF.lt, d.lo.2.2.2⟩
  · obtain ⟨c, hc, hb⟩ := row_block d.hp hq
    exact ⟨(Array.getElem?_eq_some_iff.1 hc).1, hb⟩
/-- what is new is not the device's -/
theorem DevAt.new_out (d : DevAt w B h S) {q : Nat} (hq : w.heap.size ≤ q) : ¬ foot h q := fun hf => by have := (d.foot_lt hf).1; omega
theorem DevAt.low_out (d : DevAt w B h S) {q : Nat} (hq : q < B) : ¬ foot h q := fun hf => by have := (d.foot_lt hf).2; omega
theorem Kept.dev (k : Kept w w') (d : DevAt w B h S) : DevAt w' B h S :=
  ⟨(k.block _ (Array.getElem?_eq_some_iff.1 d.hP).1).trans d.hP, d.hB.of_heap (k.block _ d.hB.lt), k.row d.hp, d.hN.of_heap (k.block _ d.hN.lt), d.hF.of_heap (k.block _ d.hF.lt), d.lo, d.ne, d.ok⟩
theorem Step.below {h' : DH} (s : Step h h' w w') (d : DevAt w B h S) (hB : B ≤ w.heap.size) : Below B w w' := ⟨s.os, s.tape, s.output, s.size, fun k hk => s.block k (by omega) (d.low_out hk)⟩
theorem DevAt.size_le (d : DevAt w B h S) : B ≤ w.heap.size := by
  have h1 := d.lo.1
  have h2 := (Array.getElem?_eq_some_iff.1 d.hP).1
  omega
/-- the device's cells -/
theorem DevAt.c0 (d : DevAt w B h S) : w.cell? ⟨h.P, 0, none⟩ = some (.slice (some ⟨h.gB, 0, none⟩) S.n S.n) := by simp [World.cell?, d.hP, devCells]
theorem DevAt.c1 (d : DevAt w B h S) : w.cell? ⟨h.P, 1, none⟩ = some h.vp := by simp [World.cell?, d.hP, devCells]
theorem DevAt.c2 (d : DevAt w B h S) : w.cell? ⟨h.P, 2, none⟩ = some (.map (some h.gN)) := by simp [World.cell?, d.hP, devCells]
theorem DevAt.c3 (d : DevAt w B h S) : w.cell? ⟨h.P, 3, none⟩ = some (.map (some h.gF)) := by simp [World.cell?, d.hP, devCells]
theorem DevAt.c4 (d : DevAt w B h S) : w.cell? ⟨h.P, 4, none⟩ = some (.int .i64 S.bud) := by simp [World.cell?, d.hP, devCells]
theorem DevAt.c5 (d : DevAt w B h S) : w.cell? ⟨h.P, 5, none⟩ = some (.bool S.pow) := by simp [World.cell?, d.hP, devCells]
theorem DevAt.c6 (d : DevAt w B h S) : w.cell? ⟨h.P, 6, none⟩ = some (.bool S.mnt) := by simp [World.cell?, d.hP, devCells]
theorem DevAt.fz (d : DevAt w B h S) (o : Nat) : w.frozen? ⟨h.P, o, none⟩ = false := by simp [World.frozen?, d.hP]
/-- a field of the device is set -/
theorem heap_field {w : World} {P o : Nat} {cs : Array Value} {t : TypeId} (hP : w.heap[P]? = some (.cells cs t (0, 0))) (v : Value) : (w.setCell ⟨P, o, none⟩ v).heap[P]? = some (.cells (cs.setIfInBounds o v) t (0, 0)) := by
  simp [World.setCell, Array.getElem?_modify, hP]
theorem Step.field (d : DevAt w B h S) (o : Nat) (v : Value) : Step h h w (w.setCell ⟨h.P, o, none⟩ v) :=
  ⟨rfl, rfl, rfl, by simp [World.setCell], fun q _ hq => Below.heap_setCell _ _ _ _ (fun e => hq (.inl e)), fun _ _ h => h, rfl⟩
theorem DevAt.field (d : DevAt w B h S) (o : Nat) (v : Value) (S' : DS) (hc : (devCells h S).setIfInBounds o v = devCells h S') (e1 : S'.n = S.n) (e2 : S'.blk = S.blk) (e3 : S'.pend = S.pend) (e4 : S'.flt = S.flt) (e5 : S'.fn = S.fn) (ok : S'.ok) :
    DevAt (w.setCell ⟨h.P, o, none⟩ v) B h S' := by
  have a := d.apart
  refine ⟨by rw [heap_field d.hP, hc], ?_, ?_, ?_, ?_, d.lo, d.ne, ok⟩
  · rw [e1, e2]; exact d.hB.of_heap (Below.heap_setCell _ _ _ _ a.PB.symm)
  · rw [e3]; exact ownsRow_setCell_other d.hp a.vP _
  · rw [e3]; exact d.hN.of_heap (Below.heap_setCell _ _ _ _ a.PN.symm)
  · rw [e4, e5]; exact d.hF.of_heap (Below.heap_setCell _ _ _ _ a.PF.symm)
theorem DevAt.drew (d : DevAt w B h S) : DevAt w.drew B h S := (Kept.refl w).drew.dev d
end
end Go.Proofs.Ytpbmkokjjcdhfaa
