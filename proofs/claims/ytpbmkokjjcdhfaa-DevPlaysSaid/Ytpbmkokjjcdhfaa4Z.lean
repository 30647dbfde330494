/- The document's device in memory: words for it. -/
import Derived.Test.Ytpbmkokjjcdhfaa4S
namespace Go.Proofs.Ytpbmkokjjcdhfaa
set_option linter.unusedSimpArgs false
set_option linter.unusedVariables false
open Go.RowKit

/-- where the document's device lies: its block, its rows of texts, faults and waits -/
structure RH where
  P : Nat
  vH : Value
  vF : Value
  vL : Value
def textsF (S : DS) : List Value := (List.range S.n).map (fun i => .string (bstr (S.blk i)))
def faultsF (S : DS) : List Value := (List.range S.n).map (fun (i : Nat) => .int .i64 ((S.flt (i : Int)).getD 0))
def waitsF : List (Nat × List UInt8) → List Value
  | [] => []
  | p :: r => [.int .i64 (p.1 : Int), .string (bstr p.2)] ++ waitsF r
theorem waitsF_snoc (l : List (Nat × List UInt8)) (p : Nat × List UInt8) : waitsF (l ++ [p]) = waitsF l ++ [.int .i64 (p.1 : Int), .string (bstr p.2)] := by
  induction l with
  | nil => simp [waitsF]
  | cons a r ih => rw [List.cons_append, waitsF, ih, waitsF, List.append_assoc]
theorem waitsF_len (l : List (Nat × List UInt8)) : (waitsF l).length = l.length * 2 := by
  induction l with
  | nil => rfl
  | cons a r ih => rw [waitsF, List.length_append, ih]; simp; omega
theorem waitsF_at (l : List (Nat × List UInt8)) (k : Nat) (p : Nat × List UInt8) (h : l[k]? = some p) : (waitsF l)[k * 2]? = some (.int .i64 (p.1 : Int)) ∧ (waitsF l)[k * 2 + 1]? = some (.string (bstr p.2)) := by
  induction l generalizing k with
  | nil => simp at h
  | cons q r ih =>
    rcases k with _ | k
    · simp only [List.getElem?_cons_zero, Option.some.injEq] at h
      subst h
      exact ⟨rfl, rfl⟩
    · rw [List.getElem?_cons_succ] at h
      obtain ⟨h1, h2⟩ := ih k h
      refine ⟨?_, ?_⟩
      · rw [waitsF, show (k + 1) * 2 = k * 2 + 1 + 1 by omega]; exact h1
      · rw [waitsF, show (k + 1) * 2 + 1 = k * 2 + 1 + 1 + 1 by omega]; exact h2
def rcells (h : RH) (S : DS) : Array Value := #[h.vH, h.vF, h.vL, .int .i64 S.bud, .bool (!S.pow), .bool (!S.mnt)]
/-- the document's device stands for the state S -/
structure RefAt (w : World) (B : Nat) (h : RH) (S : DS) : Prop where
  hP : w.heap[h.P]? = some (.cells (rcells h S) 55 (0, 0))
  hH : w.ownsRow B 9 1 h.vH S.n (textsF S)
  hF : w.ownsRow B 3 1 h.vF S.n (faultsF S)
  hL : w.ownsRow B 73 2 h.vL S.pend.length (waitsF S.pend)
  lo : B ≤ h.P
/-- the blocks of it -/
def rfoot (h : RH) (q : Nat) : Prop := q = h.P ∨ h.vH.ownBlock = some q ∨ h.vF.ownBlock = some q ∨ h.vL.ownBlock = some q
structure RStep (h h' : RH) (w w' : World) : Prop where
  os : w'.os = w.os
  tape : w'.tape = w.tape
  output : w'.output = w.output
  size : w.heap.size ≤ w'.heap.size
  block : ∀ q, q < w.heap.size → ¬ rfoot h q → w'.heap[q]? = w.heap[q]?
  out : ∀ q, q < w.heap.size → ¬ rfoot h q → ¬ rfoot h' q
  P : h'.P = h.P
theorem RStep.refl (h : RH) (w : World) : RStep h h w w := ⟨rfl, rfl, rfl, Nat.le_refl _, fun _ _ _ => rfl, fun _ _ h => h, rfl⟩
theorem RStep.trans {h h1 h2 : RH} {w w1 w2 : World} (a : RStep h h1 w w1) (b : RStep h1 h2 w1 w2) : RStep h h2 w w2 :=
  ⟨b.os.trans a.os, b.tape.trans a.tape, b.output.trans a.output, Nat.le_trans a.size b.size, fun q hq hf => (b.block q (Nat.lt_of_lt_of_le hq a.size) (a.out q hq hf)).trans (a.block q hq hf), fun q hq hf => b.out q (Nat.lt_of_lt_of_le hq a.size) (a.out q hq hf), b.P.trans a.P⟩
theorem Kept.rstep {w w' : World} (k : Kept w w') (h : RH) : RStep h h w w' := ⟨k.os, k.tape, k.output, k.size, fun q hq _ => k.block q hq, fun _ _ h => h, rfl⟩
theorem row_of_heap {w w' : World} {base : Nat} {e : TypeId} {size n : Nat} {v : Value} {xs : List Value} (h : w.ownsRow base e size v n xs) (k : ∀ q, v.ownBlock = some q → w'.heap[q]? = w.heap[q]?) : w'.ownsRow base e size v n xs := by
  refine ⟨h.1, ?_⟩
  rcases h.2 with hn | ⟨g, cap, cur, rfl, hb, hgg, rest⟩
  · exact .inl hn
  · exact .inr ⟨g, cap, cur, rfl, hb, (k g rfl).trans hgg, rest⟩
theorem row_some {w : World} {base : Nat} {e : TypeId} {size n : Nat} {v : Value} {xs : List Value} (h : w.ownsRow base e size v n xs) (hn : 0 < n) : ∃ g c, v = .slice (some ⟨g, 0, none⟩) n c ∧ n ≤ c ∧ c ≤ 9223372036854775807 := by
  rcases h.2 with ⟨_, h0⟩ | ⟨g, cap, cur, rfl, hb, hgg, hnc, hm, _⟩
  · omega
  · exact ⟨g, cap, rfl, hnc, by unfold maxLen at hm; omega⟩
theorem row_len {w : World} {base : Nat} {e : TypeId} {size n : Nat} {v : Value} {xs : List Value} (h : w.ownsRow base e size v n xs) : ∃ A c, v = .slice A n c ∧ n ≤ c ∧ c ≤ 9223372036854775807 := by
  rcases h.2 with ⟨rfl, h0⟩ | ⟨g, cap, cur, rfl, hb, hgg, hnc, hm, _⟩
  · exact ⟨none, 0, by rw [h0], by omega, by omega⟩
  · exact ⟨_, cap, rfl, hnc, by unfold maxLen at hm; omega⟩
section
variable {w w' : World} {B : Nat} {h : RH} {S : DS}
theorem RefAt.of_heap (r : RefAt w B h S) (k : ∀ q, rfoot h q → w'.heap[q]? = w.heap[q]?) : RefAt w' B h S :=
  ⟨(k _ (.inl rfl)).trans r.hP, row_of_heap r.hH fun q e => k q (.inr (.inl e)), row_of_heap r.hF fun q e => k q (.inr (.inr (.inl e))), row_of_heap r.hL fun q e => k q (.inr (.inr (.inr e))), r.lo⟩
theorem RefAt.foot_type (r : RefAt w B h S) {q : Nat} (hq : rfoot h q) : B ≤ q ∧ ∃ cs t, w.heap[q]? = some (.cells cs t (0, 0)) ∧ (t = 55 ∨ t = 9 ∨ t = 3 ∨ t = 73) := by
  rcases hq with rfl | hq | hq | hq
  · exact ⟨r.lo, _, _, r.hP, .inl rfl⟩
  · obtain ⟨cs, hc, hb⟩ := row_block r.hH hq
    exact ⟨hb, _, _, hc, .inr (.inl rfl)⟩
  · obtain ⟨cs, hc, hb⟩ := row_block r.hF hq
    exact ⟨hb, _, _, hc, .inr (.inr (.inl rfl))⟩
  · obtain ⟨cs, hc, hb⟩ := row_block r.hL hq
    exact ⟨hb, _, _, hc, .inr (.inr (.inr rfl))⟩
theorem RefAt.foot_lt (r : RefAt w B h S) {q : Nat} (hq : rfoot h q) : q < w.heap.size ∧ B ≤ q := by
  obtain ⟨hb, cs, t, hc, -⟩ := r.foot_type hq
  exact ⟨(Array.getElem?_eq_some_iff.1 hc).1, hb⟩
theorem RefAt.new_out (r : RefAt w B h S) {q : Nat} (hq : w.heap.size ≤ q) : ¬ rfoot h q := fun hf => by have := (r.foot_lt hf).1; omega
theorem RefAt.low_out (r : RefAt w B h S) {q : Nat} (hq : q < B) : ¬ rfoot h q := fun hf => by have := (r.foot_lt hf).2; omega
theorem Kept.ref (k : Kept w w') (r : RefAt w B h S) : RefAt w' B h S := r.of_heap fun q hq => k.block q (r.foot_lt hq).1
theorem RefAt.drew (r : RefAt w B h S) : RefAt w.drew B h S := (Kept.refl w).drew.ref r
theorem RStep.below {h' : RH} (s : RStep h h' w w') (r : RefAt w B h S) (hB : B ≤ w.heap.size) : Below B w w' := ⟨s.os, s.tape, s.output, s.size, fun k hk => s.block k (by omega) (r.low_out hk)⟩
theorem RefAt.size_le (r : RefAt w B h S) : B ≤ w.heap.size := by
  have h1 := r.lo
  have h2 := (Array.getElem?_eq_some_iff.1 r.hP).1
  omega
/-- the document's device and the program's have no block in common -/
theorem DevAt.foot_type {hd : DH} (d : DevAt w B hd S) {q : Nat} (hq : foot hd q) : (∃ cs t, w.heap[q]? = some (.cells cs t (0, 0)) ∧ (t = 62 ∨ t = 65 ∨ t = 67)) ∨ ∃ es c, w.heap[q]? = some (.map es c) := by
  rcases hq with rfl | rfl | rfl | rfl | hq
  · exact .inl ⟨_, _, d.hP, .inl rfl⟩
  · obtain ⟨cs, hc⟩ := d.hB.cells
    exact .inl ⟨_, _, hc, .inr (.inl rfl)⟩
  · exact .inr d.hN.isMap
  · exact .inr d.hF.isMap
  · obtain ⟨c, hc, -⟩ := row_block d.hp hq
    exact .inl ⟨_, _, hc, .inr (.inr rfl)⟩
theorem two_apart {hd : DH} {B' : Nat} {S' : DS} (d : DevAt w B hd S) (r : RefAt w B' h S') {q : Nat} (h1 : foot hd q) (h2 : rfoot h q) : False := by
  obtain ⟨-, cs, t, hc, ht⟩ := r.foot_type h2
  rcases d.foot_type h1 with ⟨cs', t', hc', ht'⟩ | ⟨es, c, hc'⟩
  · rw [hc] at hc'
    injection hc' with e
    injection e with _ e
    subst e
    have k1 : 55 ≠ 62 := by decide
    have k2 : 55 ≠ 65 := by decide
    have k3 : 55 ≠ 67 := by decide
    have k4 : 9 ≠ 62 := by decide
    have k5 : 9 ≠ 65 := by decide
    have k6 : 9 ≠ 67 := by decide
    have k7 : 3 ≠ 62 := by decide
    have k8 : 3 ≠ 65 := by decide
    have k9 : 3 ≠ 67 := by decide
    have k10 : 73 ≠ 62 := by decide
    have k11 : 73 ≠ 65 := by decide
    have k12 : 73 ≠ 67 := by decide
    rcases ht with rfl | rfl | rfl | rfl <;> rcases ht' with e | e | e <;> first | exact k1 e | exact k2 e | exact k3 e | exact k4 e | exact k5 e | exact k6 e | exact k7 e | exact k8 e | exact k9 e | exact k10 e | exact k11 e | exact k12 e
  · rw [hc] at hc'
    injection hc' with e
    cases e
/-- the cells -/
theorem RefAt.c0 (r : RefAt w B h S) : w.cell? ⟨h.P, 0, none⟩ = some h.vH := by simp [World.cell?, r.hP, rcells]
theorem RefAt.c1 (r : RefAt w B h S) : w.cell? ⟨h.P, 1, none⟩ = some h.vF := by simp [World.cell?, r.hP, rcells]
theorem RefAt.c2 (r : RefAt w B h S) : w.cell? ⟨h.P, 2, none⟩ = some h.vL := by simp [World.cell?, r.hP, rcells]
theorem RefAt.c3 (r : RefAt w B h S) : w.cell? ⟨h.P, 3, none⟩ = some (.int .i64 S.bud) := by simp [World.cell?, r.hP, rcells]
theorem RefAt.c4 (r : RefAt w B h S) : w.cell? ⟨h.P, 4, none⟩ = some (.bool (!S.pow)) := by simp [World.cell?, r.hP, rcells]
theorem RefAt.c5 (r : RefAt w B h S) : w.cell? ⟨h.P, 5, none⟩ = some (.bool (!S.mnt)) := by simp [World.cell?, r.hP, rcells]
theorem RefAt.fz (r : RefAt w B h S) (o : Nat) : w.frozen? ⟨h.P, o, none⟩ = false := by simp [World.frozen?, r.hP]
structure RApart (h : RH) : Prop where
  HP : h.vH.ownBlock ≠ some h.P
  FP : h.vF.ownBlock ≠ some h.P
  LP : h.vL.ownBlock ≠ some h.P
  HF : ∀ q, h.vH.ownBlock = some q → h.vF.ownBlock ≠ some q
  HL : ∀ q, h.vH.ownBlock = some q → h.vL.ownBlock ≠ some q
  FL : ∀ q, h.vF.ownBlock = some q → h.vL.ownBlock ≠ some q
theorem RefAt.apart (r : RefAt w B h S) : RApart h := by
  have key : ∀ {q : Nat} {cs cs' : Array Value} {t t' : TypeId} {f f' : Nat × Nat}, w.heap[q]? = some (.cells cs t f) → w.heap[q]? = some (.cells cs' t' f') → t = t' := fun a b => by
    rw [a] at b; injection b with e; injection e
  have hP := r.hP
  have k1 : 9 ≠ 55 := by decide
  have k2 : 3 ≠ 55 := by decide
  have k3 : 73 ≠ 55 := by decide
  have k4 : 9 ≠ 3 := by decide
  have k5 : 9 ≠ 73 := by decide
  have k6 : 3 ≠ 73 := by decide
  refine ⟨fun e => ?_, fun e => ?_, fun e => ?_, fun q e e2 => ?_, fun q e e2 => ?_, fun q e e2 => ?_⟩
  · obtain ⟨c, hc, -⟩ := row_block r.hH e; exact k1 (key hc hP)
  · obtain ⟨c, hc, -⟩ := row_block r.hF e; exact k2 (key hc hP)
  · obtain ⟨c, hc, -⟩ := row_block r.hL e; exact k3 (key hc hP)
  · obtain ⟨c, hc, -⟩ := row_block r.hH e; obtain ⟨c2, hc2, -⟩ := row_block r.hF e2; exact k4 (key hc hc2)
  · obtain ⟨c, hc, -⟩ := row_block r.hH e; obtain ⟨c2, hc2, -⟩ := row_block r.hL e2; exact k5 (key hc hc2)
  · obtain ⟨c, hc, -⟩ := row_block r.hF e; obtain ⟨c2, hc2, -⟩ := row_block r.hL e2; exact k6 (key hc hc2)
/-- a plain field is set -/
theorem RefAt.field (r : RefAt w B h S) (o : Nat) (v : Value) (S' : DS) (hc : (rcells h S).setIfInBounds o v = rcells h S') (e1 : S'.n = S.n) (e2 : S'.blk = S.blk) (e3 : S'.pend = S.pend) (e4 : S'.flt = S.flt) : RefAt (w.setCell ⟨h.P, o, none⟩ v) B h S' := by
  have a := r.apart
  refine ⟨by rw [heap_field r.hP, hc], ?_, ?_, ?_, r.lo⟩
  · have := ownsRow_setCell_other r.hH (a := ⟨h.P, o, none⟩) a.HP v
    rw [e1]; rwa [show textsF S' = textsF S by simp only [textsF, e1, e2]]
  · have := ownsRow_setCell_other r.hF (a := ⟨h.P, o, none⟩) a.FP v
    rw [e1]; rwa [show faultsF S' = faultsF S by simp only [faultsF, e1, e4]]
  · rw [e3]; exact ownsRow_setCell_other r.hL (a := ⟨h.P, o, none⟩) a.LP v
theorem RStep.field (o : Nat) (v : Value) : RStep h h w (w.setCell ⟨h.P, o, none⟩ v) :=
  ⟨rfl, rfl, rfl, by simp [World.setCell], fun q _ hq => Below.heap_setCell _ _ _ _ (fun e => hq (.inl e)), fun _ _ h => h, rfl⟩
/-- what waits is let go -/
theorem RefAt.forgot (r : RefAt w B h S) : RefAt (w.setCell ⟨h.P, 2, none⟩ (.slice none 0 0)) B { h with vL := .slice none 0 0 } { S with pend := [] } ∧ RStep h { h with vL := .slice none 0 0 } w (w.setCell ⟨h.P, 2, none⟩ (.slice none 0 0)) := by
  have a := r.apart
  refine ⟨⟨?_, ownsRow_setCell_other r.hH (a := ⟨h.P, 2, none⟩) a.HP _, ownsRow_setCell_other r.hF (a := ⟨h.P, 2, none⟩) a.FP _, World.ownsRow_nil _ _ _ _, r.lo⟩, ?_⟩
  · rw [heap_field r.hP]; rfl
  · refine ⟨rfl, rfl, rfl, by simp [World.setCell], fun q _ hq => Below.heap_setCell _ _ _ _ (fun e => hq (.inl e)), fun q _ hf hf' => hf ?_, rfl⟩
    rcases hf' with e | e | e | e
    · exact .inl e
    · exact .inr (.inl e)
    · exact .inr (.inr (.inl e))
    · simp [Value.ownBlock] at e
theorem textsF_set (S : DS) (i : Nat) (l : List UInt8) : (textsF S).set i (.string (bstr l)) = textsF { S with blk := upd S.blk i l } := by
  apply List.ext_getElem?
  intro j
  rw [List.getElem?_set]
  simp only [textsF, List.length_map, List.length_range, List.getElem?_map, upd]
  by_cases hj : j < S.n
  · rw [List.getElem?_range hj]
    by_cases e : i = j
    · subst e; simp [hj]
    · simp [e, show ¬ j = i from fun x => e x.symm]
  · rw [List.getElem?_eq_none (by simp; omega)]
    by_cases e : i = j
    · subst e; simp [hj]
    · simp [e]
theorem faultsF_set (S : DS) (i : Nat) (v : Int) (f : Int → Option Int) (hf : ∀ j : Nat, (f (j : Int)).getD 0 = if j = i then v else (S.flt (j : Int)).getD 0) (fn : Nat) : (faultsF S).set i (.int .i64 v) = faultsF { S with flt := f, fn := fn } := by
  apply List.ext_getElem?
  intro j
  rw [List.getElem?_set]
  simp only [faultsF, List.length_map, List.length_range, List.getElem?_map]
  by_cases hj : j < S.n
  · rw [List.getElem?_range hj]
    by_cases e : i = j
    · subst e; simp [hj, hf]
    · simp [e, hf, show ¬ j = i from fun x => e x.symm]
  · rw [List.getElem?_eq_none (by simp; omega)]
    by_cases e : i = j
    · subst e; simp [hj]
    · simp [e]
theorem RStep.rowset (g i : Nat) (v : Value) (hq : rfoot h g) : RStep h h w (w.setCell ⟨g, i, none⟩ v) :=
  ⟨rfl, rfl, rfl, by simp [World.setCell], fun q _ hf => Below.heap_setCell _ _ _ _ (fun e => hf (by rw [e]; exact hq)), fun _ _ h => h, rfl⟩
/-- a block of it is written -/
theorem RefAt.setH (r : RefAt w B h S) (i : Nat) (l : List UInt8) {g c : Nat} (hv : h.vH = .slice (some ⟨g, 0, none⟩) S.n c) :
    RefAt (w.setCell ⟨g, i, none⟩ (.string (bstr l))) B h { S with blk := upd S.blk i l } ∧ RStep h h w (w.setCell ⟨g, i, none⟩ (.string (bstr l))) := by
  have a := r.apart
  have ho : h.vH.ownBlock = some g := by rw [hv]; rfl
  refine ⟨⟨?_, ?_, ownsRow_setCell_other r.hF (a := ⟨g, i, none⟩) (a.HF g ho) _, ownsRow_setCell_other r.hL (a := ⟨g, i, none⟩) (a.HL g ho) _, r.lo⟩, RStep.rowset g i _ (.inr (.inl ho))⟩
  · exact (Below.heap_setCell _ _ _ _ (fun e => a.HP (by rw [ho]; simp only [Option.some.injEq]; exact e.symm))).trans r.hP
  · have hr := r.hH
    rw [hv] at hr ⊢
    rw [← textsF_set]
    exact (hr.stored i _).1
/-- a fault of it is set -/
theorem RefAt.setF (r : RefAt w B h S) (i : Nat) (v : Int) (f : Int → Option Int) (hf : ∀ j : Nat, (f (j : Int)).getD 0 = if j = i then v else (S.flt (j : Int)).getD 0) (fn : Nat) {g c : Nat} (hv : h.vF = .slice (some ⟨g, 0, none⟩) S.n c) :
    RefAt (w.setCell ⟨g, i, none⟩ (.int .i64 v)) B h { S with flt := f, fn := fn } ∧ RStep h h w (w.setCell ⟨g, i, none⟩ (.int .i64 v)) := by
  have a := r.apart
  have ho : h.vF.ownBlock = some g := by rw [hv]; rfl
  refine ⟨⟨?_, ownsRow_setCell_other r.hH (a := ⟨g, i, none⟩) (fun e => a.HF g e ho) _, ?_, ownsRow_setCell_other r.hL (a := ⟨g, i, none⟩) (a.FL g ho) _, r.lo⟩, RStep.rowset g i _ (.inr (.inr (.inl ho)))⟩
  · exact (Below.heap_setCell _ _ _ _ (fun e => a.FP (by rw [ho]; simp only [Option.some.injEq]; exact e.symm))).trans r.hP
  · have hr := r.hF
    rw [hv] at hr ⊢
    rw [← faultsF_set S i v f hf fn]
    exact (hr.stored i _).1
/-- a write more waits -/
theorem RefAt.pushed (r : RefAt w B h S) (i : Nat) (l : List UInt8) {w2 : World} (v' : Value) (tmp : Obj) (ho : w2.ownsRow B 73 2 v' (S.pend.length + 1) (waitsF S.pend ++ [.int .i64 (i : Int), .string (bstr l)]))
    (hg : (w.alloc tmp).grownBy w2 h.vL.ownBlock) (hat : v'.ownBlock = h.vL.ownBlock ∨ v'.ownBlock = some (w.heap.size + 1)) :
    RefAt (w2.setCell ⟨h.P, 2, none⟩ v') B { h with vL := v' } { S with pend := S.pend ++ [(i, l)] } ∧ RStep h { h with vL := v' } w (w2.setCell ⟨h.P, 2, none⟩ v') := by
  have a := r.apart
  have hs2 := hg.size
  rw [World.size_alloc] at hs2
  have hPl := (Array.getElem?_eq_some_iff.1 r.hP).1
  have e : ∀ q, q < w.heap.size → h.vL.ownBlock ≠ some q → w2.heap[q]? = w.heap[q]? := fun q hq h2 =>
    (hg.block q (by rw [World.size_alloc]; omega) (fun e => h2 e.symm)).trans (Below.heap_alloc w tmp q (by omega))
  have hP2 : w2.heap[h.P]? = some (.cells (rcells h S) 55 (0, 0)) := (e _ hPl a.LP).trans r.hP
  have vb : v'.ownBlock ≠ some h.P := by
    rcases hat with hh | hh
    · rw [hh]; exact a.LP
    · rw [hh]; intro e; injection e; omega
  have hlt : ∀ q, rfoot h q → q < w.heap.size := fun q hq => (r.foot_lt hq).1
  refine ⟨⟨?_, ?_, ?_, ?_, r.lo⟩, ?_⟩
  · rw [heap_field hP2]; rfl
  · exact ownsRow_setCell_other (row_of_heap r.hH fun q hq => e q (hlt q (.inr (.inl hq))) (a.HL q hq)) (a := ⟨h.P, 2, none⟩) a.HP _
  · exact ownsRow_setCell_other (row_of_heap r.hF fun q hq => e q (hlt q (.inr (.inr (.inl hq)))) (a.FL q hq)) (a := ⟨h.P, 2, none⟩) a.FP _
  · dsimp only
    rw [List.length_append, waitsF_snoc]
    exact ownsRow_setCell_other ho (a := ⟨h.P, 2, none⟩) vb _
  · refine ⟨hg.os, hg.tape, hg.output, by simp [World.setCell]; omega, fun q hq hf => ?_, fun q hq hf hf' => hf ?_, rfl⟩
    · exact (Below.heap_setCell _ _ _ _ (fun e => hf (.inl e))).trans (e q hq (fun e => hf (.inr (.inr (.inr e)))))
    · rcases hf' with e | e | e | e
      · exact .inl e
      · exact .inr (.inl e)
      · exact .inr (.inr (.inl e))
      · rcases hat with hh | hh
        · exact .inr (.inr (.inr (hh ▸ e)))
        · exfalso
          have : v'.ownBlock = some q := e
          rw [hh] at this; injection this; omega
/-- a text of it, a fault, a wait -/
theorem RefAt.atH (r : RefAt w B h S) (i : Nat) (hi : i < S.n) : ∃ g c, h.vH = .slice (some ⟨g, 0, none⟩) S.n c ∧ S.n ≤ c ∧ c ≤ 9223372036854775807 ∧ (∀ j, j < S.n → w.cell? ⟨g, j, none⟩ = some (.string (bstr (S.blk j)))) ∧ w.frozen? ⟨g, i, none⟩ = false := by
  obtain ⟨g, c, hv, h1, h2⟩ := row_some r.hH (by omega)
  have hr := r.hH
  rw [hv] at hr
  exact ⟨g, c, hv, h1, h2, fun j hj => (hr.cellAt j (by omega)).trans (by simp [textsF, List.getElem?_range hj]), hr.frozenAt i⟩
theorem RefAt.atF (r : RefAt w B h S) (i : Nat) (hi : i < S.n) : ∃ g c, h.vF = .slice (some ⟨g, 0, none⟩) S.n c ∧ S.n ≤ c ∧ c ≤ 9223372036854775807 ∧ (∀ j : Nat, j < S.n → w.cell? ⟨g, j, none⟩ = some (.int .i64 ((S.flt (j : Int)).getD 0))) ∧ w.frozen? ⟨g, i, none⟩ = false := by
  obtain ⟨g, c, hv, h1, h2⟩ := row_some r.hF (by omega)
  have hr := r.hF
  rw [hv] at hr
  exact ⟨g, c, hv, h1, h2, fun j hj => (hr.cellAt j (by omega)).trans (by simp [faultsF, List.getElem?_range hj]), hr.frozenAt i⟩
theorem RefAt.atL (r : RefAt w B h S) (k : Nat) (hk : k < S.pend.length) : ∃ g c, h.vL = .slice (some ⟨g, 0, none⟩) S.pend.length c ∧ S.pend.length ≤ c ∧ c ≤ 9223372036854775807 ∧
    w.cell? ⟨g, k * 2, none⟩ = some (.int .i64 ((S.pend[k]).1 : Int)) ∧ w.cell? ⟨g, k * 2 + 1, none⟩ = some (.string (bstr (S.pend[k]).2)) := by
  obtain ⟨g, c, hv, h1, h2⟩ := row_some r.hL (by omega)
  have hr := r.hL
  rw [hv] at hr
  obtain ⟨e1, e2⟩ := waitsF_at S.pend k _ (List.getElem?_eq_getElem hk)
  exact ⟨g, c, hv, h1, h2, (hr.cellAt _ (by omega)).trans e1, (hr.cellAt _ (by omega)).trans e2⟩
end
end Go.Proofs.Ytpbmkokjjcdhfaa
