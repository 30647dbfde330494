/- The device: Write, whatever it answers; words for the execution of what waits. -/
import Derived.Test.Ytpbmkokjjcdhfaa4H
namespace Go.Proofs.Ytpbmkokjjcdhfaa
set_option linter.unusedSimpArgs false
set_option linter.unusedVariables false
open Go.RowKit

section
variable {w : World} {B : Nat} {h : DH} {S : DS}
theorem write_any (i : Int) (vb : Value) (l : List UInt8) (w : World) (d : DevAt w B h S) (hb : BIn h w vb l) (hpl : S.pend.length ≤ 1000) :
    Calls Try.prog 9 #[.pointer (some ⟨h.P, 0, none⟩), .int .i64 i, vb] w (DPost (.int .i64 (wrE S i l.length)) (wrS S i l) B h w) := by
  by_cases hne : wrE S i l.length = 0
  · exact write_ok i vb l w d hb hne hpl
  · exact write_err i vb l w d hb hne

theorem DevAt.pendW (d : DevAt w B h S) (k : Nat) (hk : k < S.pend.length) : ∃ g c, h.vp = .slice (some ⟨g, 0, none⟩) S.pend.length c ∧ S.pend.length ≤ c ∧ c ≤ 9223372036854775807 ∧
    w.rangeAt g (k * 129) (wcells ((S.pend[k]).1 : Int) (S.pend[k]).2) := by
  obtain ⟨g, c, h1, h2, h3, h4, h5⟩ := d.pendAt k hk
  refine ⟨g, c, h1, h2, h3, fun j v hv => ?_⟩
  rcases j with _ | j
  · simp [wcells] at hv
    rw [Nat.add_zero, h4, ← hv]
  · rw [wcells, List.getElem?_cons_succ] at hv
    have := h5 j v hv
    rwa [show k * 129 + 1 + j = k * 129 + (j + 1) by omega] at this
theorem info_size_write : (Try.prog.info? 67).map (·.size) = some 129 := by kernel_rfl
theorem wcells_one (i : Int) (l : List UInt8) : ∀ v ∈ wcells i l, v.oneCell' = true := by
  intro v hv
  rcases List.mem_cons.1 hv with rfl | hv
  · rfl
  · exact bcells_one l v hv
theorem wpList_loadW {ops : Array Oper} {rest : List Oper} {op : Oper} {a : Act} {w : World} {Q : Exit → Act → World → Prop} (hgd : op.guard = none) (x : Operand) (ho : op.op = .load 67 x)
    (b o : Nat) (hx : a.eval x = .pointer (some ⟨b, o, none⟩)) (i : Int) (l : List UInt8) (hl : l.length = 128) (hc : w.rangeAt b o (wcells i l))
    (h : wpList Try.prog ops Q rest (a.put op.dst (.agg (wcells i l).toArray)) w) : wpList Try.prog ops Q (op :: rest) a w :=
  wpList_load_mid hgd 67 x ho b o hx (wcells i l) _ hc Try.underlying67 rfl (by rw [info_size_write, wcells_len _ _ hl]) h
theorem wpList_boxW {ops : Array Oper} {rest : List Oper} {o1 o2 o3 : Oper} {a : Act} {w : World} {Q : Exit → Act → World → Prop} (hg1 : o1.guard = none) (hg2 : o2.guard = none) (hg3 : o3.guard = none) (h1 : o1.op = .alloc 67)
    (y : Operand) (h2 : o2.op = .assign y) (p x : Operand) (h3 : o3.op = .store 67 p x) (u : Value) (hy : (a.put o1.dst (.pointer (some ⟨w.heap.size, 0, none⟩))).eval y = u)
    (hp : ((a.put o1.dst (.pointer (some ⟨w.heap.size, 0, none⟩))).put o2.dst u).eval p = .pointer (some ⟨w.heap.size, 0, none⟩))
    (i : Int) (l : List UInt8) (hl : l.length = 128) (hx : ((a.put o1.dst (.pointer (some ⟨w.heap.size, 0, none⟩))).put o2.dst u).eval x = .agg (wcells i l).toArray)
    (h : wpList Try.prog ops Q rest (((a.put o1.dst (.pointer (some ⟨w.heap.size, 0, none⟩))).put o2.dst u).put o3.dst undef) (w.alloc (.cells (wcells i l).toArray 67))) : wpList Try.prog ops Q (o1 :: o2 :: o3 :: rest) a w := by
  have hwl := wcells_len i l hl
  refine wpList_plain hg1 fun K hK => ?_
  unfold Oper.wp execOp
  simp only [h1, Instr.alloc, Sem.run_bind, Sem.run_pure, Result.andThen_ok, zero_write, newVar, newRow]
  refine hK _ (w.alloc (.cells zeroW 67)) ?_
  refine wpList_plain hg2 fun K hK => ?_
  unfold Oper.wp execOp
  simp only [h2, Sem.run_pure, hy]
  refine hK _ _ ?_
  have hb : (w.alloc (.cells zeroW 67)).heap[w.heap.size]? = some (.cells zeroW 67 (0, 0)) := heap_alloc_new w _
  have hzs := zeroW_size
  refine wpList_store_mid hg3 67 p x h3 w.heap.size 0 (wcells i l).toArray hp hx ?_ ?_ (all_oneCell_toArray (wcells_one i l)) ?_
  · intro j hj
    have hj' : j < 129 := by simpa [hwl] using hj
    rw [Nat.zero_add]
    refine ⟨?_, frozen_heap hb⟩
    rw [cell_of_row _ _ _ _ _ _ hb, Array.getElem?_eq_getElem (by omega)]; rfl
  · rw [info_size_write]; simp [hwl]
  · rw [alloc_fill _ _ _ _ (by rw [hzs]; simp [hwl])]
    exact h

/-- a copy from one block of octets to another, as a step of a region that draws its order -/
theorem step_copy {ops : Array Oper} {o : Oper} {a : Act} {K : Act → World → Prop} {Q : Exit → Act → World → Prop} {E : Prop} {w : World} (hgd : o.guard = none) (s x : Operand)
    (ho : o.op = .call { callee := .builtin .copy, args := #[s, x], argTypes := #[31, 31] })
    (b od b' os' n c c' : Nat) (hs : a.eval s = .slice (some ⟨b, od, none⟩) n c) (hx : a.eval x = .slice (some ⟨b', os', none⟩) n c') (l : List UInt8) (hl : l.length = n)
    (hsrc : w.rangeAt b' os' (bcells l)) (ht : w.there b od n) (h : K (a.put o.dst (goInt n)) (w.setCells b od (bcells l))) :
    if Region.wanted o (yielded ops a.tmps) = true then Oper.wp Try.prog o a w K Q else E := by
  have hw : Region.wanted o (yielded ops a.tmps) = true := by simp [Region.wanted, hgd]
  rw [if_pos hw]
  have hb := bcells_len l
  have hr := run_copy_cells (P := Try.prog) w 31 31 o.type 5 b od n c ⟨b', os', none⟩ n c' (bcells l) Try.underlying31 (by kernel_rfl) (by rw [hb, hl]; exact (Nat.min_self n).symm)
    (fun j v hv => by rw [Addr.add_mid]; exact hsrc j v hv) (fun j hj => (ht j (by omega)).1) (fun j hj => (ht j (by omega)).2) (bcells_one l)
  unfold Oper.wp execOp
  simp only [ho, resolve, invoke, builtin, Sem.run_bind, Sem.run_pure, Result.andThen_ok, List.map_toArray, List.map_cons, List.map_nil, hs, hx, hr]
  rw [hb, hl]
  exact h

/-- how much of a write is done -/
def cl (x : Int) : Nat := (min (max x 0) 128).toNat
theorem cl_le (x : Int) : cl x ≤ 128 := by unfold cl; omega
theorem cl_int (x : Int) : ((cl x : Nat) : Int) = min (max x 0) 128 := by unfold cl; omega
def exB (blk : Nat → List UInt8) (pend : List (Nat × List UInt8)) (F : Nat → Int) : Nat → (Nat → List UInt8)
  | 0 => blk
  | k + 1 => match pend[k]? with
    | none => exB blk pend F k
    | some p => upd (exB blk pend F k) p.1 (p.2.take (cl (F k)) ++ (exB blk pend F k p.1).drop (cl (F k)))
theorem exB_succ (blk : Nat → List UInt8) (pend : List (Nat × List UInt8)) (F : Nat → Int) (k : Nat) (hk : k < pend.length) :
    exB blk pend F (k + 1) = upd (exB blk pend F k) (pend[k]).1 ((pend[k]).2.take (cl (F k)) ++ (exB blk pend F k (pend[k]).1).drop (cl (F k))) := by
  rw [exB, List.getElem?_eq_getElem hk]
theorem exB_len (n : Nat) (blk : Nat → List UInt8) (pend : List (Nat × List UInt8)) (F : Nat → Int) (hb : ∀ i, i < n → (blk i).length = 128) (hp : ∀ p ∈ pend, p.1 < n ∧ p.2.length = 128) (k : Nat) : ∀ i, i < n → (exB blk pend F k i).length = 128 := by
  induction k with
  | zero => exact hb
  | succ k ih =>
    intro i hi
    rcases Nat.lt_or_ge k pend.length with hk | hk
    · rw [exB_succ _ _ _ _ hk, upd]
      have h2 := hp _ (List.getElem_mem hk)
      have h3 := cl_le (F k)
      split
      · rw [List.length_append, List.length_take, List.length_drop, ih _ h2.1, h2.2]; omega
      · exact ih i hi
    · rw [exB, List.getElem?_eq_none hk]; exact ih i hi
/-- a block has been written -/
theorem DevAt.written (d : DevAt w B h S) (at' : Nat) (hat : at' < S.n) (l : List UInt8) (hl : l.length ≤ 128) :
    DevAt (w.setCells h.gB (at' * 128) (bcells l)) B h { S with blk := upd S.blk at' (l ++ (S.blk at').drop l.length) } ∧ Step h h w (w.setCells h.gB (at' * 128) (bcells l)) := by
  have a := d.apart
  have hb := d.ok.blk at' hat
  have e : ∀ q, q ≠ h.gB → (w.setCells h.gB (at' * 128) (bcells l)).heap[q]? = w.heap[q]? := fun q hq => heap_setCells_ne _ _ _ _ _ hq
  obtain ⟨o1, o2, o3⟩ := setCells_os (bcells l) w h.gB (at' * 128)
  refine ⟨⟨(e _ a.PB).trans d.hP, d.hB.write at' hat l hl hb, ?_, d.hN.of_heap (e _ a.BN.symm), d.hF.of_heap (e _ a.BF.symm), d.lo, d.ne, ⟨d.ok.n1, d.ok.n2, fun i hi => ?_, d.ok.pend, d.ok.bud, d.ok.flt⟩⟩, ⟨o1, o2, o3, by rw [size_setCells]; exact Nat.le_refl _, fun q _ hf => e q (fun e => hf (.inr (.inl e))), fun _ _ h => h, rfl⟩⟩
  · refine ⟨d.hp.1, ?_⟩
    rcases d.hp.2 with h0 | ⟨g, cap, cur, hv, hg, hh, r⟩
    · exact .inl h0
    · exact .inr ⟨g, cap, cur, hv, hg, (e g (fun e => a.vB (by rw [hv, ← e]; rfl))).trans hh, r⟩
  · show (upd S.blk at' (l ++ (S.blk at').drop l.length) i).length = 128
    rw [upd]
    split
    · rw [List.length_append, List.length_drop, hb]; omega
    · exact d.ok.blk i hi
end
end Go.Proofs.Ytpbmkokjjcdhfaa
