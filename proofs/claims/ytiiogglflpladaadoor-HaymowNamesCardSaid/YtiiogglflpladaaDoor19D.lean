/- sparse: clone, clones. -/
import Derived.Test.YtiiogglflpladaaDoor19C
namespace Go.Proofs.YtiiogglflpladaaDoor
set_option linter.unusedSimpArgs false
set_option linter.unusedVariables false
open Go.RowKit

theorem info_u8 : (Tryd.prog.info? 5).map (fun i => (i.zero, i.size, i.bytes)) = some (some (.int .u8 0), 1, 1) := by kernel_rfl
theorem info_u8s : (Tryd.prog.info? 5).map (·.size) = some 1 := by kernel_rfl
theorem madeCells_one (u : Value) (n : Nat) : madeCells #[u] n = (List.replicate n u).toArray := by
  apply Array.ext
  · simp [madeCells]
  · intro i h1 h2
    simp [madeCells, Nat.mod_one]
theorem bcells_rep (n : Nat) (x : UInt8) : bcells (List.replicate n x) = List.replicate n (.int .u8 (x.toNat : Int)) := by simp [bcells]
theorem make_bytes (N : Nat) (hN : N ≤ 1000000) (w : World) : (Instr.makeSlice 33 (.int .i64 (N : Int)) (.int .i64 (N : Int))).run Tryd.prog w =
    .ok (.slice (some ⟨w.heap.size, 0, none⟩) N N) (w.alloc (.cells (bcells (List.replicate N 0)).toArray 5)) := by
  obtain ⟨i, hi, hz, hsize, hbytes⟩ := info_parts info_u8
  have := run_makeSlice (P := Tryd.prog) w 33 5 i _ Tryd.underlying33 hi hz .i64 .i64 (N : Int) (N : Int) (by omega) (by omega) (by rw [hsize]; simp; omega) (by rw [hbytes]; omega) (by omega)
  rw [this, hsize]
  simp [Value.cells, madeCells_one, bcells_rep]
theorem over_pad (l : List UInt8) : over (List.replicate 128 0) 0 (l.take 128) = pad l := by
  rw [over, pad, List.take_zero, List.nil_append, Nat.zero_add, List.drop_replicate, List.length_take]
  congr 2
  omega
theorem But.free {a : Nat} {w w1 : World} (hk : But a w w1) {b o : Nat} {s : Option Nat} {v : Value} (hc : w.cell? ⟨b, o, s⟩ = some v) (hf : w.frozen? ⟨b, o, s⟩ = false) (hne : b ≠ a) : w1.frozen? ⟨b, o, s⟩ = false :=
  (World.frozen?_of_block (w := w) (a := ⟨b, o, s⟩) (hk.block b (cell_lt hc) (by simpa using hne))).trans hf
theorem CB.far {w : World} {g : Nat} {t : TypeId} {cs : List Value} (h : CB w g t cs) {p : Addr} (hp : g ≠ p.block) (v : Value) : CB (w.setCell p v) g t cs := h.of_heap (Below.heap_setCell _ _ _ _ hp)
theorem heap_alloc_at (w : World) (o : Obj) (g : Nat) (hg : w.heap.size = g) : (w.alloc o).heap[g]? = some o := by subst hg; exact heap_alloc_new w o
/-- a copy into a block of octets of the call's own -/
theorem copy_run {w : World} {g od n c m c' : Nat} {A : Option Addr} {cur l : List UInt8} (hg : OBlk w g 5 cur) (hfit : od + n ≤ cur.length) (hB : Byts w (.slice A m c') l) (ty : TypeId) :
    ∃ w' x, (Builtin.copy_ #[33, 33] ty #[.slice (some ⟨g, od, none⟩) n c, .slice A m c']).run Tryd.prog w = .ok (.int .i64 x) w' ∧ OBlk w' g 5 (over cur od (l.take n)) ∧ But g w w' := by
  obtain ⟨h0, h1, h2, h3, h4⟩ := hB.open_
  have hlen : (l.take n).length = Nat.min m n := by rw [List.length_take, h0]; exact Nat.min_comm _ _
  by_cases hz : Nat.min m n = 0
  · refine ⟨w, _, run_copy_none w _ _ ty 5 _ _ n c m c' Tryd.underlying33 info_u8s hz, ?_, But.refl _ _⟩
    have : l.take n = [] := List.eq_nil_of_length_eq_zero (by rw [hlen, hz])
    rw [this, over]
    simpa using hg
  · have hm : 0 < m := by
      rcases Nat.eq_zero_or_pos m with e | e
      · rw [e] at hz; exact absurd (Nat.zero_min _) hz
      · exact e
    obtain ⟨b, o, rfl, hr⟩ := h4 hm
    have hle : (l.take n).length ≤ n := List.length_take_le _ _
    have hrun := run_copy_row (P := Tryd.prog) w 33 33 ty 5 g od n c ⟨b, o, none⟩ m c' (bcells cur).toArray 5 (bcells (l.take n)) Tryd.underlying33 info_u8s hg (by rw [bcells_len]; exact hlen)
      (fun j v hv => by
        rw [add_plain]
        refine hr j v ?_
        rw [bcells_take, List.getElem?_take] at hv
        split at hv
        · exact hv
        · cases hv) (by simp only [bcells_len, List.size_toArray]; omega) (bcells_one _)
    refine ⟨_, _, hrun, ?_, ?_⟩
    · unfold OBlk CB
      rw [setRow_heap _ _ _ _ _ _ hg, ← splice_over, splice, List.append_assoc]
    · exact ⟨rfl, rfl, rfl, by simp [World.setRow], fun k _ hne => setRow_other w g k _ (by rintro rfl; exact hne rfl)⟩
theorem wpList_copyB {ops : Array Oper} {rest : List Oper} {o : Oper} {a : Act} {Q : Exit → Act → World → Prop} {w : World} (hgd : o.guard = none) (d s : Operand)
    (ho : o.op = .call { callee := .builtin .copy, args := #[d, s], argTypes := #[33, 33] }) (g od n c m c' : Nat) (A : Option Addr) (cur l : List UInt8) (hd : a.eval d = .slice (some ⟨g, od, none⟩) n c) (hs : a.eval s = .slice A m c')
    (hg : OBlk w g 5 cur) (hfit : od + n ≤ cur.length) (hB : Byts w (.slice A m c') l) (h : ∀ w' x, OBlk w' g 5 (over cur od (l.take n)) → But g w w' → wpList Tryd.prog ops Q rest (a.put o.dst (.int .i64 x)) w') : wpList Tryd.prog ops Q (o :: rest) a w := by
  obtain ⟨w', x, hrun, h1, h2⟩ := copy_run hg hfit hB o.type (c := c)
  refine wpList_plain hgd fun K hK => ?_
  unfold Oper.wp
  simp [execOp, ho, resolve, invoke, builtin, hd, hs, hrun, Result.andThen]
  exact hK _ _ (h w' x h1 h2)
theorem step_copyB {ops : Array Oper} {o : Oper} {a : Act} {K : Act → World → Prop} {Q : Exit → Act → World → Prop} {E : Prop} {w : World} (hgd : o.guard = none) (d s : Operand)
    (ho : o.op = .call { callee := .builtin .copy, args := #[d, s], argTypes := #[33, 33] }) (g od n c m c' : Nat) (A : Option Addr) (cur l : List UInt8) (hd : a.eval d = .slice (some ⟨g, od, none⟩) n c) (hs : a.eval s = .slice A m c')
    (hg : OBlk w g 5 cur) (hfit : od + n ≤ cur.length) (hB : Byts w (.slice A m c') l) (h : ∀ w' x, OBlk w' g 5 (over cur od (l.take n)) → But g w w' → K (a.put o.dst (.int .i64 x)) w') : if Region.wanted o (yielded ops a.tmps) = true then Oper.wp Tryd.prog o a w K Q else E := by
  obtain ⟨w', x, hrun, h1, h2⟩ := copy_run hg hfit hB o.type (c := c)
  have hw : Region.wanted o (yielded ops a.tmps) = true := by simp [Region.wanted, hgd]
  rw [if_pos hw]
  unfold Oper.wp
  simp [execOp, ho, resolve, invoke, builtin, hd, hs, hrun, Result.andThen]
  exact h w' x h1 h2
def ClonePost (n : Int) (l : List UInt8) (w : World) (e : Ending) (w' : World) : Prop :=
  ∃ g, e = .returned (.agg #[.int .i64 n, .slice (some ⟨g, 0, none⟩) 128 128]) ∧ OBlk w' g 5 (pad l) ∧ w.heap.size ≤ g ∧ Kept w w'
set_option maxRecDepth 100000 in
set_option maxHeartbeats 2000000 in
theorem clone_any (n : Int) (vb : Value) (l : List UInt8) (w : World) (hB : Byts w vb l) : Calls Tryd.prog 26 #[.agg #[.int .i64 n, vb]] w (ClonePost n l w) := by
  obtain ⟨A, c, rfl⟩ := hB.shape
  have hmk : ∀ w, (Instr.makeSlice 33 (.int .i64 128) (.int .i64 128)).run Tryd.prog w = .ok (.slice (some ⟨w.heap.size, 0, none⟩) 128 128) (w.alloc (.cells (bcells (List.replicate 128 0)).toArray 5)) := make_bytes 128 (by omega)
  have HB := hid hB
  clear hB
  obtain ⟨m, hm⟩ : ∃ m, l.length = m := ⟨_, rfl⟩
  rw [hm] at HB ⊢
  have HM := hid hm
  clear hm
  obtain ⟨Z, hZ⟩ : ∃ Z, bcells (List.replicate 128 0) = Z := ⟨_, rfl⟩
  rw [hZ] at hmk
  have HZ := hid hZ
  clear hZ
  go_enter Tryd.func26, Tryd.ntmps26
  go_wp2_with (refine wpList_copyB (o := ⟨some 8, _, _, _, _, _⟩) rfl (.tmp 5) (.tmp 7) rfl (w.heap.size + 1 + 1) 0 128 128 m c A (List.replicate 128 0) l rfl rfl (by unfold OBlk CB; rw [HZ.out]; exact heap_alloc_at _ _ _ (by simp)) (by simp) (Kept.byts (by repeat (first | exact Kept.refl _ | assumption | refine Kept.alloc ?_ _ | refine Kept.drew ?_ | refine Kept.drewN ?_ _ | refine Kept.setCell ?_ (by simp; try omega) _ | refine Kept.trans ?_ (by assumption))) HB.out) ?_; intro w3 x3 ob3 bt3; have c0 := bt3.keeps (b := w.heap.size) (o := 0) (s := none) (v := .int .i64 n) (by simp [go_sem]) (by omega); have c1 := bt3.keeps (b := w.heap.size + 1) (o := 0) (s := none) (v := .int .i64 0) (by simp [go_sem]) (by omega); have c2 := bt3.keeps (b := w.heap.size + 1) (o := 1) (s := none) (v := .slice none 0 0) (by simp [go_sem]) (by omega); have f1 := bt3.free (b := w.heap.size + 1) (o := 0) (s := none) (v := .int .i64 0) (by simp [go_sem]) (by simp [go_sem]) (by omega); have f2 := bt3.free (b := w.heap.size + 1) (o := 1) (s := none) (v := .slice none 0 0) (by simp [go_sem]) (by simp [go_sem]) (by omega))
  refine bodyPost_ret (v := .agg #[.int .i64 n, .slice (some ⟨w.heap.size + 1 + 1, 0, none⟩) 128 128]) (by simp [results, Tryd.results26, go_sem, c0, c1, c2]) rfl ⟨_, rfl, ?_, by omega, ?_⟩
  · rw [over_pad] at ob3
    exact CB.far (CB.far ob3 (by simp) _) (by simp) _
  · refine ((Kept.turned (((((Kept.refl w).alloc _).alloc _).alloc _)) bt3 (by omega)).setCell (by simp) _).setCell (by simp) _
end Go.Proofs.YtiiogglflpladaaDoor
