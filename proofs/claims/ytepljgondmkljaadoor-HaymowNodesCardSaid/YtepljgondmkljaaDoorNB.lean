/- Words for octets: slices that are read, blocks known whole, copies. -/
import Derived.Test.YtepljgondmkljaaDoorInts
import Derived.Test.YtepljgondmkljaaDoorBut
import Derived.Deep.MidRow
import Derived.Deep.AppendLies
import Derived.Laws.MakeOwn
import Derived.Laws.CopyOwn
import Derived.Laws.IdiomCopy
import Derived.RegionTactic
import Derived.Laws.BitsLemmas
namespace Go.Proofs.YtepljgondmkljaaDoor
set_option linter.unusedSimpArgs false
set_option linter.unusedVariables false
open Go.RowKit

def over (l : List UInt8) (o : Nat) (c : List UInt8) : List UInt8 := l.take o ++ c ++ l.drop (o + c.length)
theorem over_len (l : List UInt8) (o : Nat) (c : List UInt8) (h : o + c.length ≤ l.length) : (over l o c).length = l.length := by simp [over]; omega
theorem over_at (l : List UInt8) (o : Nat) (c : List UInt8) (h : o + c.length ≤ l.length) (k : Nat) : (over l o c).getD k 0 = if o ≤ k ∧ k < o + c.length then c.getD (k - o) 0 else l.getD k 0 := by
  rw [over, List.getD_eq_getElem?_getD, List.getD_eq_getElem?_getD, List.getD_eq_getElem?_getD, List.append_assoc]
  by_cases h1 : k < o
  · rw [if_neg (by omega), List.getElem?_append_left (by simp; omega), List.getElem?_take, if_pos h1]
  · rw [List.getElem?_append_right (by simp; omega), List.length_take, Nat.min_eq_left (by omega)]
    by_cases h2 : k < o + c.length
    · rw [if_pos (by omega), List.getElem?_append_left (by omega)]
    · rw [if_neg (by omega), List.getElem?_append_right (by omega), List.getElem?_drop, show o + c.length + (k - o - c.length) = k by omega]


/-- octets as cells -/
def bcells (l : List UInt8) : List Value := l.map fun c => .int .u8 (c.toNat : Int)
theorem bcells_len (l : List UInt8) : (bcells l).length = l.length := by simp [bcells]
theorem bcells_at (l : List UInt8) (i : Nat) (h : i < l.length) : (bcells l)[i]? = some (.int .u8 ((l.getD i 0).toNat : Int)) := by
  simp [bcells, List.getElem?_map, List.getElem?_eq_getElem h, List.getD_eq_getElem?_getD]
theorem bcells_one (l : List UInt8) : ∀ v ∈ bcells l, v.oneCell' = true := by
  intro v hv
  obtain ⟨c, -, rfl⟩ := List.mem_map.1 hv
  rfl
theorem bcells_take (l : List UInt8) (n : Nat) : bcells (l.take n) = (bcells l).take n := by simp [bcells, List.map_take]
theorem bcells_drop (l : List UInt8) (n : Nat) : bcells (l.drop n) = (bcells l).drop n := by simp [bcells, List.map_drop]
theorem bcells_app (a b : List UInt8) : bcells (a ++ b) = bcells a ++ bcells b := by simp [bcells]
theorem splice_over (l : List UInt8) (o : Nat) (c : List UInt8) : splice (bcells l) o (bcells c) = bcells (over l o c) := by
  rw [splice, over, bcells_len, bcells_app, bcells_app, bcells_take, bcells_drop, List.append_assoc]

/-- block g holds just these cells -/
def CB (w : World) (g : Nat) (t : TypeId) (cs : List Value) : Prop := w.heap[g]? = some (.cells cs.toArray t (0, 0))
section
variable {w w1 : World} {g : Nat} {t : TypeId} {cs : List Value}
theorem CB.lt (h : CB w g t cs) : g < w.heap.size := (Array.getElem?_eq_some_iff.1 h).1
theorem CB.cell (h : CB w g t cs) (j : Nat) (hj : j < cs.length) : w.cell? ⟨g, j, none⟩ = some cs[j] := by
  unfold CB at h; simp [World.cell?, h, hj]
theorem CB.frozen (h : CB w g t cs) (j : Nat) : w.frozen? ⟨g, j, none⟩ = false := by
  unfold CB at h; simp [World.frozen?, h]
theorem CB.of_heap (h : CB w g t cs) (e : w1.heap[g]? = w.heap[g]?) : CB w1 g t cs := e.trans h
theorem Kept.cb (k : Kept w w1) (h : CB w g t cs) : CB w1 g t cs := h.of_heap (k.block _ h.lt)
theorem cb_new (w : World) (t : TypeId) (cs : List Value) : CB (w.alloc (.cells cs.toArray t)) w.heap.size t cs := heap_alloc_new w _
theorem CB.set (h : CB w g t cs) (j : Nat) (v : Value) : CB (w.setCell ⟨g, j, none⟩ v) g t (cs.set j v) := by
  unfold CB at *
  simp [World.setCell, Array.getElem?_modify, h]
theorem CB.drew (h : CB w g t cs) : CB w.drew g t cs := h
end
/-- a block of octets -/
def OBlk (w : World) (g : Nat) (t : TypeId) (l : List UInt8) : Prop := CB w g t (bcells l)
section
variable {w w1 : World} {g : Nat} {t : TypeId} {l : List UInt8}
theorem OBlk.lt (h : OBlk w g t l) : g < w.heap.size := CB.lt h
theorem OBlk.cell (h : OBlk w g t l) (j : Nat) (hj : j < l.length) : w.cell? ⟨g, j, none⟩ = some (.int .u8 ((l.getD j 0).toNat : Int)) := by
  rw [CB.cell h j (by rw [bcells_len]; exact hj), ← bcells_at l j hj, List.getElem?_eq_getElem]
theorem OBlk.range (h : OBlk w g t l) : w.rangeAt g 0 (bcells l) := fun j v hv => by
  have hj : j < l.length := by rw [← bcells_len]; exact (List.getElem?_eq_some_iff.1 hv).1
  rw [Nat.zero_add, h.cell j hj, ← bcells_at l j hj, hv]
theorem Kept.oblk (k : Kept w w1) (h : OBlk w g t l) : OBlk w1 g t l := k.cb h
end

/-- a slice of octets that is read -/
def Byts (w : World) (v : Value) (l : List UInt8) : Prop :=
  ∃ A c, v = .slice A l.length c ∧ l.length ≤ c ∧ c ≤ 9223372036854775807 ∧ (A = none → c = 0) ∧ (0 < l.length → ∃ b o, A = some ⟨b, o, none⟩ ∧ w.rangeAt b o (bcells l))
theorem Kept.range {w w1 : World} (k : Kept w w1) {b o : Nat} {cs : List Value} (h : w.rangeAt b o cs) : w1.rangeAt b o cs := fun j v hv => k.keeps (h j v hv)
theorem Kept.byts {w w1 : World} {v : Value} {l : List UInt8} (k : Kept w w1) (h : Byts w v l) : Byts w1 v l := by
  obtain ⟨A, c, hv, h1, h2, h3, h4⟩ := h
  refine ⟨A, c, hv, h1, h2, h3, fun hl => ?_⟩
  obtain ⟨b, o, hA, hr⟩ := h4 hl
  exact ⟨b, o, hA, k.range hr⟩
theorem byts_nil (w : World) : Byts w (.slice none 0 0) [] := ⟨none, 0, rfl, by simp, by omega, fun _ => rfl, by simp⟩
theorem Byts.shape {w : World} {v : Value} {l : List UInt8} (h : Byts w v l) : ∃ A c, v = .slice A l.length c := by
  obtain ⟨A, c, hv, _⟩ := h; exact ⟨A, c, hv⟩
section
variable {w : World} {A : Option Addr} {n c : Nat} {l : List UInt8}
theorem Byts.open_ (h : Byts w (.slice A n c) l) : l.length = n ∧ n ≤ c ∧ c ≤ 9223372036854775807 ∧ (A = none → c = 0) ∧ (0 < n → ∃ b o, A = some ⟨b, o, none⟩ ∧ w.rangeAt b o (bcells l)) := by
  obtain ⟨A', c', hv, h1, h2, h3, h4⟩ := h
  simp only [Value.slice.injEq] at hv
  obtain ⟨rfl, rfl, rfl⟩ := hv
  exact ⟨rfl, h1, h2, h3, h4⟩
theorem byts_mk {b o : Nat} (hl : l.length = n) (hc : n ≤ c) (hm : c ≤ 9223372036854775807) (h : w.rangeAt b o (bcells l)) : Byts w (.slice (some ⟨b, o, none⟩) n c) l := by
  subst hl
  exact ⟨_, c, rfl, hc, hm, by simp, fun _ => ⟨b, o, rfl, h⟩⟩
theorem Byts.cell (h : Byts w (.slice A n c) l) (j : Nat) (hj : j < n) : ∃ b o, A = some ⟨b, o, none⟩ ∧ w.cell? ⟨b, o + j, none⟩ = some (.int .u8 ((l.getD j 0).toNat : Int)) := by
  obtain ⟨h0, -, -, -, h4⟩ := h.open_
  obtain ⟨b, o, hA, hr⟩ := h4 (by omega)
  exact ⟨b, o, hA, hr j _ (bcells_at l j (by omega))⟩
theorem Byts.cells (h : Byts w (.slice A n c) l) (hn : 0 < n) : ∃ b o, A = some ⟨b, o, none⟩ ∧ ∀ j, j < n → w.cell? ⟨b, o + j, none⟩ = some (.int .u8 ((l.getD j 0).toNat : Int)) := by
  obtain ⟨h0, -, -, -, h4⟩ := h.open_
  obtain ⟨b, o, hA, hr⟩ := h4 hn
  exact ⟨b, o, hA, fun j hj => hr j _ (bcells_at l j (by omega))⟩
/-- the rest of a slice -/
def restA (A : Option Addr) (c k s : Nat) : Option Addr := if c = k then A else A.map (·.add (k * s))
theorem add_plain (b o k : Nat) : (⟨b, o, none⟩ : Addr).add k = ⟨b, o + k, none⟩ := by unfold Addr.add; split <;> simp_all
theorem Byts.drop (h : Byts w (.slice A n c) l) (k : Nat) (hk : k ≤ n) : Byts w (.slice (restA A c k 1) (n - k) (c - k)) (l.drop k) := by
  obtain ⟨h0, h1, h2, h3, h4⟩ := h.open_
  refine ⟨_, _, by rw [List.length_drop, h0], by rw [List.length_drop]; omega, by omega, fun e => ?_, fun hl => ?_⟩
  · unfold restA at e
    split at e
    · have := h3 e; omega
    · have := h3 (Option.map_eq_none_iff.1 e); omega
  · rw [List.length_drop] at hl
    obtain ⟨b, o, rfl, hr⟩ := h4 (by omega)
    unfold restA
    rw [if_neg (by omega)]
    refine ⟨b, o + k, by rw [Option.map_some, add_plain, Nat.mul_one], fun j v hv => ?_⟩
    rw [bcells_drop, List.getElem?_drop] at hv
    have := hr (k + j) v hv
    rwa [Nat.add_assoc]
theorem Byts.take (h : Byts w (.slice A n c) l) (k : Nat) (hk : k ≤ n) : Byts w (.slice A k c) (l.take k) := by
  obtain ⟨h0, h1, h2, h3, h4⟩ := h.open_
  have hl : (l.take k).length = k := by simp; omega
  refine ⟨A, c, by rw [hl], by omega, h2, h3, fun hl' => ?_⟩
  obtain ⟨b, o, hA, hr⟩ := h4 (by omega)
  refine ⟨b, o, hA, fun j v hv => hr j v ?_⟩
  rw [bcells_take, List.getElem?_take] at hv
  split at hv
  · exact hv
  · cases hv
end



theorem info_u8 : (Tryd.prog.info? 5).map (fun i => (i.zero, i.size, i.bytes)) = some (some (.int .u8 0), 1, 1) := by kernel_rfl
theorem info_u8s : (Tryd.prog.info? 5).map (·.size) = some 1 := by kernel_rfl
theorem madeCells_one (u : Value) (n : Nat) : madeCells #[u] n = (List.replicate n u).toArray := by
  apply Array.ext
  · simp [madeCells]
  · intro i h1 h2
    simp [madeCells, Nat.mod_one]
theorem bcells_rep (n : Nat) (x : UInt8) : bcells (List.replicate n x) = List.replicate n (.int .u8 (x.toNat : Int)) := by simp [bcells]
theorem make_bytes (N : Nat) (hN : N ≤ 1000000) (w : World) : (Instr.makeSlice 38 (.int .i64 (N : Int)) (.int .i64 (N : Int))).run Tryd.prog w =
    .ok (.slice (some ⟨w.heap.size, 0, none⟩) N N) (w.alloc (.cells (bcells (List.replicate N 0)).toArray 5)) := by
  obtain ⟨i, hi, hz, hsize, hbytes⟩ := info_parts info_u8
  have := run_makeSlice (P := Tryd.prog) w 38 5 i _ Tryd.underlying38 hi hz .i64 .i64 (N : Int) (N : Int) (by omega) (by omega) (by rw [hsize]; simp; omega) (by rw [hbytes]; omega) (by omega)
  rw [this, hsize]
  simp [Value.cells, madeCells_one, bcells_rep]
theorem But.free {a : Nat} {w w1 : World} (hk : But a w w1) {b o : Nat} {s : Option Nat} {v : Value} (hc : w.cell? ⟨b, o, s⟩ = some v) (hf : w.frozen? ⟨b, o, s⟩ = false) (hne : b ≠ a) : w1.frozen? ⟨b, o, s⟩ = false :=
  (World.frozen?_of_block (w := w) (a := ⟨b, o, s⟩) (hk.block b (cell_lt hc) (by simpa using hne))).trans hf
theorem CB.far {w : World} {g : Nat} {t : TypeId} {cs : List Value} (h : CB w g t cs) {p : Addr} (hp : g ≠ p.block) (v : Value) : CB (w.setCell p v) g t cs := h.of_heap (Below.heap_setCell _ _ _ _ hp)
theorem heap_alloc_at (w : World) (o : Obj) (g : Nat) (hg : w.heap.size = g) : (w.alloc o).heap[g]? = some o := by subst hg; exact heap_alloc_new w o
/-- a copy into a block of octets of the call's own -/
theorem copy_run {w : World} {g od n c m c' : Nat} {A : Option Addr} {cur l : List UInt8} (hg : OBlk w g 5 cur) (hfit : od + n ≤ cur.length) (hB : Byts w (.slice A m c') l) (ty : TypeId) :
    ∃ w' x, (Builtin.copy_ #[38, 38] ty #[.slice (some ⟨g, od, none⟩) n c, .slice A m c']).run Tryd.prog w = .ok (.int .i64 x) w' ∧ OBlk w' g 5 (over cur od (l.take n)) ∧ But g w w' := by
  obtain ⟨h0, h1, h2, h3, h4⟩ := hB.open_
  have hlen : (l.take n).length = Nat.min m n := by rw [List.length_take, h0]; exact Nat.min_comm _ _
  by_cases hz : Nat.min m n = 0
  · refine ⟨w, _, run_copy_none w _ _ ty 5 _ _ n c m c' Tryd.underlying38 info_u8s hz, ?_, But.refl _ _⟩
    have : l.take n = [] := List.eq_nil_of_length_eq_zero (by rw [hlen, hz])
    rw [this, over]
    simpa using hg
  · have hm : 0 < m := by
      rcases Nat.eq_zero_or_pos m with e | e
      · rw [e] at hz; exact absurd (Nat.zero_min _) hz
      · exact e
    obtain ⟨b, o, rfl, hr⟩ := h4 hm
    have hle : (l.take n).length ≤ n := List.length_take_le _ _
    have hrun := run_copy_row (P := Tryd.prog) w 38 38 ty 5 g od n c ⟨b, o, none⟩ m c' (bcells cur).toArray 5 (bcells (l.take n)) Tryd.underlying38 info_u8s hg (by rw [bcells_len]; exact hlen)
      (fun j v hv => by
        rw [add_plain]
        refine hr j v ?_
        rw [bcells_take, List.getElem?_take] at hv
        split at hv
        · exact hv
        · cases hv) (by simp only [bcells_len, List.size_toArray]; omega) (bcells_one _)
    refine ⟨_, _, hrun, ?_, ?_⟩
    · unfold OBlk CB
      rw [setRow_heap _ _ _ _ _ _ hg, ← splice_over, splice, List.append_assoc]
    · exact ⟨rfl, rfl, rfl, by simp [World.setRow], fun k _ hne => setRow_other w g k _ (by rintro rfl; exact hne rfl)⟩
theorem wpList_copyB {ops : Array Oper} {rest : List Oper} {o : Oper} {a : Act} {Q : Exit → Act → World → Prop} {w : World} (hgd : o.guard = none) (d s : Operand)
    (ho : o.op = .call { callee := .builtin .copy, args := #[d, s], argTypes := #[38, 38] }) (g od n c m c' : Nat) (A : Option Addr) (cur l : List UInt8) (hd : a.eval d = .slice (some ⟨g, od, none⟩) n c) (hs : a.eval s = .slice A m c')
    (hg : OBlk w g 5 cur) (hfit : od + n ≤ cur.length) (hB : Byts w (.slice A m c') l) (h : ∀ w' x, OBlk w' g 5 (over cur od (l.take n)) → But g w w' → wpList Tryd.prog ops Q rest (a.put o.dst (.int .i64 x)) w') : wpList Tryd.prog ops Q (o :: rest) a w := by
  obtain ⟨w', x, hrun, h1, h2⟩ := copy_run hg hfit hB o.type (c := c)
  refine wpList_plain hgd fun K hK => ?_
  unfold Oper.wp
  simp [execOp, ho, resolve, invoke, builtin, hd, hs, hrun, Result.andThen]
  exact hK _ _ (h w' x h1 h2)
theorem step_copyB {ops : Array Oper} {o : Oper} {a : Act} {K : Act → World → Prop} {Q : Exit → Act → World → Prop} {E : Prop} {w : World} (hgd : o.guard = none) (d s : Operand)
    (ho : o.op = .call { callee := .builtin .copy, args := #[d, s], argTypes := #[38, 38] }) (g od n c m c' : Nat) (A : Option Addr) (cur l : List UInt8) (hd : a.eval d = .slice (some ⟨g, od, none⟩) n c) (hs : a.eval s = .slice A m c')
    (hg : OBlk w g 5 cur) (hfit : od + n ≤ cur.length) (hB : Byts w (.slice A m c') l) (h : ∀ w' x, OBlk w' g 5 (over cur od (l.take n)) → But g w w' → K (a.put o.dst (.int .i64 x)) w') : if Region.wanted o (yielded ops a.tmps) = true then Oper.wp Tryd.prog o a w K Q else E := by
  obtain ⟨w', x, hrun, h1, h2⟩ := copy_run hg hfit hB o.type (c := c)
  have hw : Region.wanted o (yielded ops a.tmps) = true := by simp [Region.wanted, hgd]
  rw [if_pos hw]
  unfold Oper.wp
  simp [execOp, ho, resolve, invoke, builtin, hd, hs, hrun, Result.andThen]
  exact h w' x h1 h2
end Go.Proofs.YtepljgondmkljaaDoor
