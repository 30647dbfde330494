/- Words for memory: slices of octets, slices of pieces, files; blocks known whole. -/
import Derived.Test.YtiiogglflpladaaDoorInts
import Derived.Test.YtiiogglflpladaaDoorBut
import Derived.Test.YtiiogglflpladaaDoor19M
import Derived.Deep.MidRow
import Derived.Deep.AppendLies
import Derived.Laws.MakeOwn
import Derived.Laws.CopyOwn
import Derived.Laws.IdiomCopy
import Derived.RegionTactic
namespace Go.Proofs.YtiiogglflpladaaDoor
set_option linter.unusedSimpArgs false
set_option linter.unusedVariables false
open Go.RowKit

/-- octets as cells -/
def bcells (l : List UInt8) : List Value := l.map fun c => .int .u8 (c.toNat : Int)
theorem bcells_len (l : List UInt8) : (bcells l).length = l.length := by simp [bcells]
theorem bcells_at (l : List UInt8) (i : Nat) (h : i < l.length) : (bcells l)[i]? = some (.int .u8 ((l.getD i 0).toNat : Int)) := by
  simp [bcells, List.getElem?_map, List.getElem?_eq_getElem h, List.getD_eq_getElem?_getD]
theorem bcells_one (l : List UInt8) : ∀ v ∈ bcells l, v.oneCell' = true := by
  intro v hv
  obtain ⟨c, -, rfl⟩ := List.mem_map.1 hv
  rfl
theorem bcells_take (l : List UInt8) (n : Nat) : bcells (l.take n) = (bcells l).take n := by simp [bcells, List.map_take]
theorem bcells_drop (l : List UInt8) (n : Nat) : bcells (l.drop n) = (bcells l).drop n := by simp [bcells, List.map_drop]
theorem bcells_app (a b : List UInt8) : bcells (a ++ b) = bcells a ++ bcells b := by simp [bcells]
theorem splice_over (l : List UInt8) (o : Nat) (c : List UInt8) : splice (bcells l) o (bcells c) = bcells (over l o c) := by
  rw [splice, over, bcells_len, bcells_app, bcells_app, bcells_take, bcells_drop, List.append_assoc]

/-- block g holds just these cells -/
def CB (w : World) (g : Nat) (t : TypeId) (cs : List Value) : Prop := w.heap[g]? = some (.cells cs.toArray t (0, 0))
section
variable {w w1 : World} {g : Nat} {t : TypeId} {cs : List Value}
theorem CB.lt (h : CB w g t cs) : g < w.heap.size := (Array.getElem?_eq_some_iff.1 h).1
theorem CB.cell (h : CB w g t cs) (j : Nat) (hj : j < cs.length) : w.cell? ⟨g, j, none⟩ = some cs[j] := by
  unfold CB at h; simp [World.cell?, h, hj]
theorem CB.frozen (h : CB w g t cs) (j : Nat) : w.frozen? ⟨g, j, none⟩ = false := by
  unfold CB at h; simp [World.frozen?, h]
theorem CB.of_heap (h : CB w g t cs) (e : w1.heap[g]? = w.heap[g]?) : CB w1 g t cs := e.trans h
theorem Kept.cb (k : Kept w w1) (h : CB w g t cs) : CB w1 g t cs := h.of_heap (k.block _ h.lt)
theorem cb_new (w : World) (t : TypeId) (cs : List Value) : CB (w.alloc (.cells cs.toArray t)) w.heap.size t cs := heap_alloc_new w _
theorem CB.set (h : CB w g t cs) (j : Nat) (v : Value) : CB (w.setCell ⟨g, j, none⟩ v) g t (cs.set j v) := by
  unfold CB at *
  simp [World.setCell, Array.getElem?_modify, h]
theorem CB.drew (h : CB w g t cs) : CB w.drew g t cs := h
end
/-- a block of octets -/
def OBlk (w : World) (g : Nat) (t : TypeId) (l : List UInt8) : Prop := CB w g t (bcells l)
section
variable {w w1 : World} {g : Nat} {t : TypeId} {l : List UInt8}
theorem OBlk.lt (h : OBlk w g t l) : g < w.heap.size := CB.lt h
theorem OBlk.cell (h : OBlk w g t l) (j : Nat) (hj : j < l.length) : w.cell? ⟨g, j, none⟩ = some (.int .u8 ((l.getD j 0).toNat : Int)) := by
  rw [CB.cell h j (by rw [bcells_len]; exact hj), ← bcells_at l j hj, List.getElem?_eq_getElem]
theorem OBlk.range (h : OBlk w g t l) : w.rangeAt g 0 (bcells l) := fun j v hv => by
  have hj : j < l.length := by rw [← bcells_len]; exact (List.getElem?_eq_some_iff.1 hv).1
  rw [Nat.zero_add, h.cell j hj, ← bcells_at l j hj, hv]
theorem Kept.oblk (k : Kept w w1) (h : OBlk w g t l) : OBlk w1 g t l := k.cb h
end

/-- a slice of octets that is read -/
def Byts (w : World) (v : Value) (l : List UInt8) : Prop :=
  ∃ A c, v = .slice A l.length c ∧ l.length ≤ c ∧ c ≤ 9223372036854775807 ∧ (A = none → c = 0) ∧ (0 < l.length → ∃ b o, A = some ⟨b, o, none⟩ ∧ w.rangeAt b o (bcells l))
theorem Kept.range {w w1 : World} (k : Kept w w1) {b o : Nat} {cs : List Value} (h : w.rangeAt b o cs) : w1.rangeAt b o cs := fun j v hv => k.keeps (h j v hv)
theorem Kept.byts {w w1 : World} {v : Value} {l : List UInt8} (k : Kept w w1) (h : Byts w v l) : Byts w1 v l := by
  obtain ⟨A, c, hv, h1, h2, h3, h4⟩ := h
  refine ⟨A, c, hv, h1, h2, h3, fun hl => ?_⟩
  obtain ⟨b, o, hA, hr⟩ := h4 hl
  exact ⟨b, o, hA, k.range hr⟩
theorem byts_nil (w : World) : Byts w (.slice none 0 0) [] := ⟨none, 0, rfl, by simp, by omega, fun _ => rfl, by simp⟩
theorem Byts.shape {w : World} {v : Value} {l : List UInt8} (h : Byts w v l) : ∃ A c, v = .slice A l.length c := by
  obtain ⟨A, c, hv, _⟩ := h; exact ⟨A, c, hv⟩
section
variable {w : World} {A : Option Addr} {n c : Nat} {l : List UInt8}
theorem Byts.open_ (h : Byts w (.slice A n c) l) : l.length = n ∧ n ≤ c ∧ c ≤ 9223372036854775807 ∧ (A = none → c = 0) ∧ (0 < n → ∃ b o, A = some ⟨b, o, none⟩ ∧ w.rangeAt b o (bcells l)) := by
  obtain ⟨A', c', hv, h1, h2, h3, h4⟩ := h
  simp only [Value.slice.injEq] at hv
  obtain ⟨rfl, rfl, rfl⟩ := hv
  exact ⟨rfl, h1, h2, h3, h4⟩
theorem byts_mk {b o : Nat} (hl : l.length = n) (hc : n ≤ c) (hm : c ≤ 9223372036854775807) (h : w.rangeAt b o (bcells l)) : Byts w (.slice (some ⟨b, o, none⟩) n c) l := by
  subst hl
  exact ⟨_, c, rfl, hc, hm, by simp, fun _ => ⟨b, o, rfl, h⟩⟩
theorem Byts.cell (h : Byts w (.slice A n c) l) (j : Nat) (hj : j < n) : ∃ b o, A = some ⟨b, o, none⟩ ∧ w.cell? ⟨b, o + j, none⟩ = some (.int .u8 ((l.getD j 0).toNat : Int)) := by
  obtain ⟨h0, -, -, -, h4⟩ := h.open_
  obtain ⟨b, o, hA, hr⟩ := h4 (by omega)
  exact ⟨b, o, hA, hr j _ (bcells_at l j (by omega))⟩
theorem Byts.cells (h : Byts w (.slice A n c) l) (hn : 0 < n) : ∃ b o, A = some ⟨b, o, none⟩ ∧ ∀ j, j < n → w.cell? ⟨b, o + j, none⟩ = some (.int .u8 ((l.getD j 0).toNat : Int)) := by
  obtain ⟨h0, -, -, -, h4⟩ := h.open_
  obtain ⟨b, o, hA, hr⟩ := h4 hn
  exact ⟨b, o, hA, fun j hj => hr j _ (bcells_at l j (by omega))⟩
/-- the rest of a slice -/
def restA (A : Option Addr) (c k s : Nat) : Option Addr := if c = k then A else A.map (·.add (k * s))
theorem add_plain (b o k : Nat) : (⟨b, o, none⟩ : Addr).add k = ⟨b, o + k, none⟩ := by unfold Addr.add; split <;> simp_all
theorem Byts.drop (h : Byts w (.slice A n c) l) (k : Nat) (hk : k ≤ n) : Byts w (.slice (restA A c k 1) (n - k) (c - k)) (l.drop k) := by
  obtain ⟨h0, h1, h2, h3, h4⟩ := h.open_
  refine ⟨_, _, by rw [List.length_drop, h0], by rw [List.length_drop]; omega, by omega, fun e => ?_, fun hl => ?_⟩
  · unfold restA at e
    split at e
    · have := h3 e; omega
    · have := h3 (Option.map_eq_none_iff.1 e); omega
  · rw [List.length_drop] at hl
    obtain ⟨b, o, rfl, hr⟩ := h4 (by omega)
    unfold restA
    rw [if_neg (by omega)]
    refine ⟨b, o + k, by rw [Option.map_some, add_plain, Nat.mul_one], fun j v hv => ?_⟩
    rw [bcells_drop, List.getElem?_drop] at hv
    have := hr (k + j) v hv
    rwa [Nat.add_assoc]
theorem Byts.take (h : Byts w (.slice A n c) l) (k : Nat) (hk : k ≤ n) : Byts w (.slice A k c) (l.take k) := by
  obtain ⟨h0, h1, h2, h3, h4⟩ := h.open_
  have hl : (l.take k).length = k := by simp; omega
  refine ⟨A, c, by rw [hl], by omega, h2, h3, fun hl' => ?_⟩
  obtain ⟨b, o, hA, hr⟩ := h4 (by omega)
  refine ⟨b, o, hA, fun j v hv => hr j v ?_⟩
  rw [bcells_take, List.getElem?_take] at hv
  split at hv
  · exact hv
  · cases hv
end

/-- a slice of pieces that is read -/
def PcAt (w : World) (b o : Nat) (p : Pc) : Prop := w.cell? ⟨b, o, none⟩ = some (.int .i64 p.n) ∧ ∃ vb, w.cell? ⟨b, o + 1, none⟩ = some vb ∧ Byts w vb p.b
def Pcs (w : World) (v : Value) (L : List Pc) : Prop :=
  ∃ A c, v = .slice A L.length c ∧ L.length ≤ c ∧ c ≤ 9223372036854775807 ∧ (A = none → c = 0) ∧ (0 < L.length → ∃ b o, A = some ⟨b, o, none⟩ ∧ ∀ i p, L[i]? = some p → PcAt w b (o + i * 2) p)
/-- a file that is read -/
def Sp (w : World) (v : Value) (f : Fl) : Prop := ∃ vl, v = .agg #[.int .i64 f.size, vl] ∧ Pcs w vl f.L
section
variable {w w1 : World}
theorem Kept.pcAt (k : Kept w w1) {b o : Nat} {p : Pc} (h : PcAt w b o p) : PcAt w1 b o p := by
  obtain ⟨h1, vb, h2, h3⟩ := h
  exact ⟨k.keeps h1, vb, k.keeps h2, k.byts h3⟩
theorem Kept.pcs (k : Kept w w1) {v : Value} {L : List Pc} (h : Pcs w v L) : Pcs w1 v L := by
  obtain ⟨A, c, hv, h1, h2, h3, h4⟩ := h
  refine ⟨A, c, hv, h1, h2, h3, fun hl => ?_⟩
  obtain ⟨b, o, hA, hr⟩ := h4 hl
  exact ⟨b, o, hA, fun i p hp => k.pcAt (hr i p hp)⟩
theorem Kept.sp (k : Kept w w1) {v : Value} {f : Fl} (h : Sp w v f) : Sp w1 v f := by
  obtain ⟨vl, hv, h⟩ := h; exact ⟨vl, hv, k.pcs h⟩
theorem pcs_nil (w : World) : Pcs w (.slice none 0 0) [] := ⟨none, 0, rfl, by simp, by omega, fun _ => rfl, by simp⟩
theorem Pcs.shape {v : Value} {L : List Pc} (h : Pcs w v L) : ∃ A c, v = .slice A L.length c := by
  obtain ⟨A, c, hv, _⟩ := h; exact ⟨A, c, hv⟩
variable {A : Option Addr} {n c : Nat} {L : List Pc}
theorem Pcs.open_ (h : Pcs w (.slice A n c) L) : L.length = n ∧ n ≤ c ∧ c ≤ 9223372036854775807 ∧ (A = none → c = 0) ∧ (0 < n → ∃ b o, A = some ⟨b, o, none⟩ ∧ ∀ i p, L[i]? = some p → PcAt w b (o + i * 2) p) := by
  obtain ⟨A', c', hv, h1, h2, h3, h4⟩ := h
  simp only [Value.slice.injEq] at hv
  obtain ⟨rfl, rfl, rfl⟩ := hv
  exact ⟨rfl, h1, h2, h3, h4⟩
theorem Pcs.at_ (h : Pcs w (.slice A n c) L) (i : Nat) (hi : i < n) : ∃ b o p, A = some ⟨b, o, none⟩ ∧ L[i]? = some p ∧ PcAt w b (o + i * 2) p := by
  obtain ⟨h0, -, -, -, h4⟩ := h.open_
  obtain ⟨b, o, hA, hr⟩ := h4 (by omega)
  have := List.getElem?_eq_getElem (show i < L.length by omega)
  exact ⟨b, o, _, hA, this, hr i _ this⟩
theorem Pcs.drop (h : Pcs w (.slice A n c) L) (k : Nat) (hk : k ≤ n) : Pcs w (.slice (restA A c k 2) (n - k) (c - k)) (L.drop k) := by
  obtain ⟨h0, h1, h2, h3, h4⟩ := h.open_
  refine ⟨_, _, by rw [List.length_drop, h0], by rw [List.length_drop]; omega, by omega, fun e => ?_, fun hl => ?_⟩
  · unfold restA at e
    split at e
    · have := h3 e; omega
    · have := h3 (Option.map_eq_none_iff.1 e); omega
  · rw [List.length_drop] at hl
    obtain ⟨b, o, rfl, hr⟩ := h4 (by omega)
    unfold restA
    rw [if_neg (by omega)]
    refine ⟨b, o + k * 2, by rw [Option.map_some, add_plain], fun i p hp => ?_⟩
    rw [List.getElem?_drop] at hp
    have := hr (k + i) p hp
    rwa [show o + k * 2 + i * 2 = o + (k + i) * 2 by omega]
theorem Pcs.take (h : Pcs w (.slice A n c) L) (k : Nat) (hk : k ≤ n) : Pcs w (.slice A k c) (L.take k) := by
  obtain ⟨h0, h1, h2, h3, h4⟩ := h.open_
  have hl : (L.take k).length = k := by simp; omega
  refine ⟨A, c, by rw [hl], by omega, h2, h3, fun hl' => ?_⟩
  obtain ⟨b, o, hA, hr⟩ := h4 (by omega)
  refine ⟨b, o, hA, fun i p hp => hr i p ?_⟩
  rw [List.getElem?_take] at hp
  split at hp
  · exact hp
  · cases hp
end

/-- pieces of the call's own: the row of them, and each one's block -/
def pcells : List (Pc × Nat) → List Value
  | [] => []
  | p :: r => [.int .i64 p.1.n, .slice (some ⟨p.2, 0, none⟩) 128 128] ++ pcells r
theorem pcells_app (a b : List (Pc × Nat)) : pcells (a ++ b) = pcells a ++ pcells b := by
  induction a with
  | nil => rfl
  | cons p r ih => rw [List.cons_append, pcells, ih, pcells, List.append_assoc]
theorem pcells_len (a : List (Pc × Nat)) : (pcells a).length = a.length * 2 := by
  induction a with
  | nil => rfl
  | cons p r ih => rw [pcells, List.length_append, ih]; simp; omega
theorem pcells_at (a : List (Pc × Nat)) (i : Nat) (p : Pc × Nat) (h : a[i]? = some p) : (pcells a)[i * 2]? = some (.int .i64 p.1.n) ∧ (pcells a)[i * 2 + 1]? = some (.slice (some ⟨p.2, 0, none⟩) 128 128) := by
  induction a generalizing i with
  | nil => simp at h
  | cons q r ih =>
    rcases i with _ | i
    · simp only [List.getElem?_cons_zero, Option.some.injEq] at h
      subst h
      exact ⟨rfl, rfl⟩
    · rw [List.getElem?_cons_succ] at h
      obtain ⟨h1, h2⟩ := ih i h
      refine ⟨?_, ?_⟩
      · rw [pcells, show (i + 1) * 2 = i * 2 + 1 + 1 by omega]; exact h1
      · rw [pcells, show (i + 1) * 2 + 1 = i * 2 + 1 + 1 + 1 by omega]; exact h2
structure Own (w : World) (base : Nat) (v : Value) (a : List (Pc × Nat)) : Prop where
  row : w.ownsRow base 64 2 v a.length (pcells a)
  blk : ∀ p ∈ a, base ≤ p.2 ∧ p.1.b.length = 128 ∧ OBlk w p.2 5 p.1.b
section
variable {w w1 : World} {base : Nat} {v : Value} {a : List (Pc × Nat)}
theorem own_nil (w : World) (base : Nat) : Own w base (.slice none 0 0) [] := ⟨⟨rfl, .inl ⟨rfl, rfl⟩⟩, fun _ h => by cases h⟩
theorem Kept.own (k : Kept w w1) (h : Own w base v a) : Own w1 base v a := ⟨k.row h.row, fun p hp => ⟨(h.blk p hp).1, (h.blk p hp).2.1, k.oblk (h.blk p hp).2.2⟩⟩
theorem Own.low {base' : Nat} (h : Own w base v a) (hb : base' ≤ base) : Own w base' v a := ⟨ownsRow_base h.row hb, fun p hp => ⟨Nat.le_trans hb (h.blk p hp).1, (h.blk p hp).2⟩⟩
theorem Own.pcs (h : Own w base v a) : Pcs w v (a.map (·.1)) := by
  rcases Nat.eq_zero_or_pos a.length with h0 | h0
  · obtain rfl := List.eq_nil_of_length_eq_zero h0
    rcases h.row.2 with ⟨rfl, _⟩ | ⟨g, cap, cur, rfl, hb, hg, hnc, hm, _⟩
    · exact pcs_nil w
    · exact ⟨_, cap, rfl, by simp, by unfold maxLen at hm; omega, by simp, by simp⟩
  · rcases h.row.2 with ⟨rfl, hn⟩ | ⟨g, cap, cur, rfl, hb, hg, hnc, hm, hs, hx⟩
    · omega
    · refine ⟨_, cap, by rw [List.length_map], by rw [List.length_map]; omega, by unfold maxLen at hm; omega, by simp, fun _ => ⟨g, 0, rfl, fun i p hp => ?_⟩⟩
      rw [List.getElem?_map] at hp
      obtain ⟨q, hq, rfl⟩ := Option.map_eq_some_iff.1 hp
      obtain ⟨c1, c2⟩ := pcells_at a i q hq
      have hi : i < a.length := (List.getElem?_eq_some_iff.1 hq).1
      have hl := pcells_len a
      have e1 := h.row.cellAt (g := g) (cap := cap) (i * 2) (by omega)
      have e2 := h.row.cellAt (g := g) (cap := cap) (i * 2 + 1) (by omega)
      obtain ⟨b1, b2, b3⟩ := h.blk q (List.mem_of_getElem? hq)
      refine ⟨?_, _, ?_, byts_mk b2 (Nat.le_refl _) (by omega) b3.range⟩
      · rw [Nat.zero_add, e1]; exact c1
      · rw [Nat.zero_add, e2]; exact c2
end
end Go.Proofs.YtiiogglflpladaaDoor
