/- Words for the device: blocks of octets in a row, maps of numbers to numbers. -/
import Derived.Test.YtpbmkokjjcdhfaaBut
import Derived.Deep.MidRow
import Derived.Deep.AppendLies
import Derived.Maps.OwnSet
import Derived.Maps.OwnOps
import Derived.Maps.Views
import Derived.Laws.MakeOwn
import Derived.Laws.Cover3
import Derived.RegionTactic
namespace Go.Proofs.Ytpbmkokjjcdhfaa
set_option linter.unusedSimpArgs false
set_option linter.unusedVariables false
open Go.RowKit

/-- octets as cells -/
def bcells (l : List UInt8) : List Value := l.map fun c => .int .u8 (c.toNat : Int)
theorem bcells_len (l : List UInt8) : (bcells l).length = l.length := by simp [bcells]
theorem bcells_at (l : List UInt8) (i : Nat) (h : i < l.length) : (bcells l)[i]? = some (.int .u8 ((l.getD i 0).toNat : Int)) := by
  simp [bcells, List.getElem?_map, List.getElem?_eq_getElem h, List.getD_eq_getElem?_getD]
theorem bcells_one (l : List UInt8) : ∀ v ∈ bcells l, v.oneCell' = true := by
  intro v hv
  obtain ⟨c, -, rfl⟩ := List.mem_map.1 hv
  rfl
theorem bcells_take (l : List UInt8) (n : Nat) : bcells (l.take n) = (bcells l).take n := by simp [bcells, List.map_take]

/-- cells put into an array, one after the other -/
def splice : Array Value → Nat → List Value → Array Value
  | cs, _, [] => cs
  | cs, o, v :: r => splice (cs.setIfInBounds o v) (o + 1) r
theorem splice_size : ∀ (vs : List Value) (cs : Array Value) (o : Nat), (splice cs o vs).size = cs.size
  | [], _, _ => rfl
  | v :: r, cs, o => by rw [splice, splice_size r]; simp
theorem splice_at : ∀ (vs : List Value) (cs : Array Value) (o j : Nat), o + vs.length ≤ cs.size → (splice cs o vs)[j]? = if o ≤ j ∧ j < o + vs.length then vs[j - o]? else cs[j]?
  | [], cs, o, j, _ => by simp [splice]; omega
  | v :: r, cs, o, j, h => by
    rw [List.length_cons] at h
    rw [splice, splice_at r _ _ _ (by simp; omega), List.length_cons]
    by_cases e : o + 1 ≤ j ∧ j < o + 1 + r.length
    · rw [if_pos e, if_pos (by omega), show j - o = (j - (o + 1)) + 1 by omega, List.getElem?_cons_succ]
    · rw [if_neg e, Array.getElem?_setIfInBounds]
      by_cases e2 : o = j
      · subst e2
        rw [if_pos rfl, if_pos (by omega), if_pos (by omega)]; simp
      · rw [if_neg e2, if_neg (by omega)]
theorem heap_setCells : ∀ (vs : List Value) (w : World) (g o : Nat) (cs : Array Value) (t : TypeId) (fr : Nat × Nat), w.heap[g]? = some (.cells cs t fr) → (w.setCells g o vs).heap[g]? = some (.cells (splice cs o vs) t fr)
  | [], w, g, o, cs, t, fr, h => h
  | v :: r, w, g, o, cs, t, fr, h => by
    rw [World.setCells, splice]
    refine heap_setCells r _ g (o + 1) _ t fr ?_
    simp [World.setCell, Array.getElem?_modify, h]
theorem heap_setCells_ne : ∀ (vs : List Value) (w : World) (g o k : Nat), k ≠ g → (w.setCells g o vs).heap[k]? = w.heap[k]?
  | [], _, _, _, _, _ => rfl
  | v :: r, w, g, o, k, h => by rw [World.setCells, heap_setCells_ne r _ _ _ _ h]; exact Below.heap_setCell _ _ _ _ h
theorem size_setCells : ∀ (vs : List Value) (w : World) (g o : Nat), (w.setCells g o vs).heap.size = w.heap.size
  | [], _, _, _ => rfl
  | v :: r, w, g, o => by rw [World.setCells, size_setCells r]; simp [World.setCell]
theorem setCells_os : ∀ (vs : List Value) (w : World) (g o : Nat), (w.setCells g o vs).os = w.os ∧ (w.setCells g o vs).tape = w.tape ∧ (w.setCells g o vs).output = w.output
  | [], _, _, _ => ⟨rfl, rfl, rfl⟩
  | v :: r, w, g, o => by rw [World.setCells]; exact setCells_os r _ g (o + 1)

/-- block 'g' holds n cells of type t, as 'F' says, none frozen -/
def BlkT (w : World) (g : Nat) (t : TypeId) (n : Nat) (F : Nat → Value) : Prop :=
  ∃ cs, w.heap[g]? = some (.cells cs t (0, 0)) ∧ cs.size = n ∧ ∀ j, j < n → cs[j]? = some (F j)
section
variable {w w1 : World} {g n : Nat} {t : TypeId} {F : Nat → Value}
theorem BlkT.lt (h : BlkT w g t n F) : g < w.heap.size := by
  obtain ⟨cs, h, -⟩ := h
  exact (Array.getElem?_eq_some_iff.1 h).1
theorem BlkT.of_heap (h : BlkT w g t n F) (e : w1.heap[g]? = w.heap[g]?) : BlkT w1 g t n F := by
  obtain ⟨cs, hg, hr⟩ := h
  exact ⟨cs, e.trans hg, hr⟩
theorem BlkT.congr {F' : Nat → Value} (h : BlkT w g t n F) (e : ∀ j, j < n → F j = F' j) : BlkT w g t n F' := by
  obtain ⟨cs, hg, hs, hc⟩ := h
  exact ⟨cs, hg, hs, fun j hj => by rw [hc j hj, e j hj]⟩
theorem BlkT.cell (h : BlkT w g t n F) (j : Nat) (hj : j < n) : w.cell? ⟨g, j, none⟩ = some (F j) := by
  obtain ⟨cs, hg, hs, hc⟩ := h
  simp [World.cell?, hg, hc j hj]
theorem BlkT.frozen (h : BlkT w g t n F) (j : Nat) : w.frozen? ⟨g, j, none⟩ = false := by
  obtain ⟨cs, hg, hs, hc⟩ := h
  simp [World.frozen?, hg]
theorem BlkT.there (h : BlkT w g t n F) (o m : Nat) (hm : o + m ≤ n) : w.there g o m := fun j hj => ⟨by rw [h.cell (o + j) (by omega)]; rfl, h.frozen _⟩
theorem BlkT.setCells (h : BlkT w g t n F) (o : Nat) (vs : List Value) (ho : o + vs.length ≤ n) : BlkT (w.setCells g o vs) g t n (fun j => if o ≤ j ∧ j < o + vs.length then vs.getD (j - o) undef else F j) := by
  obtain ⟨cs, hg, hs, hc⟩ := h
  refine ⟨splice cs o vs, heap_setCells vs w g o cs t _ hg, by rw [splice_size]; exact hs, fun j hj => ?_⟩
  rw [splice_at _ _ _ _ (by omega)]
  dsimp only
  split
  · rename_i e
    rw [List.getD_eq_getElem?_getD, List.getElem?_eq_getElem (show j - o < vs.length by omega)]; rfl
  · exact hc j hj
end

/-- the content of a device -/
def devF (blk : Nat → List UInt8) (j : Nat) : Value := .int .u8 (((blk (j / 128)).getD (j % 128) 0).toNat : Int)
theorem devF_at (blk : Nat → List UInt8) (i k : Nat) (h : k < 128) : devF blk (i * 128 + k) = .int .u8 (((blk i).getD k 0).toNat : Int) := by
  unfold devF
  rw [show (i * 128 + k) / 128 = i by omega, show (i * 128 + k) % 128 = k by omega]
theorem BlkT.range {w : World} {g n : Nat} {t : TypeId} {blk : Nat → List UInt8} (h : BlkT w g t (n * 128) (devF blk)) (i : Nat) (hi : i < n) (hl : (blk i).length = 128) : w.rangeAt g (i * 128) (bcells (blk i)) := by
  intro j v hv
  have hj : j < 128 := by
    have := (List.getElem?_eq_some_iff.1 hv).1
    rw [bcells_len] at this; omega
  rw [h.cell _ (by omega), devF_at _ _ _ hj, ← hv, bcells_at _ _ (by omega)]
/-- a block turned -/
def upd (blk : Nat → List UInt8) (i : Nat) (l : List UInt8) : Nat → List UInt8 := fun j => if j = i then l else blk j
theorem BlkT.write {w : World} {g n : Nat} {t : TypeId} {blk : Nat → List UInt8} (h : BlkT w g t (n * 128) (devF blk)) (i : Nat) (hi : i < n) (l : List UInt8) (hl : l.length ≤ 128) (hb : (blk i).length = 128) :
    BlkT (w.setCells g (i * 128) (bcells l)) g t (n * 128) (devF (upd blk i (l ++ (blk i).drop l.length))) := by
  have hle := bcells_len l
  refine (h.setCells (i * 128) (bcells l) (by omega)).congr fun j hj => ?_
  obtain ⟨q, r, rfl, hr⟩ : ∃ q r, j = q * 128 + r ∧ r < 128 := ⟨j / 128, j % 128, by omega, by omega⟩
  rw [devF_at _ _ _ hr, devF_at _ _ _ hr]
  by_cases hq : q = i
  · subst hq
    have hu : upd blk q (l ++ (blk q).drop l.length) q = l ++ (blk q).drop l.length := by simp [upd]
    rw [hu]
    by_cases hlt : r < l.length
    · rw [if_pos (by omega), show q * 128 + r - q * 128 = r by omega, List.getD_eq_getElem?_getD, bcells_at _ _ hlt]
      rw [List.getD_eq_getElem?_getD, List.getD_eq_getElem?_getD, List.getElem?_append_left hlt]; rfl
    · rw [if_neg (by omega), List.getD_eq_getElem?_getD, List.getD_eq_getElem?_getD, List.getElem?_append_right (by omega), List.getElem?_drop, show l.length + (r - l.length) = r by omega]
  · have hu : upd blk i (l ++ (blk i).drop l.length) q = blk q := by simp [upd, hq]
    rw [hu, if_neg (by omega)]

/-- a map of numbers to numbers -/
def IMap (w : World) (g n : Nat) (m : Int → Option Int) : Prop :=
  ∃ D, w.ownsMap (H := Unit) Try.prog 3 (plainElem Try.prog 3) g n D ∧ ∀ i, -9223372036854775808 ≤ i → i ≤ 9223372036854775807 →
    D.atKey (.int .i64 i) (.lit (.int .i64 0)) = .lit (.int .i64 ((m i).getD 0)) ∧ Maps.has D (.int .i64 i) = (m i).isSome
theorem intKeyed : Maps.Keyed Try.prog 3 := Maps.int_keyed Try.underlying3
theorem zeroInt (w : World) : (zeroValue 3).run Try.prog w = .ok (.int .i64 0) w := by kernel_rfl
theorem wf_i64 {x : Int} (h0 : -9223372036854775808 ≤ x) (h1 : x ≤ 9223372036854775807) : (Lit.int .i64 x).wf = true := by
  simp only [Lit.wf, Bool.and_eq_true, decide_eq_true_eq]; exact ⟨h0, h1⟩
theorem keyInt {x : Int} (h0 : -9223372036854775808 ≤ x) (h1 : x ≤ 9223372036854775807) : keyOf Try.prog 3 (.int .i64 x) = some (.int .i64 x) := Maps.keyOf_int_mk Try.underlying3 (wf_i64 h0 h1)
section
variable {w w1 : World} {g n : Nat} {m : Int → Option Int}
theorem imap_new (w : World) : IMap (w.alloc (.map #[] 0)) w.heap.size 0 (fun _ => none) := ⟨_, World.ownsMap_made w Try.prog 3 _, fun i _ _ => ⟨rfl, rfl⟩⟩
theorem IMap.lt (h : IMap w g n m) : g < w.heap.size := by obtain ⟨D, h, -⟩ := h; exact h.lt
theorem IMap.isMap (h : IMap w g n m) : ∃ es clock, w.heap[g]? = some (.map es clock) := by
  obtain ⟨D, ⟨es, clock, hb, _⟩, -⟩ := h; exact ⟨es, clock, hb⟩
theorem IMap.of_heap (h : IMap w g n m) (e : w1.heap[g]? = w.heap[g]?) : IMap w1 g n m := by
  obtain ⟨D, ⟨es, clock, hb, r⟩, hm⟩ := h
  exact ⟨D, ⟨es, clock, e.trans hb, r⟩, hm⟩
theorem IMap.look (h : IMap w g n m) (i : Int) (h0 : -9223372036854775808 ≤ i) (h1 : i ≤ 9223372036854775807) :
    (Instr.lookup 59 (.map (some g)) (.int .i64 i) false).run Try.prog w = .ok (.int .i64 ((m i).getD 0)) w := by
  obtain ⟨D, hD, hm⟩ := h
  obtain ⟨c, hrun, hat, -⟩ := hD.lookup_int intKeyed Try.underlying59 Try.underlying3 (zeroInt w) (keyInt h0 h1)
  rw [(hm i h0 h1).1] at hat
  simp only [DataW.lit.injEq, Lit.int.injEq, true_and] at hat
  rw [hrun, hat]
theorem IMap.lookok (h : IMap w g n m) (i : Int) (h0 : -9223372036854775808 ≤ i) (h1 : i ≤ 9223372036854775807) :
    (Instr.lookup 59 (.map (some g)) (.int .i64 i) true).run Try.prog w = .ok (.tuple #[.int .i64 ((m i).getD 0), .bool (m i).isSome]) w := by
  obtain ⟨D, hD, hm⟩ := h
  obtain ⟨v, ps, hrun, hv⟩ := hD.look_ok intKeyed Try.underlying59 (zeroInt w) (plainElem_int (H := Unit) Try.underlying3 (by decide)) (keyInt h0 h1)
  rw [(hm i h0 h1).1] at hv
  rw [(hm i h0 h1).2] at hrun
  obtain ⟨a, rfl, hz, -⟩ := plainElem_int_inv Try.underlying3 hv
  simp only [Prod.mk.injEq, DataW.lit.injEq, Lit.int.injEq, true_and] at hz
  rw [hrun, hz.1]
theorem IMap.put (h : IMap w g n m) (hn : n < 9223372036854775807) (i v : Int) (h0 : -9223372036854775808 ≤ i) (h1 : i ≤ 9223372036854775807) (v0 : -9223372036854775808 ≤ v) (v1 : v ≤ 9223372036854775807) :
    ∃ w', (Instr.mapUpdate 59 (.map (some g)) (.int .i64 i) (.int .i64 v)).run Try.prog w = .ok () w' ∧ IMap w' g (n + 1) (fun j => if j = i then some v else m j) ∧ w.mapTurned w' g := by
  obtain ⟨D, hD, hm⟩ := h
  obtain ⟨w', hrun, hD', ht⟩ := hD.store intKeyed Try.underlying59 (by unfold maxLen; omega) (keyInt h0 h1) (plainElem_int (H := Unit) Try.underlying3 (wf_i64 v0 v1))
  refine ⟨w', hrun, ⟨_, hD', fun j j0 j1 => ?_⟩, ht⟩
  dsimp only
  by_cases e : j = i
  · subst e
    rw [if_pos rfl]
    exact ⟨Maps.atKey_put_same hD.isMap (show WideAt.IsKeyLit (.int .i64 j) from trivial) _ _, Maps.has_put_same hD.isMap (show WideAt.IsKeyLit (.int .i64 j) from trivial) _⟩
  · rw [if_neg e, Maps.atKey_put_other (by simpa using e), Maps.has_put_other (by simpa using e)]
    exact hm j j0 j1
theorem IMap.del (h : IMap w g n m) (i : Int) (h0 : -9223372036854775808 ≤ i) (h1 : i ≤ 9223372036854775807) :
    ∃ w', (∀ ty, (Builtin.delete_ #[59, 3] ty #[.map (some g), .int .i64 i]).run Try.prog w = .ok (.tuple #[]) w') ∧ IMap w' g n (fun j => if j = i then none else m j) ∧ w.mapTurned w' g := by
  obtain ⟨D, hD, hm⟩ := h
  obtain ⟨w', hrun, hD', ht⟩ := hD.drop intKeyed Try.underlying59 (keyInt h0 h1) 0
  refine ⟨w', fun ty => hrun, ⟨_, hD', fun j j0 j1 => ?_⟩, ht⟩
  dsimp only
  by_cases e : j = i
  · subst e
    rw [if_pos rfl]
    exact ⟨Maps.atKey_del_same _, Maps.has_del_same⟩
  · rw [if_neg e, Maps.atKey_del_other (by simpa using e), Maps.has_del_other (by simpa using e)]
    exact hm j j0 j1
theorem IMap.clear (h : IMap w g n m) :
    ∃ w', (∀ ty, (Builtin.clear_ #[59] ty #[.map (some g)]).run Try.prog w = .ok (.tuple #[]) w') ∧ IMap w' g 0 (fun _ => none) ∧ w.mapTurned w' g := by
  obtain ⟨D, ⟨es, clock, hb, F, hs, rfl⟩, hm⟩ := h
  refine ⟨ChangeMaps.setBlock w g (.map #[] clock), fun ty => ?_, ⟨.map [], ⟨#[], clock, ChangeMaps.heap_setBlock_same hb _, ⟨by simp, MapKept.stamped_empty clock, by simp⟩, Nat.le_refl _, rfl⟩, fun j _ _ => ⟨rfl, rfl⟩⟩, ⟨es, clock, #[], clock, hb, rfl⟩⟩
  simp [Builtin.clear_, run_underlying Try.underlying59, MapKept.run_getObj_map hb, MapKept.run_setObj_map _ hb, Result.andThen]
  rfl
end
end Go.Proofs.Ytpbmkokjjcdhfaa
