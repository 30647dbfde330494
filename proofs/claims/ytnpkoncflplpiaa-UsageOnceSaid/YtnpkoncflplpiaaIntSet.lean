/- A map of numbers to nothing, as a set: it has the numbers of a list. -/
import Derived.Test.YtnpkoncflplpiaaInts
import Derived.Test.YtnpkoncflplpiaaBut
import Derived.Maps.OwnSet
import Derived.Maps.Views
import Derived.Laws.MakeOwn
namespace Go.Proofs.Ytnpkoncflplpiaa
set_option linter.unusedSimpArgs false
set_option linter.unusedVariables false
open Go.RowKit

def IntSet (w : World) (b : Nat) (L : List Int) : Prop := w.ownsMap (H := Unit) Try.prog 3 unitElem b L.length (Maps.setOf (.agg []) (L.map (Lit.int .i64)))
theorem intKeyed : Maps.Keyed Try.prog 3 := Maps.int_keyed Try.underlying3
theorem zeroUnit (w : World) : (zeroValue 49).run Try.prog w = .ok (.agg #[]) w := by kernel_rfl
theorem intSet_new (w : World) : IntSet (w.alloc (.map #[] 0)) w.heap.size [] := World.ownsMap_made w Try.prog 3 unitElem
theorem IntSet.lt {w : World} {b : Nat} {L : List Int} (h : IntSet w b L) : b < w.heap.size := World.ownsMap.lt h
theorem Kept.intSet {w w1 : World} {b : Nat} {L : List Int} (hk : Kept w w1) (h : IntSet w b L) : IntSet w1 b L :=
  World.ownsMap.kept h (hk.but (b + 1)) (by simp)
theorem But.intSet {w w1 : World} {a b : Nat} {L : List Int} (hk : But a w w1) (h : IntSet w b L) (hne : b ≠ a) : IntSet w1 b L :=
  World.ownsMap.kept h hk (by simpa using hne)
theorem IntSet.alloc {w : World} {b : Nat} {L : List Int} (h : IntSet w b L) (o : Obj) : IntSet (w.alloc o) b L := ((Kept.refl w).alloc o).intSet h
theorem IntSet.setCell {w : World} {b : Nat} {L : List Int} (h : IntSet w b L) {p : Addr} (hp : b ≠ p.block) (u : Value) : IntSet (w.setCell p u) b L := World.ownsMap.setCell h hp u
theorem any_sameKey (x : Int) : ∀ l : List Int, (l.map (Lit.int .i64)).any (fun y => y.sameKey (.int .i64 x)) = l.contains x
  | [] => rfl
  | a :: r => by
    rw [List.map_cons, List.any_cons, List.contains_cons, any_sameKey x r]
    congr 1
    show decide (IntKind.i64 = IntKind.i64 ∧ a = x) = (x == a)
    by_cases e : a = x
    · subst e; simp
    · have e' : ¬ x = a := fun h => e h.symm
      simp [e, e']
theorem has_int (L : List Int) (x : Int) : Maps.has (Maps.setOf (H := Unit) (.agg []) (L.map (Lit.int .i64))) (.int .i64 x) = L.contains x := by
  rw [Maps.has_setOf _ _ _ (fun y hy => by obtain ⟨_, _, rfl⟩ := List.mem_map.1 hy; trivial)]
  exact any_sameKey x L
theorem wf_i64 {x : Int} (h0 : -9223372036854775808 ≤ x) (h1 : x ≤ 9223372036854775807) : (Lit.int .i64 x).wf = true := by
  simp only [Lit.wf, Bool.and_eq_true, decide_eq_true_eq]; exact ⟨h0, h1⟩
/-- is the number in the set? -/
theorem wpList_inSet {w : World} {ops : Array Oper} {rest : List Oper} {o : Oper} {a : Act} {Q : Exit → Act → World → Prop} (hg : o.guard = none) (m x : Operand) (hop : o.op = Op.lookup 48 m x true)
    (b : Nat) (L : List Int) (hm : a.eval m = .map (some b)) (hs : IntSet w b L) (y : Int) (hx : a.eval x = .int .i64 y) (h0 : -9223372036854775808 ≤ y) (h1 : y ≤ 9223372036854775807)
    (hK : wpList Try.prog ops Q rest (a.put o.dst (.tuple #[.agg #[], .bool (L.contains y)])) w) : wpList Try.prog ops Q (o :: rest) a w := by
  refine wpList_lookup_own_unit w hg m x 48 hop 3 49 intKeyed Try.underlying48 (zeroUnit w) b L.length _ hm hs _ _ hx (Maps.keyOf_int_mk Try.underlying3 (wf_i64 h0 h1)) ?_
  rw [has_int]
  exact hK
/-- one number more -/
theorem wpList_putSet {w : World} {ops : Array Oper} {rest : List Oper} {o : Oper} {a : Act} {Q : Exit → Act → World → Prop} (hg : o.guard = none) (m x v : Operand) (hop : o.op = Op.mapUpdate 48 m x v)
    (b : Nat) (L : List Int) (hm : a.eval m = .map (some b)) (hs : IntSet w b L) (hl : L.length < 9223372036854775807) (y : Int) (hx : a.eval x = .int .i64 y) (hv : a.eval v = .agg #[]) (h0 : -9223372036854775808 ≤ y) (h1 : y ≤ 9223372036854775807)
    (hK : ∀ w', IntSet w' b (L ++ [y]) → But b w w' → wpList Try.prog ops Q rest (a.put o.dst undef) w') : wpList Try.prog ops Q (o :: rest) a w := by
  refine wpList_mapUpdate_own w hg m x v 48 hop 3 49 intKeyed Try.underlying48 (unitElem (H := Unit)) b L.length _ hm hs (by unfold maxLen; omega) _ _ _ hx hv (Maps.keyOf_int_mk Try.underlying3 (wf_i64 h0 h1)) _ [] unitElem_mk ?_
  intro w' h1 h2
  refine hK w' ?_ h2
  unfold IntSet
  rw [List.map_append, List.map_cons, List.map_nil, Maps.setOf_snoc, List.length_append]
  exact h1
/-- a new row of zeros, two cells an element -/
theorem madeCells_at (z : Array Value) (n j : Nat) (u : Value) (h : ∀ i, i < z.size → z[i]! = u) (hz : 0 < z.size) (hj : j < n) : (madeCells z n)[j]? = some u := by
  have hl : j % z.size < z.size := Nat.mod_lt _ hz
  have e := h _ hl
  simp [madeCells, hj]
  first | exact e | (rw [← e]; simp)
end Go.Proofs.Ytnpkoncflplpiaa
