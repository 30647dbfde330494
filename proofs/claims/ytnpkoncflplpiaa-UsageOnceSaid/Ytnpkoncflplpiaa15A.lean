/- How much of each segment lives: plain; slices of uses; haymowref15: Same; haymowlaw15.few. -/
import Derived.Test.Ytnpkoncflplpiaa15Addr
import Derived.Test.YtnpkoncflplpiaaSame
import Derived.Laws.StructEq
namespace Go.Proofs.Ytnpkoncflplpiaa
set_option linter.unusedSimpArgs false
set_option linter.unusedVariables false
open Go.RowKit

def NextPost (L : List Int) (w : World) (e : Ending) (w' : World) : Prop := ∃ v, e = .returned v ∧ Ints w' v L ∧ Kept w w'
def inSeg (s a : Int) : Bool := decide (16 * s < a) && decide (a ≤ 16 * s + 16)
def liveTo (L : List Int) (s : Int) : Nat → Int
  | 0 => 0
  | k + 1 => if inSeg s (L.getD k 0) then liveTo L s k + 1 else liveTo L s k
def tickTo (L T : List Int) (s : Int) : Nat → Int
  | 0 => 0
  | k + 1 => if inSeg s (L.getD k 0) then max (tickTo L T s k) (T.getD k 0) else tickTo L T s k
theorem liveTo_bd (L : List Int) (s : Int) (k : Nat) : 0 ≤ liveTo L s k ∧ liveTo L s k ≤ k := by
  induction k with
  | zero => simp [liveTo]
  | succ k ih => rw [liveTo]; split <;> omega
theorem tickTo_bd (L T : List Int) (s : Int) (hT : ∀ j, j < T.length → 0 ≤ T.getD j 0 ∧ T.getD j 0 ≤ 2147483647) (k : Nat) (hk : k ≤ T.length) : 0 ≤ tickTo L T s k ∧ tickTo L T s k ≤ 2147483647 := by
  induction k with
  | zero => simp [tickTo]
  | succ k ih =>
    have := ih (by omega)
    have := hT k (by omega)
    rw [tickTo]; split <;> omega
def okT (T : List Int) : Bool := T.all fun t => decide (0 ≤ t) && decide (t ≤ 2147483647)
def okL (n : Int) (L : List Int) : Bool := L.all fun a => decide (1 ≤ a) && decide (a ≤ 16 * n)
theorem okT_iff (T : List Int) : okT T = true ↔ ∀ j, j < T.length → 0 ≤ T.getD j 0 ∧ T.getD j 0 ≤ 2147483647 := by
  unfold okT
  rw [List.all_eq_true]
  constructor
  · intro h j hj
    have := h (T.getD j 0) (by rw [List.getD_eq_getElem?_getD, List.getElem?_eq_getElem hj]; exact List.getElem_mem _)
    simpa using this
  · intro h x hx
    obtain ⟨j, hj, rfl⟩ := List.getElem_of_mem hx
    have := h j hj
    rw [List.getD_eq_getElem?_getD, List.getElem?_eq_getElem hj] at this
    simpa using this
theorem okL_iff (n : Int) (L : List Int) : okL n L = true ↔ ∀ j, j < L.length → 1 ≤ L.getD j 0 ∧ L.getD j 0 ≤ 16 * n := by
  unfold okL
  rw [List.all_eq_true]
  constructor
  · intro h j hj
    have := h (L.getD j 0) (by rw [List.getD_eq_getElem?_getD, List.getElem?_eq_getElem hj]; exact List.getElem_mem _)
    simpa using this
  · intro h x hx
    obtain ⟨j, hj, rfl⟩ := List.getElem_of_mem hx
    have := h j hj
    rw [List.getD_eq_getElem?_getD, List.getElem?_eq_getElem hj] at this
    simpa using this
theorem nodup_iff (L : List Int) : L.Nodup ↔ ∀ i j, i < j → j < L.length → L.getD i 0 ≠ L.getD j 0 := by
  unfold List.Nodup
  rw [List.pairwise_iff_getElem]
  constructor
  · intro h i j hij hj
    have := h i j (by omega) hj hij
    simpa [List.getD_eq_getElem?_getD, List.getElem?_eq_getElem hj, List.getElem?_eq_getElem (show i < L.length by omega)] using this
  · intro h i j hi hj hij
    have := h i j hij hj
    simpa [List.getD_eq_getElem?_getD, List.getElem?_eq_getElem hj, List.getElem?_eq_getElem hi] using this
/-- the error's number -/
def cntE (d l v s : Int) (L T : List Int) : Int :=
  if mayB d l v s = false ∨ L.length ≠ T.length then 1 else if okT T = false then 1 else if okL (segsF d l v s) L = false then 4 else if L.Nodup then 0 else 7

/-- the slice value reads as n uses -/
def Uses (w : World) (v : Value) (n : Nat) (f g : Nat → Int) : Prop :=
  ∃ A c, v = .slice A n c ∧ n ≤ c ∧ c ≤ 9223372036854775807 ∧ (0 < n → ∃ b o, A = some ⟨b, o, none⟩ ∧ ∀ i, i < n → w.cell? ⟨b, o + i * 2, none⟩ = some (.int .i64 (f i)) ∧ w.cell? ⟨b, o + i * 2 + 1, none⟩ = some (.int .i64 (g i)))
theorem Kept.uses {w w1 : World} {v : Value} {n : Nat} {f g : Nat → Int} (hk : Kept w w1) (h : Uses w v n f g) : Uses w1 v n f g := by
  obtain ⟨A, c, hv, hc, hm, hr⟩ := h
  refine ⟨A, c, hv, hc, hm, fun hl => ?_⟩
  obtain ⟨b, o, hA, hcell⟩ := hr hl
  exact ⟨b, o, hA, fun i hi => ⟨hk.keeps (hcell i hi).1, hk.keeps (hcell i hi).2⟩⟩
theorem Uses.shape {w : World} {v : Value} {n : Nat} {f g : Nat → Int} (h : Uses w v n f g) : ∃ A c, v = .slice A n c := by
  obtain ⟨A, c, hv, -⟩ := h
  exact ⟨A, c, hv⟩
theorem Uses.cells {w : World} {A : Option Addr} {n c : Nat} {f g : Nat → Int} (h : Uses w (.slice A n c) n f g) (hn : 0 < n) :
    ∃ b o, A = some ⟨b, o, none⟩ ∧ ∀ i, i < n → w.cell? ⟨b, o + i * 2, none⟩ = some (.int .i64 (f i)) ∧ w.cell? ⟨b, o + i * 2 + 1, none⟩ = some (.int .i64 (g i)) := by
  obtain ⟨A', c', hv, _, _, hr⟩ := h
  simp only [Value.slice.injEq, true_and] at hv
  obtain ⟨rfl, rfl⟩ := hv
  exact hr hn
theorem Uses.len {w : World} {A : Option Addr} {n c : Nat} {f g : Nat → Int} (h : Uses w (.slice A n c) n f g) : n ≤ c ∧ c ≤ 9223372036854775807 := by
  obtain ⟨A', c', hv, h1, h2, _⟩ := h
  simp only [Value.slice.injEq, true_and] at hv
  obtain ⟨rfl, rfl⟩ := hv
  exact ⟨h1, h2⟩
theorem uses_nil (w : World) (f g : Nat → Int) : Uses w (.slice none 0 0) 0 f g := ⟨none, 0, rfl, by omega, by omega, by omega⟩
/-- the cells of a row of uses -/
def useRow (f g : Nat → Int) : Nat → List Value
  | 0 => []
  | n + 1 => useRow f g n ++ [.int .i64 (f n), .int .i64 (g n)]
theorem useRow_len (f g : Nat → Int) (n : Nat) : (useRow f g n).length = n * 2 := by
  induction n with
  | zero => rfl
  | succ n ih => simp [useRow, ih]; omega
theorem useRow_at (f g : Nat → Int) (n i : Nat) (h : i < n) : (useRow f g n)[i * 2]? = some (.int .i64 (f i)) ∧ (useRow f g n)[i * 2 + 1]? = some (.int .i64 (g i)) := by
  induction n with
  | zero => omega
  | succ n ih =>
    have hl := useRow_len f g n
    rw [useRow]
    rcases Nat.lt_or_ge i n with hi | hi
    · rw [List.getElem?_append_left (by omega), List.getElem?_append_left (by omega)]; exact ih hi
    · obtain rfl : i = n := by omega
      rw [List.getElem?_append_right (by omega), List.getElem?_append_right (by omega), hl, show i * 2 - i * 2 = 0 by omega, show i * 2 + 1 - i * 2 = 1 by omega]
      exact ⟨rfl, rfl⟩
theorem uses_own {w : World} {base : Nat} {e : TypeId} {v : Value} {n : Nat} {f g : Nat → Int} (h : w.ownsRow base e 2 v n (useRow f g n)) : Uses w v n f g := by
  rcases h.2 with ⟨rfl, hn⟩ | ⟨b, cap, cur, rfl, hb, hg, hnc, hm, hs, hx⟩
  · subst hn; exact uses_nil w f g
  · refine ⟨_, cap, rfl, hnc, by unfold maxLen at hm; omega, fun h0 => ⟨b, 0, rfl, fun i hi => ?_⟩⟩
    have h1 := h.cellAt (i * 2) (by omega)
    have h2 := h.cellAt (i * 2 + 1) (by omega)
    obtain ⟨u1, u2⟩ := useRow_at f g n i hi
    rw [u1] at h1
    rw [u2] at h2
    refine ⟨by rw [Nat.zero_add]; exact h1, by rw [Nat.zero_add]; exact h2⟩

def CountPost (d l v s : Int) (L T : List Int) (w : World) (e : Ending) (w' : World) : Prop :=
  ∃ x, e = .returned (.tuple #[x, .int .i64 (cntE d l v s L T)]) ∧
    ((cntE d l v s L T = 0 ∧ Uses w' x (segsF d l v s).toNat (fun k => liveTo L k L.length) (fun k => tickTo L T k L.length)) ∨ (cntE d l v s L T ≠ 0 ∧ x = .slice none 0 0)) ∧ Kept w w'
theorem CountPost.err {d l v s : Int} {L T : List Int} {w w' : World} {x : Int} (h : cntE d l v s L T = x) (hx : x ≠ 0) (hk : Kept w w') : CountPost d l v s L T w (.returned (.tuple #[.slice none 0 0, .int .i64 x])) w' :=
  ⟨_, by rw [h], .inr ⟨by rw [h]; exact hx, rfl⟩, hk⟩

theorem few_ints (L : List Int) (v : Value) (w : World) (hL : Ints w v L) : Calls Try.prog 7 #[v] w fun e w' => ∃ v', e = .returned v' ∧ Ints w' v' (L.take 60) ∧ w = w' := by
  obtain ⟨A, c, rfl⟩ := hL.shape
  obtain ⟨-, h1, h2⟩ := hL.len
  by_cases hl : 60 < L.length
  · have hl' : (60 : Int) < (L.length : Int) := by omega
    have hc60 : 60 ≤ c := by omega
    have HL := hid hL; clear hL
    generalize L.length = n at *
    go_enter Try.func7, Try.ntmps7
    go_wp2
    go_ret
    exact ⟨_, rfl, HL.out.take 60 (by omega), rfl⟩
  · have hl' : ¬ (60 : Int) < (L.length : Int) := by omega
    have HL := hid hL; clear hL
    have e : L.take 60 = L := List.take_of_length_le (by omega)
    have HE := hid e; clear e hl
    generalize hn : L.length = n at *
    have HN := hid hn; clear hn
    go_enter Try.func7, Try.ntmps7
    go_wp2
    go_ret
    exact ⟨_, rfl, by rw [HE.out]; exact HL.out, rfl⟩

theorem neq_use (a b c d : Int) (W : World) : (Go.binOp .neq 54 (.agg #[.int .i64 a, .int .i64 b]) (.agg #[.int .i64 c, .int .i64 d])).run Try.prog W = .ok (.bool (!(a == c && b == d))) W := by
  have hp : Try.prog.stoodInHeld 54 = false := by kernel_rfl
  have hfd : Try.prog.underlying 54 = some (.struct (Try.prog.fieldsOf 54)) := by kernel_rfl
  rw [run_neq_struct, show (10000 : Nat) = 9999 + 1 from rfl, run_equalIn_agg W 9999 54 _ _ hfd hp]
  have hf : (Try.prog.fieldsOf 54).toList.map (fun f => (f.name, f.type, f.offset)) = [("Live", 3, 0), ("Tick", 3, 1)] := by kernel_rfl
  generalize (Try.prog.fieldsOf 54).toList = l at hf
  rcases l with _ | ⟨f0, _ | ⟨f1, _ | ⟨f2, l⟩⟩⟩
  · simp at hf
  · simp at hf
  · simp only [List.map_cons, List.map_nil, List.cons.injEq, Prod.mk.injEq, and_true] at hf
    obtain ⟨⟨a1, a2, a3⟩, b1, b2, b3⟩ := hf
    have pt : ∀ (xs : Array Value) (k : Nat) (v : Value), xs[k]? = some v → (part 3 xs k).run Try.prog W = .ok v W := fun xs k v h => by simp [part, isAgg, run_underlying Try.underlying3, h]
    have ei : ∀ x y : Int, (Op.equalIn 9999 3 (.int .i64 x) (.int .i64 y)).run Try.prog W = .ok (x == y) W := fun x y => run_equalIn_int W 9998 3 .i64 .i64 _ _ Try.underlying3
    simp only [Op.eqFields, a1, a2, a3, b1, b2, b3]
    by_cases h : a = c
    · subst h
      simp [pt #[.int .i64 a, .int .i64 b] 0 _ rfl, pt #[.int .i64 a, .int .i64 b] 1 _ rfl, pt #[.int .i64 a, .int .i64 d] 0 _ rfl, pt #[.int .i64 a, .int .i64 d] 1 _ rfl, ei]
      by_cases hbd : b = d <;> simp [hbd]
    · have h' : (a == c) = false := by simpa using h
      simp [pt #[.int .i64 a, .int .i64 b] 0 _ rfl, pt #[.int .i64 c, .int .i64 d] 0 _ rfl, ei, h']
  · simp at hf
theorem neq_use_guard (xs ys : Array Value) (x y : Operand) (W : World) : (eqGuard .neq 54 x y (.agg xs) (.agg ys)).run Try.prog W = .ok () W :=
  run_eqGuard_agg W .neq 54 x y xs ys (by kernel_rfl)
end Go.Proofs.Ytnpkoncflplpiaa
