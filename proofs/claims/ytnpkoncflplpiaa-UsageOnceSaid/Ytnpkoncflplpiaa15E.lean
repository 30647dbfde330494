/- Two boxed slices of numbers that a round of a range over a function fills; appends in a fence. -/
import Derived.Test.Ytnpkoncflplpiaa15D
import Derived.Laws.AppendOwnNone
namespace Go.Proofs.Ytnpkoncflplpiaa
set_option linter.unusedSimpArgs false
set_option linter.unusedVariables false
open Go.RowKit Go.Shelf

theorem wpListIn_append_own_none {F : Fence} {nF : Nat} {P : Program} {w : World} {ops : Array Oper} {rest : List Oper} {o : Oper} {a : Act} {Q : Exit → Act → World → Prop} (hgd : o.guard = none) (s x : Operand) (t : TypeId)
    (ho : o.op = .call { callee := .builtin .append, args := #[s, x], argTypes := #[t, t] })
    (base : Nat) (e : TypeId) (i : TypeInfo) (size : Nat) (ht : P.underlying t = some (.slice e)) (hi : P.info? e = some i)
    (v : Value) (n : Nat) (xs : List Value) (hs : a.eval s = v) (hown : w.ownsRow base e size v n xs) (hx : a.eval x = .slice none 0 0)
    (h : wpListIn F nF P ops Q rest (a.put o.dst v) w) : wpListIn F nF P ops Q (o :: rest) a w := by
  refine wpListIn_plain hgd fun K hK => ?_
  have hrun := run_append_owned_none (P := P) (w := w) base t o.type e i size ht hi v n xs hown
  unfold Oper.wpIn
  refine ⟨by simp [Oper.about, ho, resolve, Target.leads, Sem.run_pure], ?_⟩
  rw [Oper.semAt_plain F _ _ (by rw [ho]; intro c hc'; cases hc')]
  simp [execOp, ho, resolve, invoke, builtin, hs, hx, hrun, Result.andThen]
  exact hK _ _ h

/-- 'append(s, xs...)', s the loop's own, xs a slice of numbers that is read. -/
theorem wpListIn_append_ints {F : Fence} {nF : Nat} {ops : Array Oper} {rest : List Oper} {o : Oper} {a : Act} {Q : Exit → Act → World → Prop} {w : World} (hgd : o.guard = none) (s x : Operand)
    (ho : o.op = .call { callee := .builtin .append, args := #[s, x], argTypes := #[24, 24] })
    (base : Nat) (v : Value) (n : Nat) (xs L : List Int) (vx : Value) (hs : a.eval s = v) (hown : w.ownsRow base 3 1 v n (xs.map (Value.int .i64))) (hx : a.eval x = vx)
    (hL : Ints w vx L) (hn : (n + L.length) * 8 ≤ 140737488355328) (hb : base ≤ w.heap.size)
    (h : ∀ v' w', w'.ownsRow base 3 1 v' (n + L.length) ((xs ++ L).map (Value.int .i64)) → w.grownBy w' v.ownBlock → wpListIn F nF Try.prog ops Q rest (a.put o.dst v') w') :
    wpListIn F nF Try.prog ops Q (o :: rest) a w := by
  obtain ⟨i, hi, hz, hsize, hbytes⟩ := info_parts info_int
  obtain ⟨A, c, rfl⟩ := hL.shape
  obtain ⟨-, hc1, hc2⟩ := hL.len
  have h63 : n + L.length ≤ maxLen := by unfold maxLen; omega
  have key : ∀ ad : Addr, a.eval x = .slice (some ad) L.length c → (∀ j u, (L.map (Value.int .i64))[j]? = some u → w.cell? (ad.add j) = some u) → wpListIn F nF Try.prog ops Q (o :: rest) a w := by
    intro ad hx' hnews
    refine wpListIn_append_own _ hgd s x 24 ho base 3 i _ 1 8 Try.underlying24 hi hz hsize hbytes rfl (by omega) v n _ hs hown ad L.length c (L.map (Value.int .i64)) hx' (by simp) hnews (oneCell_ints L) h63 hn hb ?_
    intro v' w' h2 h3 _
    exact h v' w' (by simpa using h2) h3
  rcases A with _ | ad
  · have hl0 : L = [] := by
      rcases Nat.eq_zero_or_pos L.length with h0 | h0
      · exact List.eq_nil_of_length_eq_zero h0
      · obtain ⟨b, o', hA, _⟩ := hL.cells h0
        cases hA
    subst hl0
    obtain ⟨-, rfl⟩ := hL.nil0
    refine wpListIn_append_own_none hgd s x 24 ho base 3 i 1 Try.underlying24 hi v n _ hs hown (by simpa using hx) ?_
    have := h v w (by simpa using hown) ⟨rfl, rfl, rfl, Nat.le_refl _, fun _ _ _ => rfl⟩
    simpa using this
  · refine key ad hx fun j u hu => ?_
    have hj : j < L.length := by
      have := (List.getElem?_eq_some_iff.1 hu).1; simpa using this
    obtain ⟨b, o', hA, hcell⟩ := hL.cells (by omega)
    cases hA
    have : (⟨b, o', none⟩ : Addr).add j = ⟨b, o' + j, none⟩ := by unfold Addr.add; split <;> simp_all
    rw [this, hcell j hj, ← getD_map L j hj, hu]

/-- a boxed row of the loop's own -/
def RowAt (W : World) (B base : Nat) (v : Value) (L : List Int) : Prop := Boxed W B 24 v ∧ W.ownsRow base 3 1 v L.length (L.map (Value.int .i64))
/-- two of them, apart -/
def Two (W : World) (B1 B2 base : Nat) (v1 v2 : Value) (L1 L2 : List Int) : Prop := RowAt W B1 base v1 L1 ∧ RowAt W B2 base v2 L2 ∧ (∀ k, v1.ownBlock = some k → v2.ownBlock ≠ some k)
theorem Two.swap {W : World} {B1 B2 base : Nat} {v1 v2 : Value} {L1 L2 : List Int} (h : Two W B1 B2 base v1 v2 L1 L2) : Two W B2 B1 base v2 v1 L2 L1 := ⟨h.2.1, h.1, fun k e e' => h.2.2 k e' e⟩
theorem RowAt.kept {W W' : World} {B base : Nat} {v : Value} {L : List Int} (h : RowAt W B base v L) {row : Option Nat} (hg : W.grownBy W' row) (h1 : some B ≠ row) (h2 : ∀ k, v.ownBlock = some k → row ≠ some k) : RowAt W' B base v L := by
  refine ⟨h.1.kept hg h1, h.2.kept hg ?_⟩
  rcases h.2.2 with ⟨rfl, _⟩ | ⟨g, cap, cur, rfl, _⟩
  · exact .inl rfl
  · exact .inr fun e => h2 g rfl e.symm
theorem Two.own (B1 B2 base : Nat) (v1 v2 : Value) (L1 L2 : List Int) {W W' : World} {row : Option Nat} (h : Two W B1 B2 base v1 v2 L1 L2) (hg : W.grownBy W' row) (hr : ∀ r, row = some r → ∃ o : Obj, W.heap[r]? = some o ∧ o.isCells = false) : Two W' B1 B2 base v1 v2 L1 L2 := by
  have key : ∀ {B : Nat} {v : Value} {L : List Int}, RowAt W B base v L → RowAt W' B base v L := by
    intro B v L h
    refine h.kept hg (fun e => ?_) (fun k e e' => ?_)
    · obtain ⟨o, ho, hc⟩ := hr B e.symm
      rw [show W.heap[B]? = _ from h.1] at ho; cases ho; cases hc
    · obtain ⟨o, ho, hc⟩ := hr k e'
      rcases h.2.2 with ⟨rfl, _⟩ | ⟨g, cap, cur, rfl, _, hgb, _⟩
      · simp [Value.ownBlock] at e
      · obtain rfl : g = k := by simpa [Value.ownBlock] using e
        rw [hgb] at ho; cases ho; cases hc
  exact ⟨key h.1, key h.2.1, h.2.2⟩

theorem Two.alloc {W : World} {B1 B2 base : Nat} {v1 v2 : Value} {L1 L2 : List Int} (h : Two W B1 B2 base v1 v2 L1 L2) (o : Obj) : Two (W.alloc o) B1 B2 base v1 v2 L1 L2 :=
  ⟨h.1.kept (World.grownBy_alloc W o none) (by simp) (by simp), h.2.1.kept (World.grownBy_alloc W o none) (by simp) (by simp), h.2.2⟩
theorem KS.alloc {Bg Bt : Nat} {W : World} (o : Obj) (hg : Bg < W.heap.size) (ht : Bt < W.heap.size) : KS Bg Bt W (W.alloc o) := ⟨⟨Below.heap_alloc W o _ hg, Below.heap_alloc W o _ ht⟩, by simp⟩
/-- one number appended to the first -/
theorem Two.push {W w1 : World} {B1 B2 base n₀ Bg Bt : Nat} {v1 v2 v' : Value} {L1 L2 : List Int} {x : Int} {tmp : Obj} (h : Two W B1 B2 base v1 v2 L1 L2) (hne : B1 ≠ B2) (h1 : B1 < base) (h2 : B2 < base) (hb : base ≤ W.heap.size)
    (hn : n₀ ≤ B1) (hg1 : Bg ≠ B1) (hg2 : Bt ≠ B1) (hg3 : Bg < base) (hg4 : Bt < base)
    (hown : w1.ownsRow base 3 1 v' (L1.length + 1) ((L1 ++ [x]).map (Value.int .i64))) (hgrow : (W.alloc tmp).grownBy w1 v1.ownBlock) (hat : v'.ownBlock = v1.ownBlock ∨ v'.ownBlock = some (W.alloc tmp).heap.size) :
    Boxed w1 B1 24 v1 ∧ Two (w1.setCell ⟨B1, 0, none⟩ v') B1 B2 base v' v2 (L1 ++ [x]) L2 ∧ KeepsOthers W (w1.setCell ⟨B1, 0, none⟩ v') ∧ Below n₀ W (w1.setCell ⟨B1, 0, none⟩ v') ∧ KS Bg Bt W (w1.setCell ⟨B1, 0, none⟩ v') := by
  obtain ⟨⟨b1, r1⟩, ⟨b2, r2⟩, hap⟩ := h
  have hte : 24 ≠ 3 := by decide
  have hbelow : ∀ k, v1.ownBlock = some k → base ≤ k := fun k hk => (r1.lt k hk).1
  have hv1 : Boxed w1 B1 24 v1 := (b1.alloc tmp).kept hgrow (b1.not_row hte r1)
  have hsz := hgrow.size
  have hw := grownBy_setCell' w1 B1 v'
  have hsz2 := hw.size
  have hal : (W.alloc tmp).heap.size = W.heap.size + 1 := by simp
  have hlow : ∀ k, k < base → k ≠ B1 → (w1.setCell ⟨B1, 0, none⟩ v').heap[k]? = W.heap[k]? := fun k hk hkB =>
    ((hw.block k (by omega) (fun e => hkB (by cases e; rfl))).trans (hgrow.block k (by omega) (fun e => by have := hbelow k e.symm; omega))).trans (Below.heap_alloc W tmp k (by omega))
  have hown' : (w1.setCell ⟨B1, 0, none⟩ v').ownsRow base 3 1 v' (L1 ++ [x]).length ((L1 ++ [x]).map (Value.int .i64)) := by
    rw [List.length_append]
    exact hown.kept hw (.inr (hv1.not_row hte hown).symm)
  have hr2 : RowAt (w1.setCell ⟨B1, 0, none⟩ v') B2 base v2 L2 := by
    have s1 : RowAt (W.alloc tmp) B2 base v2 L2 := RowAt.kept ⟨b2, r2⟩ (World.grownBy_alloc W tmp none) (by simp) (by simp)
    have s2 : RowAt w1 B2 base v2 L2 := s1.kept hgrow (fun e => by have := hbelow B2 e.symm; omega) (fun k e e' => hap k e' e)
    exact s2.kept hw (fun e => hne (by cases e; rfl)) (fun k e e' => by cases e'; have := (r2.lt _ e).1; omega)
  refine ⟨hv1, ⟨⟨hv1.set v', hown'⟩, hr2, fun k e e' => ?_⟩, ?_, ?_, ⟨⟨hlow Bg hg3 hg1, hlow Bt hg4 hg2⟩, by omega⟩⟩
  · rcases hat with ha | ha
    · rw [ha] at e; exact hap k e e'
    · rw [ha] at e
      cases e
      have := (r2.lt _ e').2
      omega
  · refine ((KeepsOthers.alloc W tmp).trans (KeepsOthers.of_grownBy hgrow fun j o ej hj => ?_)).trans (KeepsOthers.setCell _ _ _)
    rcases (r1.alloc tmp).2 with ⟨rfl, _⟩ | ⟨g, cap, cur, rfl, _, hgb, _⟩
    · simp [Value.ownBlock] at ej
    · obtain rfl : g = j := by simpa [Value.ownBlock] using ej
      rw [hgb] at hj; cases hj; rfl
  · exact (((Below.refl n₀ W).alloc (by omega) tmp).grown hgrow (by simp; omega) fun j ej => by have := hbelow j ej; omega).setCell (p := ⟨B1, 0, none⟩) hn v'
end Go.Proofs.Ytnpkoncflplpiaa
