/- haymowlaw19.Few: words and steps. -/
import Derived.Test.Ytfkmhdnapmicdaa19Z
namespace Go.Proofs.Ytfkmhdnapmicdaa
set_option linter.unusedSimpArgs false
set_option linter.unusedVariables false
open Go.RowKit

def fewP (p : Pc) : Pc := ⟨p.n, p.b.take 130⟩
/-- the file of which no more is looked at than may be -/
def fewF (f : Fl) : Fl := ⟨if 20000 < f.size ∧ f.size ≤ 463488 then 20000 else f.size, (f.L.take 20).map fewP⟩
theorem byts_own {w : World} {base : Nat} {v : Value} {n : Nat} {l : List UInt8} (h : w.ownsRow base 5 1 v n (bcells l)) : Byts w v l ∧ l.length = n := by
  have hl : l.length = n := by have := h.1; rw [bcells_len] at this; omega
  refine ⟨?_, hl⟩
  rcases h.2 with ⟨rfl, hn⟩ | ⟨g, cap, cur, rfl, hb, hg, hnc, hm, hs, hx⟩
  · refine ⟨none, 0, by rw [hl, hn], by omega, by omega, fun _ => rfl, by omega⟩
  · refine ⟨_, cap, by rw [hl], by omega, by unfold maxLen at hm; omega, by simp, fun _ => ⟨g, 0, rfl, fun i x hx => ?_⟩⟩
    have hi := (List.getElem?_eq_some_iff.1 hx).1
    rw [bcells_len] at hi
    have hc := h.cellAt (g := g) (cap := cap) i (by omega)
    rw [Nat.zero_add, hc]
    exact hx
/-- pieces of the call's own, each one's octets a row of its own -/
def FRow (w : World) (base : Nat) (v : Value) (M : List Pc) : Prop :=
  ∃ cs : List Value, w.ownsRow base 62 2 v M.length cs ∧ ∀ i p, M[i]? = some p → cs[i * 2]? = some (.int .i64 p.n) ∧ ∃ u, cs[i * 2 + 1]? = some u ∧ w.ownsRow base 5 1 u p.b.length (bcells p.b)
theorem frow_nil (w : World) (base : Nat) : FRow w base (.slice none 0 0) [] := ⟨[], ⟨rfl, .inl ⟨rfl, rfl⟩⟩, fun i p h => by simp at h⟩
theorem Kept.frow {w w1 : World} {base : Nat} {v : Value} {M : List Pc} (k : Kept w w1) (h : FRow w base v M) : FRow w1 base v M := by
  obtain ⟨cs, h1, h2⟩ := h
  refine ⟨cs, k.row h1, fun i p hp => ?_⟩
  obtain ⟨a, u, b, c⟩ := h2 i p hp
  exact ⟨a, u, b, k.row c⟩
theorem FRow.low {w : World} {base : Nat} {v : Value} {M : List Pc} (h : FRow w base v M) {p : Addr} (hp : p.block < base) (x : Value) : FRow (w.setCell p x) base v M := by
  obtain ⟨cs, h1, h2⟩ := h
  refine ⟨cs, row_low h1 hp x, fun i q hq => ?_⟩
  obtain ⟨a, u, b, c⟩ := h2 i q hq
  exact ⟨a, u, b, row_low c hp x⟩
theorem FRow.base_le {w : World} {base base' : Nat} {v : Value} {M : List Pc} (h : FRow w base v M) (hb : base' ≤ base) : FRow w base' v M := by
  obtain ⟨cs, h1, h2⟩ := h
  refine ⟨cs, ownsRow_base h1 hb, fun i q hq => ?_⟩
  obtain ⟨a, u, b, c⟩ := h2 i q hq
  exact ⟨a, u, b, ownsRow_base c hb⟩
theorem FRow.shape {w : World} {base : Nat} {v : Value} {M : List Pc} (h : FRow w base v M) : ∃ A n c, v = .slice A n c := by
  obtain ⟨cs, h1, h2⟩ := h
  obtain ⟨A, c, rfl⟩ := ownsRow_shape h1
  exact ⟨_, _, _, rfl⟩
theorem FRow.pcs {w : World} {base : Nat} {v : Value} {M : List Pc} (h : FRow w base v M) : Pcs w v M := by
  obtain ⟨cs, h1, h2⟩ := h
  rcases Nat.eq_zero_or_pos M.length with h0 | h0
  · obtain rfl := List.eq_nil_of_length_eq_zero h0
    rcases h1.2 with ⟨rfl, _⟩ | ⟨g, cap, cur, rfl, hb, hg, hnc, hm, _⟩
    · exact pcs_nil w
    · exact ⟨_, cap, rfl, by simp, by unfold maxLen at hm; omega, by simp, by simp⟩
  · rcases h1.2 with ⟨rfl, hn⟩ | ⟨g, cap, cur, rfl, hb, hg, hnc, hm, hs, hx⟩
    · omega
    · refine ⟨_, cap, rfl, by omega, by unfold maxLen at hm; omega, by simp, fun _ => ⟨g, 0, rfl, fun i p hp => ?_⟩⟩
      obtain ⟨a, u, b, c⟩ := h2 i p hp
      have hi : i < M.length := (List.getElem?_eq_some_iff.1 hp).1
      have e1 := h1.cellAt (g := g) (cap := cap) (i * 2) (by omega)
      have e2 := h1.cellAt (g := g) (cap := cap) (i * 2 + 1) (by omega)
      refine ⟨?_, u, ?_, (byts_own c).1⟩
      · rw [Nat.zero_add, e1]; exact a
      · rw [Nat.zero_add, e2]; exact b
theorem tyUP : 5 ≠ 62 := by decide
/-- one piece more -/
theorem frow_push {w w' : World} {base : Nat} {v v' u : Value} {M : List Pc} {p : Pc} {cs : List Value} {n q : Nat} (hM : M.length = n) (h1 : w.ownsRow base 62 2 v n cs) (h2 : ∀ i p, M[i]? = some p → cs[i * 2]? = some (.int .i64 p.n) ∧ ∃ u, cs[i * 2 + 1]? = some u ∧ w.ownsRow base 5 1 u p.b.length (bcells p.b))
    (hu : w.ownsRow base 5 1 u q (bcells p.b)) (hg : w.grownBy w' v.ownBlock) (hr : w'.ownsRow base 62 2 v' (n + 1) (cs ++ [.int .i64 p.n, u])) : FRow w' base v' (M ++ [p]) := by
  obtain rfl : p.b.length = q := (byts_own hu).2
  subst hM
  have hcl : cs.length = M.length * 2 := h1.1
  refine ⟨cs ++ [.int .i64 p.n, u], by rw [List.length_append]; exact hr, fun i q hq => ?_⟩
  by_cases hi : i < M.length
  · rw [List.getElem?_append_left hi] at hq
    obtain ⟨a, y, b, c⟩ := h2 i q hq
    exact ⟨by rw [List.getElem?_append_left (by omega)]; exact a, y, by rw [List.getElem?_append_left (by omega)]; exact b, row_far c h1 tyUP hg⟩
  · have hil : i < (M ++ [p]).length := (List.getElem?_eq_some_iff.1 hq).1
    rw [List.length_append, List.length_singleton] at hil
    obtain rfl : i = M.length := by omega
    rw [List.getElem?_append_right (Nat.le_refl _), Nat.sub_self] at hq
    simp only [List.getElem?_cons_zero, Option.some.injEq] at hq
    subst hq
    refine ⟨?_, u, ?_, row_far hu h1 tyUP hg⟩
    · rw [List.getElem?_append_right (by omega), hcl, Nat.sub_self]; rfl
    · rw [List.getElem?_append_right (by omega), hcl, Nat.add_sub_cancel_left]; rfl
theorem cells_one2 {w : World} {base : Nat} {e : TypeId} {size n : Nat} {v : Value} {xs : List Value} (h : w.ownsRow base e size v n xs) (x : Int) : ∀ u ∈ [Value.int .i64 x, v], u.oneCell' = true := by
  obtain ⟨A, c, rfl⟩ := ownsRow_shape h
  intro u hu
  simp at hu
  rcases hu with rfl | rfl <;> rfl
/-- 'append([]byte{}, b...)' at a step of a region that draws its order -/
theorem step_append_bytes {ops : Array Oper} {o : Oper} {a : Act} {K : Act → World → Prop} {Q : Exit → Act → World → Prop} {E : Prop} {w : World} (hgd : o.guard = none) (s x : Operand)
    (ho : o.op = .call { callee := .builtin .append, args := #[s, x], argTypes := #[25, 25] })
    (base : Nat) (v : Value) (n : Nat) (xs L : List UInt8) (vx : Value) (hs : a.eval s = v) (hown : w.ownsRow base 5 1 v n (bcells xs)) (hx : a.eval x = vx)
    (hL : Byts w vx L) (hn : (n + L.length) * 1 ≤ 140737488355328) (hb : base ≤ w.heap.size)
    (h : ∀ v' w', w'.ownsRow base 5 1 v' (n + L.length) (bcells (xs ++ L)) → w.grownBy w' v.ownBlock → K (a.put o.dst v') w') :
    if Region.wanted o (yielded ops a.tmps) = true then Oper.wp Try.prog o a w K Q else E := by
  have hw : Region.wanted o (yielded ops a.tmps) = true := by simp [Region.wanted, hgd]
  rw [if_pos hw]
  obtain ⟨i, hi, hz, hsize, hbytes⟩ := info_parts info_u8
  obtain ⟨A, c, rfl⟩ := hL.shape
  obtain ⟨-, hc1, hc2, hc3, hc4⟩ := hL.open_
  have h63 : n + L.length ≤ maxLen := by unfold maxLen; omega
  rcases A with _ | ad
  · have hl0 : L = [] := by
      rcases Nat.eq_zero_or_pos L.length with h0 | h0
      · exact List.eq_nil_of_length_eq_zero h0
      · obtain ⟨b, o', hA, _⟩ := hc4 h0
        cases hA
    subst hl0
    obtain rfl := hc3 rfl
    have hr := run_append_owned_none (P := Try.prog) (w := w) base 25 o.type 5 i 1 Try.underlying25 hi v n _ hown
    unfold Oper.wp execOp
    simp only [ho, resolve, invoke, builtin, Sem.run_bind, Sem.run_pure, Result.andThen_ok, List.map_toArray, List.map_cons, List.map_nil, hs, hx, List.length_nil, hr]
    exact h v w (by simpa using hown) ⟨rfl, rfl, rfl, Nat.le_refl _, fun _ _ _ => rfl⟩
  · have hnews : ∀ j u, (bcells L)[j]? = some u → w.cell? (ad.add j) = some u := by
      intro j u hu
      have hj : j < L.length := by
        have := (List.getElem?_eq_some_iff.1 hu).1; rw [bcells_len] at this; exact this
      obtain ⟨b, o', hA, hcell⟩ := hc4 (by omega)
      cases hA
      rw [add_plain]
      exact hcell j u hu
    obtain ⟨v', w', hr, h2, h3, _⟩ := run_append_own_at (P := Try.prog) w base 25 o.type 5 i _ 1 1 Try.underlying25 hi hz hsize hbytes rfl (by omega) v n _ hown ad L.length c (bcells L) (by rw [bcells_len]; omega) hnews (bcells_one L) h63 hn hb
    unfold Oper.wp execOp
    simp only [ho, resolve, invoke, builtin, Sem.run_bind, Sem.run_pure, Result.andThen_ok, List.map_toArray, List.map_cons, List.map_nil, hs, hx, hr]
    exact h v' w' (by rw [bcells_app]; exact h2) h3
/-- one struct appended at a step of a region that draws its order: it lies in a block that was just made -/
theorem step_pushG {P : Program} {ops : Array Oper} {o : Oper} {a : Act} {K : Act → World → Prop} {Q : Exit → Act → World → Prop} {E : Prop} {w : World} (hgd : o.guard = none) (s x : Operand) (t : TypeId)
    (ho : o.op = .call { callee := .builtin .append, args := #[s, x], argTypes := #[t, t] })
    (e : TypeId) (z : Value) (size bytes : Nat) (ht : P.underlying t = some (.slice e)) (hinfo : (P.info? e).map (fun i => (i.zero, i.size, i.bytes)) = some (some z, size, bytes))
    (hzs : z.cells.size = size) (hsz : 0 < size) (hby : 0 < bytes)
    (base : Nat) (v : Value) (n : Nat) (xs cs : List Value) (c H : Nat) (hs : a.eval s = v) (hown : w.ownsRow base e size v n xs) (hH : w.heap[H]? = some (.cells cs.toArray e (0, 0))) (hx : a.eval x = .slice (some ⟨H, 0, none⟩) 1 c)
    (hl : cs.length = size) (h1 : ∀ u ∈ cs, u.oneCell' = true) (hn : (n + 1) * bytes ≤ 140737488355328) (hb : base ≤ w.heap.size)
    (h : ∀ v' w', w'.ownsRow base e size v' (n + 1) (xs ++ cs) → w.grownBy w' v.ownBlock → K (a.put o.dst v') w') :
    if Region.wanted o (yielded ops a.tmps) = true then Oper.wp P o a w K Q else E := by
  have hw : Region.wanted o (yielded ops a.tmps) = true := by simp [Region.wanted, hgd]
  rw [if_pos hw]
  obtain ⟨i, hi, hz, hsize, hbytes⟩ := info_parts hinfo
  have h63 : n + 1 ≤ maxLen := by
    have : (n + 1) * 1 ≤ (n + 1) * bytes := Nat.mul_le_mul_left _ hby
    unfold maxLen; omega
  obtain ⟨v', w', hr, h2, h3, _⟩ := run_append_own_at (P := P) w base t o.type e i _ size bytes ht hi hz hsize hbytes hzs hsz v n _ hown ⟨H, 0, none⟩ 1 c cs (by omega) (World.news_of_block (B := H) (cs := cs.toArray) hH) h1 h63 hn hb
  unfold Oper.wp execOp
  simp only [ho, resolve, invoke, builtin, Sem.run_bind, Sem.run_pure, Result.andThen_ok, List.map_toArray, List.map_cons, List.map_nil, hs, hx, hr]
  exact h v' w' h2 h3
end Go.Proofs.Ytfkmhdnapmicdaa
