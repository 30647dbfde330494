/- sparse.Write: words for it. -/
import Derived.Test.YtiiogglflpladaaDoor19I
import Derived.Deep.RegionLaw
namespace Go.Proofs.YtiiogglflpladaaDoor
set_option linter.unusedSimpArgs false
set_option linter.unusedVariables false
open Go.RowKit

theorem row_far {w w' : World} {base : Nat} {e e' : TypeId} {size n : Nat} {v v' : Value} {xs : List Value} {base' size' n' : Nat} {xs' : List Value} (h : w.ownsRow base e size v n xs) (h' : w.ownsRow base' e' size' v' n' xs') (hne : e ≠ e') (hg : w.grownBy w' v'.ownBlock) : w'.ownsRow base e size v n xs := by
  refine ⟨h.1, ?_⟩
  rcases h.2 with hn | ⟨g, cap, cur, rfl, hb, hgg, rest⟩
  · exact .inl hn
  · refine .inr ⟨g, cap, cur, rfl, hb, (hg.block g (Array.getElem?_eq_some_iff.1 hgg).1 fun ee => ?_).trans hgg, rest⟩
    obtain ⟨cs, hcs⟩ := row_type h' ee.symm
    rw [hgg] at hcs
    injection hcs with hcs
    injection hcs with _ ht
    exact hne ht
theorem tyIU : 3 ≠ 5 := by decide
theorem tyPI : 64 ≠ 3 := by decide
theorem OBlk.grownI {w w' : World} {base : Nat} {v : Value} {n size : Nat} {xs : List Value} {g : Nat} {l : List UInt8} (h : OBlk w g 5 l) (hr : w.ownsRow base 3 size v n xs) (hg : w.grownBy w' v.ownBlock) : OBlk w' g 5 l := by
  refine CB.of_heap h (hg.block g h.lt fun e => ?_)
  obtain ⟨cs, hcs⟩ := row_type hr e.symm
  have h : w.heap[g]? = _ := h
  rw [h] at hcs
  injection hcs with hcs
  injection hcs with _ ht
  exact tyIU ht.symm
theorem Own.grownI {w w' : World} {base base' : Nat} {v u : Value} {a : List (Pc × Nat)} {n size : Nat} {xs : List Value} (h : Own w base v a) (hr : w.ownsRow base' 3 size u n xs) (hg : w.grownBy w' u.ownBlock) : Own w' base v a :=
  ⟨row_far h.row hr tyPI hg, fun p hp => ⟨(h.blk p hp).1, (h.blk p hp).2.1, OBlk.grownI (h.blk p hp).2.2 hr hg⟩⟩
/-- pieces of the call's own are as they were where another block of octets was turned -/
theorem Own.but {w w' : World} {base : Nat} {v : Value} {a : List (Pc × Nat)} {g : Nat} {l : List UInt8} (h : Own w base v a) (hg : OBlk w g 5 l) (hne : ∀ p ∈ a, p.2 ≠ g) (hb : But g w w') : Own w' base v a := by
  refine ⟨⟨h.row.1, ?_⟩, fun p hp => ⟨(h.blk p hp).1, (h.blk p hp).2.1, CB.of_heap (h.blk p hp).2.2 (hb.block _ (h.blk p hp).2.2.lt (by simpa using hne p hp))⟩⟩
  rcases h.row.2 with hn | ⟨q, cap, cur, rfl, hb', hgg, rest⟩
  · exact .inl hn
  · refine .inr ⟨q, cap, cur, rfl, hb', (hb.block q (Array.getElem?_eq_some_iff.1 hgg).1 fun ee => ?_).trans hgg, rest⟩
    have hg' : w.heap[g]? = _ := hg
    have e2 : q = g := by simpa using ee
    rw [e2, hg'] at hgg
    injection hgg with hgg
    injection hgg with _ ht
    exact tyPU ht.symm
theorem row_but {w w' : World} {base : Nat} {e : TypeId} {size n : Nat} {v : Value} {xs : List Value} {g : Nat} {l : List UInt8} (h : w.ownsRow base e size v n xs) (hg : OBlk w g 5 l) (hne : e ≠ 5) (hb : But g w w') : w'.ownsRow base e size v n xs := by
  refine ⟨h.1, ?_⟩
  rcases h.2 with hn | ⟨q, cap, cur, rfl, hb', hgg, rest⟩
  · exact .inl hn
  · refine .inr ⟨q, cap, cur, rfl, hb', (hb.block q (Array.getElem?_eq_some_iff.1 hgg).1 fun ee => ?_).trans hgg, rest⟩
    have hg' : w.heap[g]? = _ := hg
    have e2 : q = g := by simpa using ee
    rw [e2, hg'] at hgg
    injection hgg with hgg
    injection hgg with _ ht
    exact hne ht.symm
theorem pcells_one (a : List (Pc × Nat)) : ∀ v ∈ pcells a, v.oneCell' = true := by
  induction a with
  | nil => intro v hv; cases hv
  | cons p r ih =>
    intro v hv
    rw [pcells] at hv
    rcases List.mem_append.1 hv with hv | hv
    · simp at hv
      rcases hv with rfl | rfl <;> rfl
    · exact ih v hv
/-- 'append(s, xs...)' of pieces of the call's own, as a step of a region that draws its order -/
theorem step_append_own {ops : Array Oper} {o : Oper} {a : Act} {K : Act → World → Prop} {Q : Exit → Act → World → Prop} {E : Prop} {w : World} (hgd : o.guard = none) (s x : Operand)
    (ho : o.op = .call { callee := .builtin .append, args := #[s, x], argTypes := #[24, 24] })
    (base : Nat) (v u : Value) (A B : List (Pc × Nat)) (hs : a.eval s = v) (hx : a.eval x = u) (hA : Own w base v A) (hB : Own w base u B) (hn : A.length + B.length ≤ 100000) (hb : base ≤ w.heap.size)
    (h : ∀ v' w', Own w' base v' (A ++ B) → w.grownBy w' v.ownBlock → K (a.put o.dst v') w') :
    if Region.wanted o (yielded ops a.tmps) = true then Oper.wp Tryd.prog o a w K Q else E := by
  have hw : Region.wanted o (yielded ops a.tmps) = true := by simp [Region.wanted, hgd]
  rw [if_pos hw]
  obtain ⟨i, hi, hz, hsize, hbytes⟩ := info_parts info_piece
  have fin : ∀ v' w', w'.ownsRow base 64 2 v' (A.length + B.length) (pcells A ++ pcells B) → w.grownBy w' v.ownBlock → Own w' base v' (A ++ B) := fun v' w' hr hg =>
    ⟨by rw [pcells_app, List.length_append]; exact hr, fun p hp => by
      rcases List.mem_append.1 hp with hp | hp
      · exact ⟨(hA.blk p hp).1, (hA.blk p hp).2.1, OBlk.grown (hA.blk p hp).2.2 hA.row hg⟩
      · exact ⟨(hB.blk p hp).1, (hB.blk p hp).2.1, OBlk.grown (hB.blk p hp).2.2 hA.row hg⟩⟩
  rcases hB.row.2 with ⟨rfl, h0⟩ | ⟨g, cap, cur, rfl, hb', hgg, hnc, hm, hsz, hxx⟩
  · have hB0 := List.eq_nil_of_length_eq_zero h0
    subst hB0
    have hr := run_append_owned_none (P := Tryd.prog) (w := w) base 24 o.type 64 i 2 Tryd.underlying24 hi v A.length _ hA.row
    unfold Oper.wp execOp
    simp only [ho, resolve, invoke, builtin, Sem.run_bind, Sem.run_pure, Result.andThen_ok, List.map_toArray, List.map_cons, List.map_nil, hs, hx, hr]
    exact h v w (by simpa using hA) ⟨rfl, rfl, rfl, Nat.le_refl _, fun _ _ _ => rfl⟩
  · have hnews : ∀ j y, (pcells B)[j]? = some y → w.cell? ((⟨g, 0, none⟩ : Addr).add j) = some y := by
      intro j y hy
      have hj : j < (pcells B).length := (List.getElem?_eq_some_iff.1 hy).1
      rw [add_plain, Nat.zero_add, hB.row.cellAt (g := g) (cap := cap) j (by rw [pcells_len] at hj; omega), hy]
    obtain ⟨v', w', hr, h2, h3, _⟩ := run_append_own_at (P := Tryd.prog) w base 24 o.type 64 i _ 2 32 Tryd.underlying24 hi hz hsize hbytes rfl (by omega) v A.length _ hA.row ⟨g, 0, none⟩ B.length cap (pcells B) (by rw [pcells_len]) hnews (pcells_one B) (by unfold maxLen; omega) (by omega) hb
    unfold Oper.wp execOp
    simp only [ho, resolve, invoke, builtin, Sem.run_bind, Sem.run_pure, Result.andThen_ok, List.map_toArray, List.map_cons, List.map_nil, hs, hx, hr]
    exact h v' w' (fin v' w' h2 h3) h3
end Go.Proofs.YtiiogglflpladaaDoor
