/- sparse: clones. -/
import Derived.Test.YtiiogglflpladaaDoor19D
namespace Go.Proofs.YtiiogglflpladaaDoor
set_option linter.unusedSimpArgs false
set_option linter.unusedVariables false
open Go.RowKit

theorem wpList_pushG {P : Program} {ops : Array Oper} {rest : List Oper} {o : Oper} {a : Act} {Q : Exit → Act → World → Prop} {W w : World} (hgd : o.guard = none) (s x : Operand) (t : TypeId)
    (ho : o.op = .call { callee := .builtin .append, args := #[s, x], argTypes := #[t, t] })
    (e : TypeId) (z : Value) (size bytes : Nat) (ht : P.underlying t = some (.slice e)) (hinfo : (P.info? e).map (fun i => (i.zero, i.size, i.bytes)) = some (some z, size, bytes))
    (hzs : z.cells.size = size) (hsz : 0 < size) (hby : 0 < bytes)
    (v : Value) (n : Nat) (xs cs : List Value) (c H : Nat) (hs : a.eval s = v) (hown : w.ownsRow W.heap.size e size v n xs) (hH : w.heap.size = H) (hx : a.eval x = .slice (some ⟨H, 0, none⟩) 1 c)
    (hl : cs.length = size) (h1 : ∀ u ∈ cs, u.oneCell' = true) (hn : (n + 1) * bytes ≤ 140737488355328) (hk : Kept W w)
    (h : ∀ v' w', w'.ownsRow W.heap.size e size v' (n + 1) (xs ++ cs) → Kept W w' → (w.alloc (.cells cs.toArray e)).grownBy w' v.ownBlock → wpList P ops Q rest (a.put o.dst v') w') :
    wpList P ops Q (o :: rest) a (w.alloc (.cells cs.toArray e)) := by
  subst hH
  obtain ⟨i, hi, hz, hsize, hbytes⟩ := info_parts hinfo
  have hk' : Kept W (w.alloc (.cells cs.toArray e)) := hk.alloc _
  have h63 : n + 1 ≤ maxLen := by
    have : (n + 1) * 1 ≤ (n + 1) * bytes := Nat.mul_le_mul_left _ hby
    unfold maxLen; omega
  refine wpList_append_own _ hgd s x t ho W.heap.size e i z size bytes ht hi hz hsize hbytes hzs hsz v n xs hs (hown.alloc _) ⟨w.heap.size, 0, none⟩ 1 c cs hx (by omega) ?_ h1 h63 hn hk'.size ?_
  · exact World.news_of_block (B := w.heap.size) (cs := cs.toArray) (heap_alloc_new w _)
  · intro v' w' h2 h3 _
    exact h v' w' h2 (hk'.grown h3 fun k hkk => (hown.lt k hkk).1) h3
theorem row_type {w : World} {base : Nat} {e : TypeId} {size n : Nat} {v : Value} {xs : List Value} (hr : w.ownsRow base e size v n xs) {q : Nat} (hq : v.ownBlock = some q) : ∃ cs, w.heap[q]? = some (.cells cs e (0, 0)) := by
  rcases hr.2 with ⟨rfl, _⟩ | ⟨g, cap, cur, rfl, hb, hg, _⟩
  · simp [Value.ownBlock] at hq
  · obtain rfl : g = q := by simpa [Value.ownBlock] using hq
    exact ⟨cur, hg⟩
theorem tyPU : 64 ≠ 5 := by decide
/-- octets of another block than the row's stay behind an append -/
theorem OBlk.grown {w w' : World} {base : Nat} {v : Value} {n size : Nat} {xs : List Value} {g : Nat} {l : List UInt8} (h : OBlk w g 5 l) (hr : w.ownsRow base 64 size v n xs) (hg : w.grownBy w' v.ownBlock) : OBlk w' g 5 l := by
  refine CB.of_heap h (hg.block g h.lt fun e => ?_)
  obtain ⟨cs, hcs⟩ := row_type hr e.symm
  have h : w.heap[g]? = _ := h
  rw [h] at hcs
  injection hcs with hcs
  injection hcs with _ ht
  exact tyPU ht.symm
theorem Own.grown {w w' : World} {base : Nat} {v v' : Value} {a : List (Pc × Nat)} {q : Pc × Nat} (h : Own w base v a) (hq : base ≤ q.2 ∧ q.1.b.length = 128 ∧ OBlk w q.2 5 q.1.b)
    (o : Obj) (hr : w'.ownsRow base 64 2 v' (a.length + 1) (pcells a ++ [.int .i64 q.1.n, .slice (some ⟨q.2, 0, none⟩) 128 128])) (hg : (w.alloc o).grownBy w' v.ownBlock) : Own w' base v' (a ++ [q]) := by
  have hk := (Kept.refl w).alloc o
  refine ⟨?_, fun p hp => ?_⟩
  · rw [pcells_app, List.length_append]
    exact hr
  · rcases List.mem_append.1 hp with hp | hp
    · obtain ⟨h1, h2, h3⟩ := h.blk p hp
      exact ⟨h1, h2, OBlk.grown (hk.oblk h3) (hk.row h.row) hg⟩
    · obtain rfl := List.mem_singleton.1 hp
      exact ⟨hq.1, hq.2.1, OBlk.grown (hk.oblk hq.2.2) (hk.row h.row) hg⟩
theorem info_piece : (Tryd.prog.info? 64).map (fun i => (i.zero, i.size, i.bytes)) = some (some (.agg #[.int .i64 0, .slice none 0 0]), 2, 32) := by kernel_rfl
theorem take_snoc {L : List Pc} {k : Nat} {p : Pc} (h : L[k]? = some p) : L.take (k + 1) = L.take k ++ [p] := by rw [List.take_add_one, h]; rfl
def ClonesPost (L : List Pc) (w : World) (e : Ending) (w' : World) : Prop := ∃ v a, e = .returned v ∧ Own w' w.heap.size v a ∧ a.map (·.1) = L ∧ Kept w w' ∧ a.Pairwise (fun p q => p.2 < q.2)
set_option maxHeartbeats 2000000 in
theorem clones_any (L : List Pc) (v : Value) (w : World) (hP : Pcs w v L) (hl : L.length ≤ 100000) (hb : ∀ p ∈ L, p.b.length = 128) : Calls Tryd.prog 23 #[v] w (ClonesPost L w) := by
  obtain ⟨A, c, rfl⟩ := hP.shape
  obtain ⟨h0, h1, h2, -, -⟩ := hP.open_
  obtain ⟨m, hm⟩ : ∃ m, L.length = m := ⟨_, rfl⟩
  rw [hm] at hP hl h1 ⊢
  have HP := hid hP; have HM := hid hm; have HB := hid hb
  clear hP h0 hm hb
  go_enter Tryd.func23, Tryd.ntmps23
  go_wp2
  go_loopw [3, 8] (fun tv t wr => ∃ (k : Nat) (a : List (Pc × Nat)), k ≤ m ∧ t = .int .i64 k ∧ Own wr w.heap.size tv a ∧ a.map (·.1) = L.take k ∧ Kept w wr ∧ a.Pairwise (fun p q => p.2 < q.2)) (fun _ t _ => m - (intOf t).toNat)
  case atStart => exact ⟨0, [], by omega, rfl, own_nil _ _, rfl, Kept.refl _, List.Pairwise.nil⟩
  case round =>
    obtain ⟨k, a, hk, rfl, ho, ha, hkw, hpw⟩ := hrel
    have HPW := hid hpw
    clear hpw
    have HO := hid ho; have HA := hid ha; have HK := hid hkw
    have hal : a.length = k := by
      have := congrArg List.length ha
      rw [List.length_map, List.length_take, HM.out] at this; omega
    have HAL := hid hal
    clear ho ha hkw hal
    by_cases hlt : k < m
    · obtain ⟨b, o, p, rfl, hp, hc1, vb, hc2, hby⟩ := HP.out.at_ k hlt
      have k0 : (0 : Int) ≤ (k : Int) := by omega
      have k1 : (k : Int) < (m : Int) := by omega
      have c1 := HK.out.keeps hc1; have c2 := HK.out.keeps hc2
      have HBY := hid hby
      have HPL := hid (HB.out p (List.mem_of_getElem? hp))
      have HPI := hid hp
      obtain ⟨A1, c3, rfl⟩ := hby.shape
      obtain ⟨pn, pb⟩ := p
      dsimp only at *
      clear hp hc1 hc2 hby
      rw [HPL.out] at c2 HBY
      go_wp2_with (first
        | (go_at_call 26; (with_reducible refine (clone_any _ _ pb _ (Kept.byts (HK.out.trans ?_) HBY.out)).mono ?_); exact (by repeat (first | exact Kept.refl _ | assumption | refine Kept.alloc ?_ _ | refine Kept.drew ?_ | refine Kept.drewN ?_ _ | refine Kept.setCell ?_ (by simp; try omega) _ | refine Kept.trans ?_ (by assumption))); rintro e w3 ⟨g, rfl, ob, hg, k3⟩; rw [pad_id HPL.out] at ob; have OB := hid ob; have K3 := hid ((((Kept.refl wr).alloc _)).trans k3); have HG := hid hg; clear ob k3 hg)
        | (at_builtin; go_loud (refine wpList_pushG (W := w) (cs := [.int .i64 pn, .slice (some ⟨g, 0, none⟩) 128 128]) rfl (.tmp 12) (.tmp 15) 24 rfl 64 _ 2 32 Tryd.underlying24 info_piece rfl (by decide) (by decide) _ a.length _ _ _ rfl (K3.out.own HO.out).row rfl rfl rfl (by simp [Value.oneCell']) (by rw [HAL.out]; omega) (HK.out.trans K3.out) ?_); intro v' w' hown' hk' hgr))
      go_roundw
      case rel =>
        refine ⟨k + 1, a ++ [(⟨pn, pb⟩, g)], by omega, by go_num, (K3.out.own HO.out).grown (q := (⟨pn, pb⟩, g)) ⟨?_, HPL.out, OB.out⟩ _ hown' hgr, by rw [List.map_append, HA.out, take_snoc HPI.out]; rfl, hk', List.pairwise_append.2 ⟨HPW.out, List.pairwise_singleton _ _, fun p hp q hq => by
          obtain rfl := List.mem_singleton.1 hq
          have h5 := (HO.out.blk p hp).2.2.lt
          have h6 := HG.out
          simp at h6
          show p.2 < g
          omega⟩⟩
        have h3 := HG.out
        have h4 := HK.out.size
        simp at h3
        show w.heap.size ≤ g
        omega
      case measure => simp [intOf]; omega
    · obtain rfl : k = m := by omega
      go_wp2
      go_ret
      exact ⟨_, a, rfl, HO.out, by rw [HA.out, List.take_of_length_le (by rw [HM.out]; omega)], HK.out, HPW.out⟩
end Go.Proofs.YtiiogglflpladaaDoor
