/- HaymowNames: entry.Add. -/
import Derived.Test.YtiiogglflpladaaDoorMJ
namespace Go.Proofs.YtiiogglflpladaaDoor
set_option linter.unusedSimpArgs false
set_option linter.unusedVariables false
open Go.RowKit

theorem info_en : (Tryd.prog.info? 32).map (fun i => (i.zero, i.size, i.bytes)) = some (some (.agg #[.string ⟨#[]⟩, .int .i64 0, .int .i64 0]), 3, 32) := by kernel_rfl
theorem make_cap3 (N : Nat) (hN : N ≤ 1000) (w : World) : ∃ cur, cur.size = N * 3 ∧ (Instr.makeSlice 23 (.int .i64 0) (.int .i64 (N : Int))).run Tryd.prog w =
    .ok (.slice (some ⟨w.heap.size, 0, none⟩) 0 N) (w.alloc (.cells cur 32)) := by
  obtain ⟨i, hi, hz, hsize, hbytes⟩ := info_parts info_en
  have := run_makeSlice (P := Tryd.prog) w 23 32 i _ Tryd.underlying23 hi hz .i64 .i64 0 (N : Int) (by omega) (by omega) (by rw [hsize]; simp; omega) (by rw [hbytes]; omega) (by omega)
  refine ⟨madeCells (Value.agg #[.string ⟨#[]⟩, .int .i64 0, .int .i64 0]).cells (N * 3), by rw [size_madeCells], ?_⟩
  rw [this, hsize]
  simp
/-- 'append(s, l...)', s the call's own, l a slice of entries that is read -/
theorem wpList_append_ents {ops : Array Oper} {rest : List Oper} {o : Oper} {a : Act} {Q : Exit → Act → World → Prop} {W w : World} (hgd : o.guard = none) (s x : Operand)
    (ho : o.op = .call { callee := .builtin .append, args := #[s, x], argTypes := #[23, 23] })
    (v : Value) (n : Nat) (xs L : List En) (vx : Value) (hs : a.eval s = v) (hown : w.ownsRow W.heap.size 32 3 v n (ecells xs)) (hx : a.eval x = vx)
    (hL : Ents w vx L) (hn : (n + L.length) * 32 ≤ 140737488355328) (hk : Kept W w)
    (h : ∀ v' w', w'.ownsRow W.heap.size 32 3 v' (n + L.length) (ecells (xs ++ L)) → Kept W w' → wpList Tryd.prog ops Q rest (a.put o.dst v') w') :
    wpList Tryd.prog ops Q (o :: rest) a w := by
  obtain ⟨i, hi, hz, hsize, hbytes⟩ := info_parts info_en
  obtain ⟨A, c, rfl⟩ := hL.shape
  obtain ⟨-, hc1, hc2, hc3, hc4⟩ := hL.open_
  have h63 : n + L.length ≤ maxLen := by unfold maxLen; omega
  have hrow : ∀ k, v.ownBlock = some k → W.heap.size ≤ k := fun k hkk => (hown.lt k hkk).1
  have key : ∀ ad : Addr, a.eval x = .slice (some ad) L.length c → (∀ j u, (ecells L)[j]? = some u → w.cell? (ad.add j) = some u) → wpList Tryd.prog ops Q (o :: rest) a w := by
    intro ad hx' hnews
    refine wpList_append_own _ hgd s x 23 ho W.heap.size 32 i _ 3 32 Tryd.underlying23 hi hz hsize hbytes rfl (by omega) v n _ hs hown ad L.length c (ecells L) hx' (by rw [ecells_len]) hnews (ecells_one L) h63 hn hk.size ?_
    intro v' w' h2 h3 h4
    refine h v' w' (by rw [ecells_app]; exact h2) (hk.grown h3 hrow)
  rcases A with _ | ad
  · have hc0 := hc3 rfl
    have hl0 : L = [] := List.eq_nil_of_length_eq_zero (by omega)
    subst hl0
    refine wpList_append_own_none hgd s x 23 ho W.heap.size 32 i 3 Tryd.underlying23 hi v n _ hs hown (by simpa [hc0] using hx) ?_
    have := h v w (by simpa using hown) hk
    simpa using this
  · refine key ad hx fun j u hu => ?_
    have hj : j < L.length * 3 := by
      have := (List.getElem?_eq_some_iff.1 hu).1; rwa [ecells_len] at this
    obtain ⟨b, o', hA, hr⟩ := hc4 (by omega)
    cases hA
    have : (⟨b, o', none⟩ : Addr).add j = ⟨b, o' + j, none⟩ := by unfold Addr.add; split <;> simp_all
    rw [this, hr j u hu]
set_option maxHeartbeats 2000000 in
set_option maxRecDepth 100000 in
theorem add_there (v : Value) (L : List En) (x : En) (w : World) (h : Ents w v L) (hv : ValidE L) (hs : nameB x.name = true) (h1 : 1 ≤ x.ino) (h2 : x.ino ≤ 39) (hh : hasN L x.name = true) :
    Calls Tryd.prog 4 #[v, .agg #[.string (bstr x.name), .int .i64 x.ino, .int .i64 1]] w fun e w' => e = .returned (.tuple #[.slice none 0 0, .int .i64 7]) ∧ Kept w w' := by
  have M1 := hid (fun w' (k : Kept w w') => esearch_any v L x.name w' (k.ents h) hv hs)
  rw [if_pos hh] at M1
  have M2 := hid (fun w s => isInode_yes s x.ino h1 h2 w)
  generalize bstr x.name = t at *
  generalize x.ino = p at *
  generalize befN L x.name = i at *
  clear h hv hs hh h1 h2
  go_enter Tryd.func4, Tryd.ntmps4
  go_wp2_with (first
    | (go_at_call 15; (with_reducible refine (M1.out _ ?_).mono ?_); exact (by repeat (first | exact Kept.refl _ | assumption | refine Kept.alloc ?_ _ | refine Kept.drew ?_ | refine Kept.drewN ?_ _ | refine Kept.setCell ?_ (by simp; try omega) _ | refine Kept.trans ?_ (by assumption))); rintro e w1 ⟨rfl, k1⟩; have d0 := k1.keeps (b := w.heap.size) (o := 0) (s := none) (v := .string t) (by simp [go_sem]); have d1 := k1.keeps (b := w.heap.size) (o := 1) (s := none) (v := .int .i64 p) (by simp [go_sem]); have d2 := k1.keeps (b := w.heap.size) (o := 2) (s := none) (v := .int .i64 1) (by simp [go_sem]))
    | (go_at_call 16; (with_reducible refine (M2.out _ _).mono ?_); rintro e w2 ⟨rfl, k2⟩))
  go_ret2
  exact ⟨rfl, (by repeat (first | exact Kept.refl _ | assumption | refine Kept.alloc ?_ _ | refine Kept.drew ?_ | refine Kept.drewN ?_ _ | refine Kept.setCell ?_ (by simp; try omega) _ | refine Kept.trans ?_ (by assumption)))⟩
set_option maxHeartbeats 4000000 in
set_option maxRecDepth 100000 in
theorem add_new (v : Value) (L : List En) (x : En) (w : World) (h : Ents w v L) (hv : ValidE L) (hs : nameB x.name = true) (h1 : 1 ≤ x.ino) (h2 : x.ino ≤ 39) (hh : hasN L x.name = false) (hl : L.length < 30) :
    Calls Tryd.prog 4 #[v, .agg #[.string (bstr x.name), .int .i64 x.ino, .int .i64 1]] w fun e w' => ∃ v', e = .returned (.tuple #[v', .int .i64 0]) ∧ w'.ownsRow w.heap.size 32 3 v' (L.length + 1) (ecells (insE L x)) ∧ Kept w w' := by
  have M1 := hid (fun w' (k : Kept w w') => esearch_any v L x.name w' (k.ents h) hv hs)
  rw [if_neg (by rw [hh]; simp)] at M1
  have M2 := hid (fun w s => isInode_yes s x.ino h1 h2 w)
  have hb := befN_le L x.name
  have hce : ecells [x] = [.string (bstr x.name), .int .i64 x.ino, .int .i64 1] := rfl
  unfold insE
  obtain ⟨A, c, rfl⟩ := h.shape
  obtain ⟨n, hn⟩ : ∃ n, L.length = n := ⟨_, rfl⟩
  rw [hn] at h M1 hl hb ⊢
  generalize bstr x.name = t at *
  generalize x.ino = p at *
  generalize befN L x.name = i at *
  have HE := hid h
  have HN := hid hn
  have HCE := hid hce
  have hc1 := h.open_.2.1
  have hc2 := h.open_.2.2.1
  have ht1 := hid (h.take i hb)
  have ht2 := hid (h.drop i hb)
  have htl : (L.take i).length = i := by rw [List.length_take, hn]; omega
  have hdl : (L.drop i).length = n - i := by rw [List.length_drop, hn]
  have HTL := hid htl; have HDL := hid hdl
  have hneq : ((n : Int) == 30) = false := by simp; omega
  have hneq2 : (n == 30) = false := by simp; omega
  clear h hv hs hh h1 h2 hn hce htl hdl
  go_enter Tryd.func4, Tryd.ntmps4
  go_wp2_with (first
    | (go_at_call 15; (with_reducible refine (M1.out _ ?_).mono ?_); exact (by repeat (first | exact Kept.refl _ | assumption | refine Kept.alloc ?_ _ | refine Kept.drew ?_ | refine Kept.drewN ?_ _ | refine Kept.setCell ?_ (by simp; try omega) _ | refine Kept.trans ?_ (by assumption))); rintro e w1 ⟨rfl, k1⟩; have d0 := k1.keeps (b := w.heap.size) (o := 0) (s := none) (v := .string t) (by simp [go_sem]); have d1 := k1.keeps (b := w.heap.size) (o := 1) (s := none) (v := .int .i64 p) (by simp [go_sem]); have d2 := k1.keeps (b := w.heap.size) (o := 2) (s := none) (v := .int .i64 1) (by simp [go_sem]))
    | (go_at_call 16; (with_reducible refine (M2.out _ _).mono ?_); rintro e w2 ⟨rfl, k2⟩; have d0 := k2.keeps d0; have d1 := k2.keeps d1; have d2 := k2.keeps d2; obtain ⟨cur, hcs, hmk⟩ := make_cap3 (n + 1) (by omega) w2; (rw [show ((n + 1 : Nat) : Int) = (n : Int) + 1 by omega] at hmk); have K2 := hid (show Kept w w2 from (by repeat (first | exact Kept.refl _ | assumption | refine Kept.alloc ?_ _ | refine Kept.drew ?_ | refine Kept.drewN ?_ _ | refine Kept.setCell ?_ (by simp; try omega) _ | refine Kept.trans ?_ (by assumption)))); have HKA := hid (show Kept w2 (w2.alloc (.cells cur 32)) from (by repeat (first | exact Kept.refl _ | assumption | refine Kept.alloc ?_ _ | refine Kept.drew ?_ | refine Kept.drewN ?_ _ | refine Kept.setCell ?_ (by simp; try omega) _ | refine Kept.trans ?_ (by assumption)))); have HRO := hid (World.ownsRow_made (base := w2.heap.size) (e := 32) (size := 3) w2 cur (n + 1) (Nat.le_refl _) (by unfold maxLen; omega) (by rw [hcs])); clear hcs)
    | (at_builtin; refine wpList_append_ents (W := w2) rfl _ _ rfl _ (i + 1) _ (L.drop i) _ rfl r4 rfl ((K2.out.trans k4).ents ht2.out) (by rw [HDL.out]; omega) k4 ?_; intro v5 w5 r5 k5)
    | (at_builtin; refine wpList_push (W := w2) rfl (.tmp 44) (.tmp 46) 23 rfl 32 _ 3 32 Tryd.underlying23 info_en rfl (by decide) (by decide) _ i _ [.string t, .int .i64 p, .int .i64 1] _ rfl r3 rfl rfl (by simp [Value.oneCell']) (by omega) k3 ?_; intro v4 w4 r4 k4; rw [← HCE.out, ← ecells_app] at r4)
    | (at_builtin; refine wpList_append_ents (W := w2) rfl _ _ rfl _ 0 [] (L.take i) _ rfl HRO.out rfl ((K2.out.trans HKA.out).ents ht1.out) (by rw [HTL.out]; omega) HKA.out ?_; intro v3 w3 r3 k3; rw [Nat.zero_add, HTL.out, List.nil_append] at r3; have d0 := k3.keeps d0; have d1 := k3.keeps d1; have d2 := k3.keeps d2))
  all_goals
    go_ret2
    have r6 := ownsRow_base r5 K2.out.size
    rw [HDL.out, show i + 1 + (n - i) = n + 1 by omega] at r6
    exact ⟨_, rfl, by simpa using r6, K2.out.trans k5⟩
end Go.Proofs.YtiiogglflpladaaDoor
