/- HaymowNames: title.cut, Is, Fit. -/
import Derived.Test.YtiiogglflpladaaDoorMF
namespace Go.Proofs.YtiiogglflpladaaDoor
set_option linter.unusedSimpArgs false
set_option linter.unusedVariables false
open Go.RowKit

set_option maxHeartbeats 2000000 in
theorem tcut_any (l : List UInt8) (hl : l.length ≤ 1000) (w : World) : Calls Tryd.prog 17 #[.string (bstr l)] w fun e w' => e = .returned (.string (bstr (cutL l))) ∧ Kept w w' := by
  obtain ⟨W2, hW2⟩ : ∃ W2, (w.alloc (.cells #[.pointer none, .slice none 0 0] 80)).alloc (.cells #[.int .i64 0] 3) = W2 := ⟨_, rfl⟩
  have hs2 : w.heap.size ≤ W2.heap.size := by rw [← hW2]; exact (((Kept.refl w).alloc _).alloc _).size
  have hV := visit_cut (.pointer (some ⟨w.heap.size + 1, 0, none⟩)) (.pointer (some ⟨w.heap.size, 0, none⟩)) l (CutJ w (cutL l)) (CutQ w (cutL l)) (fun r wr hr h => cut1_any w (cutL l) r wr hr h) (fun wr h => h.end_) W2
    (fun r wr w' h k => h.vs k hs2) hl
    ⟨l.length, 0, [], Nat.le_refl _, rfl, by omega, by simp, by rw [← hW2]; exact ((Kept.refl w).alloc _).alloc _, by rw [← hW2]; have := cb_new (w.alloc (.cells #[.pointer none, .slice none 0 0] 80)) 3 [.int .i64 0]; simpa using this,
      by rw [← hW2]; exact IsB.vs (Lib.fresh_isBuilder 80 5 w) (((Kept.refl _).alloc _).vs 0)⟩
  have HV := hid hV
  clear hV
  have HW := hid hW2
  clear hW2
  go_enter Tryd.func17, Tryd.ntmps17
  go_wp2_with (first | (go_at_call 35; rw [HW.out]; (with_reducible refine HV.out.mono ?_); rintro e w3 ⟨rfl, q1, q2⟩) | (go_at_call 40; (with_reducible refine (string_any w.heap.size w.heap.size (cutL l) _ q2 q1.size).mono ?_); rintro e w4 ⟨rfl, k4⟩))
  go_ret
  exact ⟨rfl, Below.trans q1 k4⟩

/-- Is: what is kept from rune to rune -/
def IsJ (W : World) (R : Bool × Nat) (l : List UInt8) (w : World) : Prop :=
  ∃ (f : Nat) (k : Nat), l.length ≤ f ∧ isG f l k = R ∧ k + l.length ≤ 1000 ∧ Kept W w ∧ CB w W.heap.size 3 [.int .i64 (k : Int)] ∧ CB w (W.heap.size + 1) 4 [.bool true]
def IsQ (W : World) (R : Bool × Nat) (w : World) : Prop := Kept W w ∧ CB w W.heap.size 3 [.int .i64 (R.2 : Int)] ∧ CB w (W.heap.size + 1) 4 [.bool R.1]
theorem IsJ.vs {W : World} {R : Bool × Nat} {l : List UInt8} {w w' : World} (h : IsJ W R l w) {N : Nat} (k : VS N w w') (hN : W.heap.size ≤ N) : IsJ W R l w' := by
  obtain ⟨f, n, h1, h2, h3, h5, h6, h7⟩ := h
  exact ⟨f, n, h1, h2, h3, h5.vs_to k hN, CB.vs h6 k, CB.vs h7 k⟩
theorem isG_nil (f k : Nat) : isG f [] k = (true, k) := by cases f <;> simp [isG]
theorem IsJ.end_ {W : World} {R : Bool × Nat} {w : World} (h : IsJ W R [] w) : IsQ W R w := by
  obtain ⟨f, n, h1, h2, h3, h5, h6, h7⟩ := h
  rw [isG_nil] at h2
  subst h2
  exact ⟨h5, h6, h7⟩
theorem CB.setOther {w : World} {g r : Nat} {t : TypeId} {cs : List Value} (h : CB w g t cs) (hne : g ≠ r) (o : Nat) (v : Value) : CB (w.setCell ⟨r, o, none⟩ v) g t cs := (heap_set_other w _ v g hne).trans h
set_option maxHeartbeats 4000000 in
set_option maxRecDepth 100000 in
theorem is1_any (W : World) (R : Bool × Nat) (l : List UInt8) (w : World) (hl : l ≠ []) (h : IsJ W R l w) :
    Calls Tryd.prog 41 #[item l, .pointer (some ⟨W.heap.size, 0, none⟩), .pointer (some ⟨W.heap.size + 1, 0, none⟩)] w fun e w' => ∃ b, e = .returned (.bool b) ∧ KI w w' ∧ (b = true → IsJ W R (l.drop (dec l).2) w') ∧ (b = false → IsQ W R w') := by
  obtain ⟨f, k, h1, h2, h3, h5, h6, h7⟩ := h
  obtain ⟨d1, d4, d3⟩ := dec_width l hl
  have hl1 : l.length ≠ 0 := by simpa using hl
  obtain ⟨f, rfl⟩ : ∃ g, f = g + 1 := ⟨f - 1, by omega⟩
  rw [isG, if_neg hl] at h2
  have hdl : (l.drop (dec l).2).length ≤ f := by rw [List.length_drop]; omega
  have hd3 : k + 1 + (l.drop (dec l).2).length ≤ 1000 := by rw [List.length_drop]; omega
  obtain ⟨x, hx⟩ : ∃ x : Int, ((dec l).1 : Int) = x := ⟨_, rfl⟩
  obtain ⟨s, hs⟩ : ∃ s, bstr (l.take (dec l).2) = s := ⟨_, rfl⟩
  have HX := hid hx
  rw [item, hx, hs]
  clear hx hs d4 d1 d3
  have hr := CB.cell h6 0 (by simp)
  have hrf := CB.frozen h6 0
  have hg := CB.cell h7 0 (by simp)
  have hgf := CB.frozen h7 0
  simp only [List.getElem_cons_zero] at hr hg
  have H6 := hid h6; have H5 := hid h5; have H7 := hid h7
  have hk1 : (k : Int) + 1 ≤ 1000 := by omega
  have hrl : W.heap.size + 1 < w.heap.size := CB.lt H7.out
  clear h6 h5 h7 h3 h1
  have fin : ∀ (st b : Bool), (isG (f + 1) l k = if b then isG f (l.drop (dec l).2) (k + 1) else (false, k + 1)) → isG (f + 1) l k = R →
      ∀ w', w' = ((w.alloc (.cells #[.int .i32 x, .string s, .bool st] 83)).setCell ⟨W.heap.size, 0, none⟩ (.int .i64 ((k : Int) + 1))).setCell ⟨W.heap.size + 1, 0, none⟩ (.bool b) →
      ∃ c, Ending.returned (.bool b) = .returned (.bool c) ∧ KI w w' ∧ (c = true → IsJ W R (l.drop (dec l).2) w') ∧ (c = false → IsQ W R w') := by
    intro st b e1 e2 w' hw'
    have kk : Kept w (w.alloc (.cells #[.int .i32 x, .string s, .bool st] 83)) := (Kept.refl w).alloc _
    have a6 := kk.cb H6.out
    have a7 := kk.cb H7.out
    have b6 := CB.set a6 0 (.int .i64 ((k : Int) + 1))
    have b7 := CB.setOther (r := W.heap.size) a7 (by omega) 0 (.int .i64 ((k : Int) + 1))
    have c6 := CB.setOther (r := W.heap.size + 1) b6 (by omega) 0 (.bool b)
    have c7 := CB.set b7 0 (.bool b)
    have kw : Kept W w' := by rw [hw']; exact ((H5.out.trans kk).setCell (by simp) _).setCell (by simp) _
    rw [← hw'] at c6 c7
    refine ⟨b, rfl, ?_, fun hb => ?_, fun hb => ?_⟩
    · rw [hw']; exact ((ki_kept kk).trans (ki_set a6 _)).trans (ki_set b7 _)
    · subst hb
      exact ⟨f, k + 1, hdl, by rw [← e2, e1]; rfl, hd3, kw, by simpa using c6, by simpa using c7⟩
    · subst hb
      rw [e1] at e2
      subst e2
      exact ⟨kw, by simpa using c6, by simpa using c7⟩
  have FIN := hid fin
  clear fin
  by_cases hS : Stray l
  · have e1 : isG (f + 1) l k = if false then isG f (l.drop (dec l).2) (k + 1) else (false, k + 1) := by rw [isG, if_neg hl, if_pos (.inl hS)]; rfl
    have E := hid (FIN.out true false e1 (by rw [isG, if_neg hl]; exact h2))
    rw [decide_eq_true hS]
    clear h2 hS e1
    go_enter Tryd.func41, Tryd.ntmps41
    go_wp2
    go_ret
    exact E.out _ rfl
  · by_cases hok : okR (dec l).1 = false
    · have e1 : isG (f + 1) l k = if false then isG f (l.drop (dec l).2) (k + 1) else (false, k + 1) := by rw [isG, if_neg hl, if_pos (.inr hok)]; rfl
      have E := hid (FIN.out false false e1 (by rw [isG, if_neg hl]; exact h2))
      rw [decide_eq_false hS]
      have HOK := hid hok
      clear h2 hS e1 hok
      go_enter Tryd.func41, Tryd.ntmps41
      go_wp2_with (go_at_call 37; refine (allowed_any (dec l).1 _ HX.out _).mono ?_; rintro e w' ⟨rfl, rfl⟩; rw [HOK.out])
      go_ret
      exact E.out _ rfl
    · have e1 : isG (f + 1) l k = if true then isG f (l.drop (dec l).2) (k + 1) else (false, k + 1) := by rw [isG, if_neg hl, if_neg (by rintro (c | c); exact hS c; exact hok c)]; rfl
      have E := hid (FIN.out false true e1 (by rw [isG, if_neg hl]; exact h2))
      rw [decide_eq_false hS]
      have HOK := hid (show okR (dec l).1 = true by simpa using hok)
      clear h2 hS e1 hok
      go_enter Tryd.func41, Tryd.ntmps41
      go_wp2_with (go_at_call 37; refine (allowed_any (dec l).1 _ HX.out _).mono ?_; rintro e w' ⟨rfl, rfl⟩; rw [HOK.out])
      go_ret
      exact E.out _ rfl

theorem bstr_toList (a : List UInt8) : (bstr a).toList = a := by rw [Lib.toList_data, bstr_data]
theorem beq_text (a b : List UInt8) : ((bstr a).toList == (bstr b).toList) = decide (a = b) := by
  rw [bstr_toList, bstr_toList]
  by_cases h : a = b
  · subst h; simp
  · rw [decide_eq_false h, beq_eq_false_iff_ne]; exact h
set_option maxHeartbeats 4000000 in
set_option maxRecDepth 100000 in
theorem is_any (l : List UInt8) (hl : l.length ≤ 1000) (w : World) : Calls Tryd.prog 18 #[.string (bstr l)] w fun e w' => e = .returned (.bool (nameB l)) ∧ Kept w w' := by
  obtain ⟨W2, hW2⟩ : ∃ W2, (w.alloc (.cells #[.int .i64 0] 3)).alloc (.cells #[.bool true] 4) = W2 := ⟨_, rfl⟩
  have hs2 : w.heap.size ≤ W2.heap.size := by rw [← hW2]; exact (((Kept.refl w).alloc _).alloc _).size
  have hV := visit_is (.pointer (some ⟨w.heap.size, 0, none⟩)) (.pointer (some ⟨w.heap.size + 1, 0, none⟩)) l (IsJ w (isG l.length l 0)) (IsQ w (isG l.length l 0)) (fun r wr hr h => is1_any w (isG l.length l 0) r wr hr h) (fun wr h => h.end_) W2
    (fun r wr w' h k => h.vs k hs2) hl
    ⟨l.length, 0, Nat.le_refl _, rfl, by omega, by rw [← hW2]; exact ((Kept.refl w).alloc _).alloc _, by rw [← hW2]; have := ((Kept.refl (w.alloc (.cells #[.int .i64 0] 3))).alloc (.cells #[.bool true] 4)).cb (cb_new w 3 [.int .i64 0]); simpa using this,
      by rw [← hW2]; have := cb_new (w.alloc (.cells #[.int .i64 0] 3)) 4 [.bool true]; simpa using this⟩
  have HV := hid hV
  clear hV
  have HW := hid hW2
  clear hW2 hs2
  obtain ⟨n, hn⟩ : ∃ n, l.length = n := ⟨_, rfl⟩
  have hsz : (bstr l).size = n := by rw [bstr_size, hn]
  have q1 : ((bstr l).toList == [46]) = decide (l = [46]) := by rw [show ([46] : List UInt8) = (bstr [46]).toList from (bstr_toList _).symm]; rw [beq_text, bstr_toList]
  have q2 : ((bstr l).toList == [46, 46]) = decide (l = [46, 46]) := by rw [show ([46, 46] : List UInt8) = (bstr [46, 46]).toList from (bstr_toList _).symm]; rw [beq_text, bstr_toList]
  unfold nameB
  rw [hn] at HV ⊢
  by_cases h0 : n < 1
  · have e : (decide (1 ≤ n) && decide (n ≤ 24) && decide (l ≠ [46]) && decide (l ≠ [46, 46]) && (isG n l 0).1 && decide ((isG n l 0).2 ≤ 16)) = false := by rw [decide_eq_false (by omega)]; rfl
    rw [e]
    have h0' : ((n : Int) < 1) := by omega
    have hnz : n = 0 := by omega
    clear e q1 q2 h0
    go_enter Tryd.func18, Tryd.ntmps18
    go_wp2
    go_ret
    exact ⟨rfl, Kept.refl _⟩
  by_cases h24 : 24 < n
  · have e : (decide (1 ≤ n) && decide (n ≤ 24) && decide (l ≠ [46]) && decide (l ≠ [46, 46]) && (isG n l 0).1 && decide ((isG n l 0).2 ≤ 16)) = false := by rw [decide_eq_false (show ¬ n ≤ 24 by omega)]; simp
    rw [e]
    clear e q1 q2
    go_enter Tryd.func18, Tryd.ntmps18
    go_wp2
    go_ret
    exact ⟨rfl, Kept.refl _⟩
  by_cases h46 : l = [46]
  · have e : (decide (1 ≤ n) && decide (n ≤ 24) && decide (l ≠ [46]) && decide (l ≠ [46, 46]) && (isG n l 0).1 && decide ((isG n l 0).2 ≤ 16)) = false := by rw [decide_eq_false (show ¬ l ≠ [46] from fun c => c h46)]; simp
    rw [e]
    have q1 : (bstr l).toList = [46] := by rw [bstr_toList]; exact h46
    clear e q2 h46
    generalize bstr l = s at *
    go_enter Tryd.func18, Tryd.ntmps18
    go_wp2
    go_ret
    exact ⟨rfl, Kept.refl _⟩
  rw [decide_eq_false h46] at q1
  have q1n : ¬ (bstr l).toList = [46] := by rw [bstr_toList]; exact h46
  by_cases h462 : l = [46, 46]
  · have e : (decide (1 ≤ n) && decide (n ≤ 24) && decide (l ≠ [46]) && decide (l ≠ [46, 46]) && (isG n l 0).1 && decide ((isG n l 0).2 ≤ 16)) = false := by rw [decide_eq_false (show ¬ l ≠ [46, 46] from fun c => c h462)]; simp
    rw [e]
    have q2 : (bstr l).toList = [46, 46] := by rw [bstr_toList]; exact h462
    clear e h462 h46
    generalize bstr l = s at *
    go_enter Tryd.func18, Tryd.ntmps18
    go_wp2
    go_ret
    exact ⟨rfl, Kept.refl _⟩
  rw [decide_eq_false h462] at q2
  have q2n : ¬ (bstr l).toList = [46, 46] := by rw [bstr_toList]; exact h462
  have e : (decide (1 ≤ n) && decide (n ≤ 24) && decide (l ≠ [46]) && decide (l ≠ [46, 46]) && (isG n l 0).1 && decide ((isG n l 0).2 ≤ 16)) = ((isG n l 0).1 && decide ((isG n l 0).2 ≤ 16)) := by
    rw [decide_eq_true (show 1 ≤ n by omega), decide_eq_true (show n ≤ 24 by omega), decide_eq_true h46, decide_eq_true h462]; simp
  rw [e]
  clear e h46 h462
  obtain ⟨R, hR⟩ : ∃ R, isG n l 0 = R := ⟨_, rfl⟩
  rw [hR] at HV ⊢
  obtain ⟨g, k⟩ := R
  dsimp only at HV ⊢
  clear hR
  generalize bstr l = s at *
  cases g with
  | true =>
    go_enter Tryd.func18, Tryd.ntmps18
    go_wp2_with (first | (go_at_call 35; rw [HW.out]; (with_reducible refine HV.out.mono ?_); rintro e w3 ⟨rfl, k1, k2, k3⟩; have z1 := CB.cell k2 0 (by simp); have z2 := CB.cell k3 0 (by simp); simp only [List.getElem_cons_zero] at z1 z2; clear k2 k3))
    go_ret
    exact ⟨ret_bool (by simp; omega), k1⟩
  | false =>
    go_enter Tryd.func18, Tryd.ntmps18
    go_wp2_with (first | (go_at_call 35; rw [HW.out]; (with_reducible refine HV.out.mono ?_); rintro e w3 ⟨rfl, k1, k2, k3⟩; have z1 := CB.cell k2 0 (by simp); have z2 := CB.cell k3 0 (by simp); simp only [List.getElem_cons_zero] at z1 z2; clear k2 k3))
    go_ret
    exact ⟨rfl, k1⟩
set_option maxHeartbeats 2000000 in
theorem fit_any (l : List UInt8) (hl : l.length ≤ 900) (w : World) : Calls Tryd.prog 5 #[.string (bstr l)] w fun e w' => e = .returned (.string (bstr (fitL l))) ∧ Kept w w' := by
  have hc : (cutL l).length ≤ 24 := by
    obtain ⟨k, -, -, h⟩ := cut_good l.length l 0 [] .nil (by omega) (by simp)
    exact h
  have C1 := hid (fun w => tcut_any l (by omega) w)
  have C2 := hid (fun w => is_any (cutL l) (by omega) w)
  have C3 := hid (fun w => tcut_any (120 :: cutL l) (by simp; omega) w)
  have ha : ∀ s : ByteArray, bstr (cutL l) = s → Op.stringOp .add ⟨#[120]⟩ s = pure (.string (bstr (120 :: cutL l))) := by
    rintro s rfl
    have hsz : (bstr (cutL l)).size = (cutL l).length := bstr_size _
    have : Op.stringOp .add (bstr [120]) (bstr (cutL l)) = pure (.string (bstr [120] ++ bstr (cutL l))) := by
      simp only [Op.stringOp]
      rw [if_neg]
      rw [bstr_size, bstr_size, show IntKind.i64.max = 9223372036854775807 from rfl]
      simp only [List.length_cons, List.length_nil]
      omega
    rw [bstr_app] at this
    exact this
  unfold fitL
  obtain ⟨s, hs⟩ : ∃ s, bstr (cutL l) = s := ⟨_, rfl⟩
  obtain ⟨s2, hs2⟩ : ∃ s, bstr (120 :: cutL l) = s := ⟨_, rfl⟩
  obtain ⟨s3, hs3⟩ : ∃ s, bstr (cutL (120 :: cutL l)) = s := ⟨_, rfl⟩
  have ha := ha s hs
  rw [hs2] at ha
  rw [hs] at C1 C2
  rw [hs2, hs3] at C3
  cases hb : nameB (cutL l) with
  | true =>
    rw [if_pos rfl, hs]
    rw [hb] at C2
    clear hb hs hs2 hs3 ha hc
    go_enter Tryd.func5, Tryd.ntmps5
    go_wp2_with (first | (go_at_call 17; (with_reducible refine (C1.out _).mono ?_); rintro e w1 ⟨rfl, k1⟩) | (go_at_call 18; (with_reducible refine (C2.out _).mono ?_); rintro e w2 ⟨rfl, k2⟩))
    go_ret
    exact ⟨rfl, k1.trans k2⟩
  | false =>
    rw [if_neg (by simp), hs3]
    rw [hb] at C2
    clear hb hs hs2 hs3 hc
    go_enter Tryd.func5, Tryd.ntmps5
    go_wp2_with (first | (go_at_call 18; (with_reducible refine (C2.out _).mono ?_); rintro e w2 ⟨rfl, k2⟩) | (go_at_call 17; (first | (with_reducible refine (C1.out _).mono ?_); rintro e w1 ⟨rfl, k1⟩ | (with_reducible refine (C3.out _).mono ?_); rintro e w3 ⟨rfl, k3⟩)))
    go_ret
    exact ⟨rfl, (k1.trans k2).trans k3⟩
end Go.Proofs.YtiiogglflpladaaDoor
