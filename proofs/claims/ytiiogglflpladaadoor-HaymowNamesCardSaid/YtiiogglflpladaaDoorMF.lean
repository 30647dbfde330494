/- HaymowNames: title.allowed, the two functions that visit calls, cut, Is, Fit. -/
import Derived.Test.YtiiogglflpladaaDoorME
import Derived.Test.YtiiogglflpladaaDoor19A
namespace Go.Proofs.YtiiogglflpladaaDoor
set_option linter.unusedSimpArgs false
set_option linter.unusedVariables false
open Go.RowKit

theorem quiet_l {P : Program} {f : FuncId} {args : Array Value} {w : World} {n : Nat} {v : Value}
    (h : Calls P f args (w.drewN n) fun e w' => e = .returned v ∧ w.drewN n = w') : Calls P f args (w.drewN n) fun e w'' => e = .returned v ∧ ∃ m, w'' = w.drewN m :=
  h.mono fun _ _ ⟨he, hm⟩ => ⟨he, n, hm.symm⟩
theorem wp_okR (n : Nat) : okR n = (decide (32 ≤ n) && decide (n ≠ 127) && decide (n ≠ 47)) := rfl
theorem allowed_any (n : Nat) (i : Int) (hi : (n : Int) = i) (w : World) : Calls Tryd.prog 37 #[.int .i32 i] w fun e w' => e = .returned (.bool (okR n)) ∧ w = w' := by
  by_cases h1 : 32 ≤ i
  · by_cases h2 : i = 127
    · have e : okR n = false := by have : n = 127 := by omega
                                   subst this; decide
      rw [e]; clear e hi
      subst h2
      go_enter Tryd.func37, Tryd.ntmps37
      go_wp2
      go_ret
      exact ⟨rfl, rfl⟩
    · by_cases h3 : i = 47
      · have e : okR n = false := by have : n = 47 := by omega
                                     subst this; decide
        rw [e]; clear e hi
        subst h3
        go_enter Tryd.func37, Tryd.ntmps37
        go_wp2
        go_ret
        exact ⟨rfl, rfl⟩
      · have e : okR n = true := by
          rw [wp_okR, decide_eq_true (by omega), decide_eq_true (by omega), decide_eq_true (by omega)]; rfl
        rw [e]; clear e hi
        go_enter Tryd.func37, Tryd.ntmps37
        go_wp2
        go_ret
        refine ⟨?_, rfl⟩
        simp [h2, h3]
  · have e : okR n = false := by rw [wp_okR, decide_eq_false (by omega)]; rfl
    rw [e]; clear e hi
    go_enter Tryd.func37, Tryd.ntmps37
    go_wp2
    go_ret
    exact ⟨rfl, rfl⟩

abbrev IsB (N b : Nat) (l : List UInt8) (w : World) : Prop := Lib.IsBuilder 80 5 N b (Lib.byteCells l) w
theorem BuilderAt.vs {N M b : Nat} {p : Value} {bs : List Value} {w w' : World} (h : Lib.BuilderAt 80 5 N b p bs w) (k : VS M w w') : Lib.BuilderAt 80 5 N b p bs w' := by
  obtain ⟨hB, v, hb, hown, hne⟩ := h
  refine ⟨hB, v, k.2.2.2.2.2 _ _ _ _ hb, ⟨hown.1, ?_⟩, hne⟩
  rcases hown.2 with h | ⟨g, cap, cur, hv, hbg, hg, rest⟩
  · exact .inl h
  · exact .inr ⟨g, cap, cur, hv, hbg, k.2.2.2.2.2 _ _ _ _ hg, rest⟩
theorem IsB.vs {N M b : Nat} {l : List UInt8} {w w' : World} (h : IsB N b l w) (k : VS M w w') : IsB N b l w' := h.elim (fun x => .inl (BuilderAt.vs x k)) (fun x => .inr (BuilderAt.vs x k))
theorem CB.vs {M g : Nat} {t : TypeId} {cs : List Value} {w w' : World} (h : CB w g t cs) (k : VS M w w') : CB w' g t cs := k.2.2.2.2.2 _ _ _ _ h
theorem Kept.trans_below {W w w' : World} (h : Kept W w) (k : Below W.heap.size w w') : Kept W w' := Below.trans h k
theorem heap_set_other (w : World) (p : Addr) (v : Value) (k : Nat) (h : k ≠ p.block) : (w.setCell p v).heap[k]? = w.heap[k]? := Below.heap_setCell _ _ _ _ h
theorem BuilderAt.setOther {N b r : Nat} {p : Value} {bs cs : List Value} {w : World} (h : Lib.BuilderAt 80 5 N b p bs w) (hr : CB w r 3 cs) (v : Value) : Lib.BuilderAt 80 5 N b p bs (w.setCell ⟨r, 0, none⟩ v) := by
  obtain ⟨hB, u, hb, hown, hne⟩ := h
  have hbr : b ≠ r := by
    rintro rfl
    unfold CB at hr; rw [hb] at hr
    simp at hr
  refine ⟨hB, u, (heap_set_other w _ v b hbr).trans hb, ⟨hown.1, ?_⟩, hne⟩
  rcases hown.2 with h | ⟨g, cap, cur, hv, hbg, hg, rest⟩
  · exact .inl h
  · have hgr : g ≠ r := by
      rintro rfl
      unfold CB at hr; rw [hg] at hr
      simp at hr
    exact .inr ⟨g, cap, cur, hv, hbg, (heap_set_other w _ v g hgr).trans hg, rest⟩
theorem IsB.setOther {N b r : Nat} {l : List UInt8} {cs : List Value} {w : World} (h : IsB N b l w) (hr : CB w r 3 cs) (v : Value) : IsB N b l (w.setCell ⟨r, 0, none⟩ v) :=
  h.elim (fun x => .inl (BuilderAt.setOther x hr v)) (fun x => .inr (BuilderAt.setOther x hr v))
theorem CB.others {w w' : World} {b r : Nat} {cs : List Value} (h : Lib.OthersKept 5 (some b) w w') (hr : CB w r 3 cs) (hne : r ≠ b) : CB w' r 3 cs :=
  h r _ hr (fun e => hne (Option.some.inj e)) (fun c fz e => by cases e)
theorem ki_others {w w' : World} {N b : Nat} {bs : List Value} (h : Lib.OthersKept 5 (some b) w w') (hs : w.heap.size ≤ w'.heap.size) (hb : Lib.IsBuilder 80 5 N b bs w) : KI w w' := by
  refine ⟨hs, fun k s p e => h k _ e ?_ (fun c fz e => by cases e)⟩
  intro hk
  cases hk
  rcases hb with ⟨_, v, hbk, _⟩ | ⟨_, v, hbk, _⟩
  all_goals (rw [e] at hbk; cases hbk)
theorem KI.trans {a b c : World} (h : KI a b) (k : KI b c) : KI a c := ⟨Nat.le_trans h.1 k.1, fun i s p e => k.2 i s p (h.2 i s p e)⟩
theorem ki_set {w : World} {r : Nat} {t : TypeId} {cs : List Value} (hr : CB w r t cs) (v : Value) : KI w (w.setCell ⟨r, 0, none⟩ v) := by
  refine ⟨by simp [World.setCell], fun k s p e => (heap_set_other w _ v k ?_).trans e⟩
  rintro rfl
  unfold CB at hr; rw [e] at hr; cases hr
/-- cut: what is kept from rune to rune -/
def CutJ (W : World) (R : List UInt8) (l : List UInt8) (w : World) : Prop :=
  ∃ (f : Nat) (k : Nat) (acc : List UInt8), l.length ≤ f ∧ cutG f l k acc = R ∧ k ≤ 16 ∧ acc.length ≤ 24 ∧ Kept W w ∧ CB w (W.heap.size + 1) 3 [.int .i64 (k : Int)] ∧ IsB W.heap.size W.heap.size acc w
def CutQ (W : World) (R : List UInt8) (w : World) : Prop := Kept W w ∧ IsB W.heap.size W.heap.size R w
theorem CutJ.vs {W : World} {R l : List UInt8} {w w' : World} (h : CutJ W R l w) {N : Nat} (k : VS N w w') (hN : W.heap.size ≤ N) : CutJ W R l w' := by
  obtain ⟨f, n, acc, h1, h2, h3, h4, h5, h6, h7⟩ := h
  exact ⟨f, n, acc, h1, h2, h3, h4, h5.vs_to k hN, CB.vs h6 k, IsB.vs h7 k⟩
theorem cutG_nil (f k : Nat) (acc : List UInt8) : cutG f [] k acc = acc := by cases f <;> simp [cutG]
theorem CutJ.end_ {W : World} {R : List UInt8} {w : World} (h : CutJ W R [] w) : CutQ W R w := by
  obtain ⟨f, n, acc, h1, h2, h3, h4, h5, h6, h7⟩ := h
  rw [cutG_nil] at h2
  subst h2
  exact ⟨h5, h7⟩
set_option maxHeartbeats 4000000 in
theorem cut1_any (W : World) (R : List UInt8) (l : List UInt8) (w : World) (hl : l ≠ []) (h : CutJ W R l w) :
    Calls Tryd.prog 36 #[item l, .pointer (some ⟨W.heap.size + 1, 0, none⟩), .pointer (some ⟨W.heap.size, 0, none⟩)] w fun e w' => ∃ b, e = .returned (.bool b) ∧ KI w w' ∧ (b = true → CutJ W R (l.drop (dec l).2) w') ∧ (b = false → CutQ W R w') := by
  obtain ⟨f, k, acc, h1, h2, h3, h4, h5, h6, h7⟩ := h
  obtain ⟨d1, d4, d3⟩ := dec_width l hl
  obtain ⟨f, rfl⟩ : ∃ g, f = g + 1 := ⟨f - 1, by have : l.length ≠ 0 := by simpa using hl
                                                 omega⟩
  rw [cutG, if_neg hl] at h2
  have hdl : (l.drop (dec l).2).length ≤ f := by rw [List.length_drop]; omega
  obtain ⟨x, hx⟩ : ∃ x : Int, ((dec l).1 : Int) = x := ⟨_, rfl⟩
  obtain ⟨s, hs⟩ : ∃ s, bstr (l.take (dec l).2) = s := ⟨_, rfl⟩
  have hss : s.size = (dec l).2 := by rw [← hs, bstr_size, List.length_take]; omega
  have HX := hid hx; have HS := hid hs
  rw [item, hx, hs]
  clear hx hs
  have hr := CB.cell h6 0 (by simp)
  have hrf := CB.frozen h6 0
  simp only [List.getElem_cons_zero] at hr
  have HB := hid (fun (W1 : World) (K : VS W.heap.size w W1) => IsB.vs h7 K)
  have H6 := hid h6; have H5 := hid h5; have H7 := hid h7
  clear h6 h5 h7
  have hrl : W.heap.size + 1 < w.heap.size := CB.lt H6.out
  by_cases hS : Stray l
  · rw [if_pos (.inl hS)] at h2
    rw [decide_eq_true hS]
    have H2 := hid h2
    clear h2 hS
    go_enter Tryd.func36, Tryd.ntmps36
    go_wp2
    go_ret
    have kk : Kept w (w.alloc _) := (Kept.refl w).alloc (.cells #[.int .i32 x, .string s, .bool true] 83)
    exact ⟨true, rfl, ki_kept kk, fun _ => ⟨f, k, acc, hdl, H2.out, h3, h4, H5.out.trans kk, kk.cb H6.out, IsB.vs H7.out (kk.vs W.heap.size)⟩, (fun c => nomatch c)⟩
  rw [decide_eq_false hS]
  by_cases hok : okR (dec l).1 = false
  · rw [if_pos (.inr hok)] at h2
    have H2 := hid h2
    have HOK := hid hok
    clear h2 hS hok
    go_enter Tryd.func36, Tryd.ntmps36
    go_wp2_with (go_at_call 37; refine (allowed_any (dec l).1 _ HX.out _).mono ?_; rintro e w' ⟨rfl, rfl⟩; rw [HOK.out])
    go_ret
    have kk : Kept w (w.alloc _) := (Kept.refl w).alloc (.cells #[.int .i32 x, .string s, .bool false] 83)
    exact ⟨true, rfl, ki_kept kk, fun _ => ⟨f, k, acc, hdl, H2.out, h3, h4, H5.out.trans kk, kk.cb H6.out, IsB.vs H7.out (kk.vs W.heap.size)⟩, (fun c => nomatch c)⟩
  rw [if_neg (by rintro (c | c); exact hS c; exact hok c)] at h2
  have HOK := hid (show okR (dec l).1 = true by simpa using hok)
  have hp := dec_piece l hl hS
  clear hS hok
  by_cases h16 : (k : Int) = 16
  · rw [if_pos (.inl (by omega))] at h2
    have H2 := hid h2
    clear h2
    go_enter Tryd.func36, Tryd.ntmps36
    rw [h16] at hr
    go_wp2_with (go_at_call 37; refine (allowed_any (dec l).1 _ HX.out _).mono ?_; rintro e w' ⟨rfl, rfl⟩; rw [HOK.out])
    go_quiet (fail)
    go_wp2
    go_ret
    have kk : Kept w ((w.alloc (.cells #[.int .i32 x, .string s, .bool false] 83)).drewN nq) := ((Kept.refl w).alloc _).drewN nq
    exact ⟨false, rfl, ki_kept kk, (fun c => nomatch c), fun _ => by rw [← H2.out]; exact ⟨H5.out.trans kk, IsB.vs H7.out (kk.vs W.heap.size)⟩⟩
  have hsum : ((acc.length : Int) + (s.size : Int)) ≤ 140737488355328 := by omega
  have HLN := hid (fun (n : Nat) => len_any W.heap.size W.heap.size (Lib.byteCells acc) _ (IsB.vs H7.out ((((Kept.refl w).alloc (.cells #[.int .i32 x, .string s, .bool false] 83)).drewN n).vs W.heap.size)))
  rw [Lib.byteCells_length] at HLN
  have h16b : ((k : Int) == 16) = false := by simpa using h16
  have H16 := hid h16
  clear h16
  by_cases h24 : (24 : Int) < (acc.length : Int) + (s.size : Int)
  · rw [if_pos (.inr (by omega))] at h2
    have H2 := hid h2
    clear h2
    go_enter Tryd.func36, Tryd.ntmps36
    go_wp2_with (go_at_call 37; refine (allowed_any (dec l).1 _ HX.out _).mono ?_; rintro e w' ⟨rfl, rfl⟩; rw [HOK.out])
    go_quiet (first | (go_at_call 38; exact quiet_l (HLN.out _)))
    go_wp2
    go_ret
    have kk : Kept w ((w.alloc (.cells #[.int .i32 x, .string s, .bool false] 83)).drewN nq) := ((Kept.refl w).alloc _).drewN nq
    exact ⟨false, rfl, ki_kept kk, (fun c => nomatch c), fun _ => by rw [← H2.out]; exact ⟨H5.out.trans kk, IsB.vs H7.out (kk.vs W.heap.size)⟩⟩
  rw [if_neg (by have := H16.out; rintro (c | c) <;> omega)] at h2
  have H2 := hid h2
  clear h2
  go_enter Tryd.func36, Tryd.ntmps36
  go_wp2_with (go_at_call 37; refine (allowed_any (dec l).1 _ HX.out _).mono ?_; rintro e w' ⟨rfl, rfl⟩; rw [HOK.out])
  go_quiet (first | (go_at_call 38; exact quiet_l (HLN.out _)))
  obtain ⟨W1, hW1⟩ : ∃ W1, (w.alloc (.cells #[.int .i32 x, .string s, .bool false] 83)).drewN nq = W1 := ⟨_, rfl⟩
  have kk : Kept w W1 := by rw [← hW1]; exact ((Kept.refl w).alloc _).drewN nq
  have cs1 : W1.cell? ⟨w.heap.size, 1, none⟩ = some (.string s) := by rw [← hW1]; simp [go_sem]
  rw [hW1]
  have G6 := hid (kk.cb H6.out)
  have G7 := hid (IsB.vs H7.out (kk.vs W.heap.size))
  have hr1 := kk.keeps hr
  have hrf1 := kk.free hr hrf
  have G8 := hid (IsB.setOther G7.out G6.out (.int .i64 ((k : Int) + 1)))
  have G9 := hid (CB.set G6.out 0 (.int .i64 ((k : Int) + 1)))
  have cs2 : (W1.setCell ⟨W.heap.size + 1, 0, none⟩ (.int .i64 ((k : Int) + 1))).cell? ⟨w.heap.size, 1, none⟩ = some (.string s) := by rw [World.cell?_setCell_other _ _ _ _ (by simp)]; exact cs1
  have hsz3 : W.heap.size ≤ (W1.setCell ⟨W.heap.size + 1, 0, none⟩ (.int .i64 ((k : Int) + 1))).heap.size := by simp only [World.setCell, Array.size_modify]; exact Nat.le_trans (by omega) kk.size
  have KK := hid kk
  clear kk hr hrf hW1 HLN HB
  go_wp2_with (go_at_call 39; (with_reducible refine (writeString_any W.heap.size W.heap.size (Lib.byteCells acc) s _ G8.out ?_ hsz3).mono ?_); (rw [Lib.byteCells_length]; omega); rintro e w3 ⟨rfl, B3, k3, o3⟩)
  go_ret
  refine ⟨true, rfl, ?_, fun _ => ⟨f, k + 1, acc ++ l.take (dec l).2, hdl, H2.out, by have := H16.out; omega, ?_, ?_, ?_, ?_⟩, (fun c => nomatch c)⟩
  · exact ((ki_kept KK.out).trans (ki_set G6.out _)).trans (ki_others o3 k3.size G8.out)
  · rw [List.length_append, List.length_take]; omega
  · exact ((H5.out.trans KK.out).setCell (by simp) _).trans_below k3
  · have := CB.others o3 G9.out (by omega)
    simpa using this
  · have := HS.out
    refine .inr ?_
    rw [Lib.byteCells_append]
    rw [← this] at B3
    exact B3
end Go.Proofs.YtiiogglflpladaaDoor
