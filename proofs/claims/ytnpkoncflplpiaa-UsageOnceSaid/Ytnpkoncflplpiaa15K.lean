/- haymowref15: Fits, has, Free. -/
import Derived.Test.Ytnpkoncflplpiaa15F
import Derived.Maps.AppendAt
namespace Go.Proofs.Ytnpkoncflplpiaa
set_option linter.unusedSimpArgs false
set_option linter.unusedVariables false
open Go.RowKit

theorem rfits_any (d l v s : Int) (vu : Value) (n : Nat) (f g : Nat → Int) (w : World) (hU : Uses w vu n f g) :
    Calls Try.prog 27 #[.agg #[.int .i64 d, .int .i64 l, .int .i64 v, .int .i64 s], vu] w fun e w' => e = .returned (.bool (mayB d l v s && decide ((n : Int) = segsF d l v s))) ∧ Kept w w' := by
  obtain ⟨A, c, rfl⟩ := hU.shape
  by_cases hm : mayB d l v s = true
  · rw [hm]
    have H1 := hid (rmay_t d l v s · hm)
    have H2 := hid (rcount_any d l v s · hm)
    obtain ⟨N, hN⟩ : ∃ N : Nat, segsF d l v s = (N : Int) := ⟨(segsF d l v s).toNat, by have := segsF_bd d l v s; omega⟩
    have hn63 : (n : Int) ≤ 9223372036854775807 := by have := hU.len; omega
    rw [hN] at H2 ⊢
    clear hN hU hm
    go_enter Try.func27, Try.ntmps27
    go_wp2_with (first
      | (go_at_call 21; refine (H1.out _).mono ?_; rintro e w1 ⟨rfl, k1⟩; have bk0 := k1.keeps (b := w.heap.size) (o := 0) (s := none) (v := .int .i64 d) (by simp [go_sem]); have bk1 := k1.keeps (b := w.heap.size) (o := 1) (s := none) (v := .int .i64 l) (by simp [go_sem]); have bk2 := k1.keeps (b := w.heap.size) (o := 2) (s := none) (v := .int .i64 v) (by simp [go_sem]); have bk3 := k1.keeps (b := w.heap.size) (o := 3) (s := none) (v := .int .i64 s) (by simp [go_sem]))
      | (go_at_call 22; refine (H2.out _).mono ?_; rintro e w2 ⟨rfl, k2⟩))
    go_ret
    exact ⟨by congr 2, (by repeat (first | exact Kept.refl _ | assumption | refine Kept.alloc ?_ _ | refine Kept.drew ?_ | refine Kept.drewN ?_ _ | refine Kept.setCell ?_ (by simp; try omega) _ | refine Kept.trans ?_ (by assumption)))⟩
  · have hm' : mayB d l v s = false := by simpa using hm
    rw [hm']
    have H1 := hid (rmay_f d l v s · hm')
    clear hm hm' hU
    go_enter Try.func27, Try.ntmps27
    go_wp2_with (go_at_call 21; refine (H1.out _).mono ?_; rintro e w1 ⟨rfl, k1⟩)
    go_ret
    exact ⟨by simp, (by repeat (first | exact Kept.refl _ | assumption | refine Kept.alloc ?_ _ | refine Kept.drew ?_ | refine Kept.drewN ?_ _ | refine Kept.setCell ?_ (by simp; try omega) _ | refine Kept.trans ?_ (by assumption)))⟩

theorem rhas_any (L : List Int) (y : Int) (vl : Value) (w : World) (hL : Ints w vl L) :
    Calls Try.prog 28 #[vl, .int .i64 y] w fun e w' => e = .returned (.bool (L.contains y)) ∧ Kept w w' := by
  obtain ⟨A, c, rfl⟩ := hL.shape
  obtain ⟨-, h1, h2⟩ := hL.len
  obtain ⟨n, hn⟩ : ∃ n, L.length = n := ⟨_, rfl⟩
  rw [hn] at hL h1 ⊢
  have hn63 : (n : Int) ≤ 9223372036854775807 := by omega
  have HL := hid hL; have HN := hid hn
  clear hL hn h1 h2
  go_enter Try.func28, Try.ntmps28
  go_wp2
  go_loopw [5] (fun i wr => ∃ k : Nat, k ≤ n ∧ i = .int .i64 k ∧ (∀ j, j < k → L.getD j 0 ≠ y) ∧ Kept w wr) (fun i _ => n - (intOf i).toNat)
  case atStart => exact ⟨0, by omega, rfl, fun j hj => by omega, Kept.refl _⟩
  case round =>
    obtain ⟨k, hkn, rfl, hne, hkr⟩ := hrel
    have HA := hid hne; clear hne
    by_cases hlt : k < n
    · obtain ⟨b, o, rfl, hc⟩ := HL.out.cells (by omega)
      have ck := hkr.keeps (hc k hlt)
      clear hc
      obtain ⟨x, hx⟩ : ∃ x, L.getD k 0 = x := ⟨_, rfl⟩
      rw [hx] at ck
      have HX := hid hx; clear hx
      by_cases hxy : x = y
      · subst hxy
        have hcn : L.contains x = true := by
          rw [List.contains_iff_mem, ← HX.out, List.getD_eq_getElem?_getD, List.getElem?_eq_getElem (by rw [HN.out]; exact hlt)]
          exact List.getElem_mem _
        have HCN := hid hcn; clear hcn
        go_wp2
        go_ret
        exact ⟨by rw [HCN.out]; rfl, hkr⟩
      · have hne : (x == y) = false := by simpa using hxy
        have HXY := hid hxy; clear hxy
        go_wp2
        go_roundw
        case rel => exact ⟨k + 1, by omega, by go_num, fun j hj => by
          by_cases e : j = k
          · subst e; rw [HX.out]; exact HXY.out
          · exact HA.out j (by omega), hkr⟩
        case measure => simp [intOf]; omega
    · obtain rfl : k = n := by omega
      have hcn : L.contains y = false := by
        cases h : L.contains y with
        | false => rfl
        | true =>
          rw [List.contains_iff_mem] at h
          obtain ⟨j, hj, he⟩ := List.getElem_of_mem h
          exact absurd (by rw [List.getD_eq_getElem?_getD, List.getElem?_eq_getElem hj]; exact he) (HA.out j (by rw [← HN.out]; exact hj))
      have HCN := hid hcn; clear hcn
      go_wp2
      go_ret
      exact ⟨by rw [HCN.out]; rfl, hkr⟩

/-- two rows of the call's own, apart -/
def Own2 (w : World) (base : Nat) (v1 v2 : Value) (L1 L2 : List Int) : Prop :=
  w.ownsRow base 3 1 v1 L1.length (L1.map (Value.int .i64)) ∧ w.ownsRow base 3 1 v2 L2.length (L2.map (Value.int .i64)) ∧ ∀ k, v1.ownBlock = some k → v2.ownBlock ≠ some k
theorem Own2.swap {w : World} {base : Nat} {v1 v2 : Value} {L1 L2 : List Int} (h : Own2 w base v1 v2 L1 L2) : Own2 w base v2 v1 L2 L1 := ⟨h.2.1, h.1, fun k e e' => h.2.2 k e' e⟩
theorem Kept.own2 {w w1 : World} {base : Nat} {v1 v2 : Value} {L1 L2 : List Int} (hk : Kept w w1) (h : Own2 w base v1 v2 L1 L2) : Own2 w1 base v1 v2 L1 L2 := ⟨hk.row h.1, hk.row h.2.1, h.2.2⟩
theorem wpList_push2 {ops : Array Oper} {rest : List Oper} {o : Oper} {a : Act} {Q : Exit → Act → World → Prop} {W w : World} (hgd : o.guard = none) (s x : Operand)
    (ho : o.op = .call { callee := .builtin .append, args := #[s, x], argTypes := #[24, 24] })
    (v1 v2 : Value) (L1 L2 : List Int) (u : Int) (c H : Nat) (hs : a.eval s = v1) (h2 : Own2 w W.heap.size v1 v2 L1 L2) (hx : a.eval x = .slice (some ⟨H, 0, none⟩) 1 c) (hH : w.heap.size = H) (hc : 1 ≤ c)
    (hn : (L1.length + 1) * 8 ≤ 140737488355328) (hk : Kept W w)
    (h : ∀ v' w', Own2 w' W.heap.size v' v2 (L1 ++ [u]) L2 → Kept W w' → wpList Try.prog ops Q rest (a.put o.dst v') w') :
    wpList Try.prog ops Q (o :: rest) a (w.alloc (.cells #[.int .i64 u] 3)) := by
  subst hH
  obtain ⟨i, hi, hz, hsize, hbytes⟩ := info_parts info_int
  obtain ⟨r1, r2, hap⟩ := h2
  refine wpList_append_own_at _ hgd s x 24 ho W.heap.size 3 i _ 1 8 Try.underlying24 hi hz hsize hbytes rfl (by omega) v1 _ _ hs (r1.alloc _) ⟨w.heap.size, 0, none⟩ 1 c [.int .i64 u] hx rfl (cell_one_new _ _ _) (by simp [Value.oneCell']) (by unfold maxLen; omega) hn (by have := hk.size; simp; omega) ?_
  intro v' w' hown hg _ hat
  have hlow : ∀ k, v1.ownBlock = some k → W.heap.size ≤ k := fun k hkk => (r1.lt k hkk).1
  refine h v' w' ⟨by rw [List.length_append]; simpa using hown, ?_, fun k e e' => ?_⟩ (Kept.grown (hk.alloc _) hg hlow)
  · refine (r2.alloc _).kept hg ?_
    rcases r2.2 with ⟨rfl, _⟩ | ⟨g, cap, cur, rfl, _⟩
    · exact .inl rfl
    · exact .inr fun e => hap g e.symm rfl
  · rcases hat with ha | ha
    · rw [ha] at e; exact hap k e e'
    · rw [ha] at e
      cases e
      have := (r2.lt _ e').2
      have hs := World.size_alloc w (.cells #[.int .i64 u] 3)
      omega

set_option maxRecDepth 100000 in
set_option maxHeartbeats 2000000 in
theorem rfree_yes (d l v s fr : Int) (vu vb : Value) (n : Nat) (f g : Nat → Int) (L : List Int) (w : World) (hU : Uses w vu n f g) (hL : Ints w vb L) (h : freeOk d l v s n fr = true) :
    Calls Try.prog 15 #[.agg #[.int .i64 d, .int .i64 l, .int .i64 v, .int .i64 s], vu, vb, .int .i64 fr] w (FreePost (onL f L fr (List.range (d - l).toNat) ++ beL f L fr (List.range (d - l).toNat)) w) := by
  simp only [freeOk, Bool.and_eq_true, decide_eq_true_eq] at h
  obtain ⟨⟨hm, hn⟩, hr0, hr1⟩ := h
  have hbd := segsF_bd d l v s
  have hn1 : (n : Int) ≤ 2304 := by omega
  have HC := hid (rfits_any d l v s vu n f g)
  rw [hm, decide_eq_true hn, Bool.and_self] at HC
  have HH := hid (fun y v w h => rhas_any L y v w h)
  obtain ⟨N, hN⟩ : ∃ N : Nat, d - l = (N : Int) := ⟨(d - l).toNat, by omega⟩
  have hNn : N ≤ n := by
    obtain ⟨b1, b2, b3, b4, b5, b6, b7, b8⟩ := mayB_of hm
    have hs : segsF d l v s = d + v * s := by simp [segsF, hm]
    have := (mul_bd v s b3 b4 b5 b6).1
    omega
  have hdb : 0 ≤ d ∧ d ≤ 100000 ∧ 0 ≤ l ∧ l ≤ 100000 := by
    obtain ⟨b1, b2, b3, b4, b5, b6, b7, b8⟩ := mayB_of hm
    omega
  rw [hN, Int.toNat_natCast]
  obtain ⟨hd0, hd1, hl0, hl1⟩ := hdb
  have HU := hid hU; have HLI := hid hL
  obtain ⟨A, c, rfl⟩ := hU.shape
  have hwrap : IntKind.i64.wrap (d - l) = (N : Int) := (IntWalk.i64_in (d - l) (by omega)).trans hN
  rw [hN] at hr1
  clear hU hL hm hn hN
  go_enter Try.func15, Try.ntmps15
  go_wp2_with (go_at_call 27; refine (HC.out _ (((Kept.refl w).alloc _).uses HU.out)).mono ?_; rintro e w1 ⟨rfl, k1⟩; have bk0 := k1.keeps (b := w.heap.size) (o := 0) (s := none) (v := .int .i64 d) (by simp [go_sem]); have bk1 := k1.keeps (b := w.heap.size) (o := 1) (s := none) (v := .int .i64 l) (by simp [go_sem]); have bk2 := k1.keeps (b := w.heap.size) (o := 2) (s := none) (v := .int .i64 v) (by simp [go_sem]); have bk3 := k1.keeps (b := w.heap.size) (o := 3) (s := none) (v := .int .i64 s) (by simp [go_sem]); have K1 := hid (((Kept.refl w).alloc _).trans k1); clear k1)
  obtain ⟨Wm, rfl⟩ : ∃ Wm : World, Wm = w1 := ⟨_, rfl⟩
  go_loopw [9, 10, 11] (fun v1 v2 t wr => ∃ k : Nat, k ≤ N ∧ t = .int .i64 k ∧ Own2 wr Wm.heap.size v1 v2 (onL f L fr (List.range k)) (beL f L fr (List.range k)) ∧ Kept Wm wr) (fun _ _ t _ => N - (intOf t).toNat)
  case atStart => exact ⟨0, by omega, rfl, ⟨World.ownsRow_nil _ _ _ _, World.ownsRow_nil _ _ _ _, by simp [Value.ownBlock]⟩, Kept.refl _⟩
  case round =>
    obtain ⟨k, hk, rfl, ho2, hkr⟩ := hrel
    have HO := hid ho2; have HK := hid hkr
    have ck0 := hkr.keeps bk0
    have ck1 := hkr.keeps bk1
    have hln1 := onL_len f L fr (List.range k)
    have hln2 := beL_len f L fr (List.range k)
    rw [List.length_range] at hln1 hln2
    clear ho2 hkr
    by_cases hlt : k < N
    · obtain ⟨b, o, rfl, hcl⟩ := HU.out.cells (by omega)
      have wc := HK.out.keeps (K1.out.keeps (hcl k (by omega)).1)
      have hr1k : List.range (k + 1) = List.range k ++ [k] := List.range_succ
      have HR := hid hr1k
      have hLk := (K1.out.trans HK.out).ints HLI.out
      have HLK := hid hLk
      clear hcl hr1k hLk
      by_cases hfk : f k = 0
      · rw [hfk] at wc
        cases hcon : L.contains (k : Int) with
        | true =>
          have HF1 := hid (show isFree f L k = false by unfold isFree; rw [hcon]; rfl)
          have HHK := HH.out (k : Int) vb
          rw [hcon] at HHK
          have HHK := hid HHK
          clear hfk hcon
          go_wp2_with (go_at_call 28; refine (HHK.out _ HLK.out).mono ?_; rintro e w2 ⟨rfl, k2⟩; have K2 := hid k2; clear k2)
          go_roundw
          case rel => exact ⟨k + 1, by omega, by go_num, by rw [HR.out, onL_no (by rw [HF1.out]; simp), beL_no (by rw [HF1.out]; simp)]; exact K2.out.own2 HO.out, HK.out.trans K2.out⟩
          case measure => simp [intOf]; omega
        | false =>
          have HF1 := hid (show isFree f L k = true by unfold isFree; rw [hcon, hfk]; rfl)
          have HHK := HH.out (k : Int) vb
          rw [hcon] at HHK
          have HHK := hid HHK
          clear hfk hcon
          by_cases hlo : (k : Int) < fr
          · have E1 := hid (show onL f L fr (List.range k ++ [k]) = onL f L fr (List.range k) from onL_no (fun h => by omega))
            have E2 := hid (show beL f L fr (List.range k ++ [k]) = beL f L fr (List.range k) ++ [(k : Int)] from beL_yes ⟨HF1.out, hlo⟩)
            go_wp2_with (first
              | (go_at_call 28; refine (HHK.out _ HLK.out).mono ?_; rintro e w2 ⟨rfl, k2⟩; have K2 := hid (HK.out.trans k2); have O2 := hid (k2.own2 HO.out); clear k2)
              | (at_builtin; refine wpList_push2 (W := Wm) rfl _ _ rfl u10 u9 _ _ (k : Int) _ _ rfl O2.out.swap rfl rfl (by omega) (by omega) K2.out ?_; intro v' w3 ho3 hk3; have O3 := hid ho3; have K3 := hid hk3; clear ho3 hk3))
            go_roundw
            case rel => exact ⟨k + 1, by omega, by go_num, by rw [HR.out, E1.out, E2.out]; exact O3.out.swap, K3.out⟩
            case measure => simp [intOf]; omega
          · have E1 := hid (show onL f L fr (List.range k ++ [k]) = onL f L fr (List.range k) ++ [(k : Int)] from onL_yes ⟨HF1.out, by omega⟩)
            have E2 := hid (show beL f L fr (List.range k ++ [k]) = beL f L fr (List.range k) from beL_no (fun h => by omega))
            have hlo' : fr ≤ (k : Int) := by omega
            clear hlo
            go_wp2_with (first
              | (go_at_call 28; refine (HHK.out _ HLK.out).mono ?_; rintro e w2 ⟨rfl, k2⟩; have K2 := hid (HK.out.trans k2); have O2 := hid (k2.own2 HO.out); clear k2)
              | (at_builtin; refine wpList_push2 (W := Wm) rfl _ _ rfl u9 u10 _ _ (k : Int) _ _ rfl O2.out rfl rfl (by omega) (by omega) K2.out ?_; intro v' w3 ho3 hk3; have O3 := hid ho3; have K3 := hid hk3; clear ho3 hk3))
            go_roundw
            case rel => exact ⟨k + 1, by omega, by go_num, by rw [HR.out, E1.out, E2.out]; exact O3.out, K3.out⟩
            case measure => simp [intOf]; omega
      · have HF1 := hid (show isFree f L k = false by unfold isFree; rw [decide_eq_false hfk, Bool.and_false])
        have hne : (f k != 0) = true := by simpa using hfk
        clear hfk
        generalize f k = x at wc hne
        go_wp2
        go_roundw
        case rel => exact ⟨k + 1, by omega, by go_num, by rw [HR.out, onL_no (by rw [HF1.out]; simp), beL_no (by rw [HF1.out]; simp)]; exact HO.out, HK.out⟩
        case measure => simp [intOf]; omega
    · obtain rfl : k = N := by omega
      go_wp2_with (at_builtin; refine wpList_append_ints (W := Wm) rfl _ _ rfl _ _ _ _ _ rfl HO.out.1 rfl (ints_own HO.out.2.1).1 (by omega) HK.out ?_; intro v' w3 ho3 hk3 _; have O3 := hid ho3; have K3 := hid hk3; clear ho3 hk3)
      go_ret
      exact ⟨_, rfl, (ints_own O3.out).1, K1.out.trans K3.out⟩
end Go.Proofs.Ytnpkoncflplpiaa
