/- HaymowNames: entry.num, Encode. -/
import Derived.Test.YtiiogglflpladaaDoorMK
import Derived.Deep.RegionHeld3
import Derived.Deep.RegionLaw
import Derived.Deep.DeepCutAuto
namespace Go.Proofs.YtiiogglflpladaaDoor
set_option linter.unusedSimpArgs false
set_option linter.unusedVariables false
open Go.RowKit

theorem enum_any (V : Nat) (h2 : V < 4294967296) (w : World) : Calls Tryd.prog 21 #[.int .i64 (V : Int)] w fun e w' => e = .returned (.agg #[.int .i64 1, .int .u64 (V : Int)]) ∧ Kept w w' := by
  have hz1 := wraps_u64 (V : Int) (by omega) (by omega)
  have hz2 : (V : Int) % 18446744073709551616 = (V : Int) := by omega
  go_enter Tryd.func21, Tryd.ntmps21
  go_wp2
  refine bodyPost_ret (v := .agg #[.int .i64 1, .int .u64 (V : Int)]) (by simp [results, Tryd.results21, go_sem]) rfl ⟨rfl, (by repeat (first | exact Kept.refl _ | assumption | refine Kept.alloc ?_ _ | refine Kept.drew ?_ | refine Kept.drewN ?_ _ | refine Kept.setCell ?_ (by simp; try omega) _ | refine Kept.trans ?_ (by assumption)))⟩
theorem nums3 (w : World) (a b c : Nat) : Nums (w.alloc (.cells #[.int .i64 1, .int .u64 (a : Int), .int .i64 1, .int .u64 (b : Int), .int .i64 1, .int .u64 (c : Int)] 56)) (.slice (some ⟨w.heap.size, 0, none⟩) 3 3) [(1, a), (1, b), (1, c)] := by
  have h := cb_new w 56 [.int .i64 1, .int .u64 (a : Int), .int .i64 1, .int .u64 (b : Int), .int .i64 1, .int .u64 (c : Int)]
  refine ⟨_, 3, rfl, by simp, by omega, fun _ => ⟨_, 0, rfl, fun i p hp => ?_⟩⟩
  have hi : i < 3 := by have := (List.getElem?_eq_some_iff.1 hp).1; simpa using this
  match i, hi, hp with
  | 0, _, hp => simp at hp; subst hp; exact ⟨h.cell 0 (by simp), h.cell 1 (by simp)⟩
  | 1, _, hp => simp at hp; subst hp; exact ⟨h.cell 2 (by simp), h.cell 3 (by simp)⟩
  | 2, _, hp => simp at hp; subst hp; exact ⟨h.cell 4 (by simp), h.cell 5 (by simp)⟩
theorem nums3b (w : World) (a c : Nat) : Nums (w.alloc (.cells #[.int .i64 1, .int .u64 (a : Int), .int .i64 1, .int .u64 1, .int .i64 1, .int .u64 (c : Int)] 56)) (.slice (some ⟨w.heap.size, 0, none⟩) 3 3) [(1, a), (1, 1), (1, c)] := nums3 w a 1 c
theorem enum_one (w : World) : Calls Tryd.prog 21 #[.int .i64 1] w fun e w' => e = .returned (.agg #[.int .i64 1, .int .u64 1]) ∧ Kept w w' := enum_any 1 (by omega) w
theorem pack3 (a b c : Nat) (ha : a < 256) (hb : b < 256) (hc : c < 256) : packL [(1, a), (1, b), (1, c)] = [UInt8.ofNat a, UInt8.ofNat b, UInt8.ofNat c] := by
  simp [packL, beW1 a ha, beW1 b hb, beW1 c hc]
/-- a block of another type stands where a row of the call's own grows -/
theorem CB.grow2 {w w' : World} {base : Nat} {e : TypeId} {size n : Nat} {v : Value} {xs : List Value} {g : Nat} {t : TypeId} {cs : List Value} (hc : CB w g t cs) (hr : w.ownsRow base e size v n xs) (hne : e ≠ t) (hg : w.grownBy w' v.ownBlock) : CB w' g t cs :=
  hc.of_heap (hg.block g hc.lt (row_ne hr hc hne))
/-- 'append(s, b...)', s the call's own, b a slice of octets that is read -/
theorem wpList_append_byts {ops : Array Oper} {rest : List Oper} {o : Oper} {a : Act} {Q : Exit → Act → World → Prop} {W w : World} (hgd : o.guard = none) (s x : Operand)
    (ho : o.op = .call { callee := .builtin .append, args := #[s, x], argTypes := #[33, 33] })
    (v : Value) (n : Nat) (xs L : List UInt8) (vx : Value) (hs : a.eval s = v) (hown : w.ownsRow W.heap.size 5 1 v n (bcells xs)) (hx : a.eval x = vx)
    (hL : Byts w vx L) (hn : n + L.length ≤ 140737488355328) (hk : Kept W w)
    (h : ∀ v' w', w'.ownsRow W.heap.size 5 1 v' (n + L.length) (bcells (xs ++ L)) → Kept W w' → w.grownBy w' v.ownBlock → wpList Tryd.prog ops Q rest (a.put o.dst v') w') :
    wpList Tryd.prog ops Q (o :: rest) a w := by
  obtain ⟨i, hi, hz, hsize, hbytes⟩ := info_parts info_u8
  obtain ⟨A, c, rfl⟩ := hL.shape
  obtain ⟨-, hc1, hc2, hc3, hc4⟩ := hL.open_
  have h63 : n + L.length ≤ maxLen := by unfold maxLen; omega
  have hrow : ∀ k, v.ownBlock = some k → W.heap.size ≤ k := fun k hkk => (hown.lt k hkk).1
  have key : ∀ ad : Addr, a.eval x = .slice (some ad) L.length c → (∀ j u, (bcells L)[j]? = some u → w.cell? (ad.add j) = some u) → wpList Tryd.prog ops Q (o :: rest) a w := by
    intro ad hx' hnews
    refine wpList_append_own _ hgd s x 33 ho W.heap.size 5 i _ 1 1 Tryd.underlying33 hi hz hsize hbytes rfl (by omega) v n _ hs hown ad L.length c (bcells L) hx' (by rw [bcells_len]; omega) hnews (bcells_one L) h63 (by omega) hk.size ?_
    intro v' w' h2 h3 h4
    refine h v' w' (by rw [bcells_app]; exact h2) (hk.grown h3 hrow) h3
  rcases A with _ | ad
  · have hc0 := hc3 rfl
    have hl0 : L = [] := List.eq_nil_of_length_eq_zero (by omega)
    subst hl0
    refine wpList_append_own_none hgd s x 33 ho W.heap.size 5 i 1 Tryd.underlying33 hi v n _ hs hown (by simpa [hc0] using hx) ?_
    have := h v w (by simpa using hown) hk ⟨rfl, rfl, rfl, Nat.le_refl _, fun _ _ _ => rfl⟩
    simpa using this
  · refine key ad hx fun j u hu => ?_
    have hj : j < L.length := by
      have := (List.getElem?_eq_some_iff.1 hu).1; rwa [bcells_len] at this
    obtain ⟨b, o', hA, hr⟩ := hc4 (by omega)
    cases hA
    have : (⟨b, o', none⟩ : Addr).add j = ⟨b, o' + j, none⟩ := by unfold Addr.add; split <;> simp_all
    rw [this, hr j u hu]
set_option maxHeartbeats 8000000 in
set_option maxRecDepth 100000 in
theorem encode_any (v : Value) (L : List En) (w : World) (h : Ents w v L) (hv : ValidE L) :
    Calls Tryd.prog 6 #[v] w fun e w' => ∃ vb, e = .returned (.tuple #[vb, .int .i64 0]) ∧ Byts w' vb (encL L) ∧ Kept w w' := by
  have M1 := hid (fun w' (k : Kept w w') => may_yes v L w' (k.ents h) hv)
  have HV := hid hv
  obtain ⟨i0, hi, hz0, hz1, hz2⟩ := info_parts info_u8
  have I0 := hid (⟨hi, hz0, hz1, hz2⟩ : _ ∧ _ ∧ _ ∧ _)
  clear hi hz0 hz1 hz2
  obtain ⟨A, c, rfl⟩ := h.shape
  obtain ⟨n, hn⟩ : ∃ n, L.length = n := ⟨_, rfl⟩
  rw [hn] at h M1 ⊢
  have HE := hid h
  have HN := hid hn
  have h30 : n ≤ 30 := by rw [← hn]; exact hv.len
  have hc1 := h.open_.2.1
  have hc2 := h.open_.2.2.1
  clear h hv hn
  go_enter Tryd.func6, Tryd.ntmps6
  go_wp2_with (go_at_call 19; (with_reducible refine (M1.out _ ?_).mono ?_); exact (by repeat (first | exact Kept.refl _ | assumption | refine Kept.alloc ?_ _ | refine Kept.drew ?_ | refine Kept.drewN ?_ _ | refine Kept.setCell ?_ (by simp; try omega) _ | refine Kept.trans ?_ (by assumption))); rintro e w1 ⟨rfl, k1⟩)
  have HK1 := hid k1
  clear k1 M1
  go_loopw [14, 4] (fun t tv wr => ∃ (k : Nat) (v' : Value), k ≤ n ∧ t = .int .i64 k ∧ tv = v' ∧ wr.ownsRow w.heap.size 5 1 v' (encL (L.take k)).length (bcells (encL (L.take k))) ∧ Kept w wr) (fun t _ _ => n - (intOf t).toNat)
  case atStart => exact ⟨0, _, by omega, rfl, rfl, World.ownsRow_nil _ _ _ _, HK1.out⟩
  case round =>
    obtain ⟨k, v', hk, rfl, rfl, hro, hkr⟩ := hrel
    have HK := hid hkr; have HR := hid hro
    clear hkr hro HK1
    by_cases hlt : k < n
    · obtain ⟨b, o, e, rfl, he, hc⟩ := HE.out.at_ k hlt
      have hb := HV.out.all e (List.mem_of_getElem? he)
      have hc := HK.out.enAt hc
      obtain ⟨c1, c2, c3⟩ := hc
      have hk0 : (0 : Int) ≤ (k : Int) := by omega
      have hk1 : (k : Int) < (n : Int) := by omega
      have hsn : encL (L.take (k + 1)) = encL (L.take k) ++ enc1 e := by rw [snoc_at L k e he, encL_snoc]
      have hl1 := (nameB_len hb.1).2
      have htl : (encL (L.take k)).length ≤ 27 * 30 := by
        have := encL_le (L.take k) (fun x hx => (HV.out.all x (List.mem_of_mem_take hx)).1)
        rw [List.length_take, HN.out] at this
        omega
      obtain ⟨p, hp⟩ : ∃ p : Nat, e.ino = (p : Int) := ⟨e.ino.toNat, by omega⟩
      have hp2 : p < 256 := by omega
      have hen : enc1 e = [UInt8.ofNat p, UInt8.ofNat 1, UInt8.ofNat e.name.length] ++ e.name := by rw [enc1, hp]; rfl
      obtain ⟨q, hq⟩ : ∃ q, e.name.length = q := ⟨_, rfl⟩
      have hsz : (bstr e.name).size = q := by rw [bstr_size, hq]
      have hq2 : q < 256 := by omega
      obtain ⟨s, hs⟩ : ∃ s, bstr e.name = s := ⟨_, rfl⟩
      rw [hs] at c1 hsz
      rw [hp] at c2
      rw [hq] at hen
      have HSN := hid hsn; have HEN := hid hen; have HS := hid hs
      have HP3 := hid (pack3 p 1 q hp2 (by omega) hq2)
      have HQ := hid hq
      have HTL := hid htl
      have N1 := hid (fun w => enum_any p (by omega) w)
      have N2 := hid enum_one
      have N3 := hid (fun w => enum_any q (by omega) w)
      have HPK := hid (fun (w : World) (vv : Value) (hN : Nums w vv [(1, p), (1, 1), (1, q)]) => pack_any vv [(1, p), (1, 1), (1, q)] w (by simp) (by intro x hx; simp at hx; rcases hx with rfl | rfl | rfl <;> (left; exact ⟨rfl, by dsimp only; omega⟩)) hN)
      clear hb he hc hsn hl1 htl hp hen hq hs
      go_upto_region 7 with (fail)
      generalize hW1 : wr.alloc (.cells #[.string s, .int .i64 (p : Int), .int .i64 1] 32) = W1
      have KW := hid (show Kept wr W1 by rw [← hW1]; exact (Kept.refl wr).alloc _)
      have CBX := hid (show CB W1 wr.heap.size 32 [.string s, .int .i64 (p : Int), .int .i64 1] by rw [← hW1]; exact cb_new wr 32 [.string s, .int .i64 (p : Int), .int .i64 1])
      have x0 := CBX.out.cell 0 (by simp); have x1 := CBX.out.cell 1 (by simp); have x2 := CBX.out.cell 2 (by simp)
      simp only [List.getElem_cons_zero, List.getElem_cons_succ] at x0 x1 x2
      generalize wr.heap.size = H at *
      have HSS := hid (fun (w' : World) (hk : Kept W1 w') => (⟨hk, hk.keeps x0, hk.keeps x1, hk.keeps x2⟩ : Kept W1 w' ∧ w'.cell? ⟨H, 0, none⟩ = some (.string s) ∧ w'.cell? ⟨H, 1, none⟩ = some (.int .i64 (p : Int)) ∧ w'.cell? ⟨H, 2, none⟩ = some (.int .i64 1)))
      clear x0 x1 x2 c1 c2 c3 hW1
      go_region_held3 (fun w' => Kept W1 w' ∧ w'.cell? ⟨H, 0, none⟩ = some (.string s) ∧ w'.cell? ⟨H, 1, none⟩ = some (.int .i64 (p : Int)) ∧ w'.cell? ⟨H, 2, none⟩ = some (.int .i64 1))
        (first | exact HSS.out _ (Kept.refl _) | (go_split_ands; exact HSS.out _ (by repeat (first | exact Kept.refl _ | assumption | refine Kept.alloc ?_ _ | refine Kept.drew ?_ | refine Kept.drewN ?_ _ | refine Kept.setCell ?_ (by simp; try omega) _ | refine Kept.trans ?_ (by assumption)))))
        (first
        | (go_at_call 21; (with_reducible refine (N1.out _).mono ?_); rintro e w2 ⟨rfl, k2⟩)
        | (go_at_call 21; (with_reducible refine (N2.out _).mono ?_); rintro e w3 ⟨rfl, k3⟩)
        | (go_at_call 21; (with_reducible refine (N3.out _).mono ?_); rintro e w4 ⟨rfl, k4⟩)
        | (go_at_call 20; (with_reducible refine (HPK.out _ _ (nums3b _ p q)).mono ?_); rintro e w5 ⟨vb, rfl, hvb, k5⟩; have HVB := hid hvb; clear hvb))
      rename_i hHeld
      obtain ⟨kh, -, -, -⟩ := hHeld
      have K5 := hid (KW.out.trans kh)
      have CB5 := hid (kh.cb CBX.out)
      have R5 := hid (K5.out.row HR.out)
      have KW5 := hid (HK.out.trans K5.out)
      have HB5 := hid (show Byts w5 vb [UInt8.ofNat p, UInt8.ofNat 1, UInt8.ofNat q] by rw [← HP3.out]; exact HVB.out)
      clear k2 k3 k4 k5 kh HSS CBX KW HVB HPK N1 N2 N3 HR HK
      go_wp2_with (first
        | (at_builtin; refine Lib.wpList_append_own_string _ rfl (.tmp 39) (.tmp 41) 33 9 rfl w.heap.size 5 _ Tryd.underlying33 Tryd.underlying9 I0.out.1 I0.out.2.1 I0.out.2.2.1 I0.out.2.2.2 _ _ _ rfl r6 s rfl ?_ ?_ k6.size ?_; (unfold maxLen; rw [hsz]; have := HTL.out; simp only [List.length_cons, List.length_nil]; omega); (rw [hsz]; have := HTL.out; simp only [List.length_cons, List.length_nil]; omega); intro v7 w7 r7 g7 _; have k7 := k6.grown g7 (fun k hk => (r6.lt k hk).1))
        | (at_builtin; refine wpList_append_byts (W := w) rfl (.tmp 36) (.tmp 37) rfl _ (encL (L.take k)).length (encL (L.take k)) [UInt8.ofNat p, UInt8.ofNat 1, UInt8.ofNat q] _ rfl R5.out rfl HB5.out (by have := HTL.out; simp; omega) KW5.out ?_; intro v6 w6 r6 k6 g6; have cb6 := (CB.grow2 CB5.out R5.out (by decide) g6).cell 0 (by simp); simp only [List.getElem_cons_zero] at cb6))
      have r8 : w7.ownsRow w.heap.size 5 1 v7 (encL (L.take (k + 1))).length (bcells (encL (L.take (k + 1)))) := by
        rw [HSN.out, HEN.out, ← List.append_assoc, bcells_app, List.length_append, List.length_append]
        have e1 : Lib.strCells s = bcells e.name := by rw [← HS.out]; rfl
        rw [e1, hsz] at r7
        rw [HQ.out]
        exact r7
      go_roundw
      case rel => exact ⟨k + 1, _, by omega, by go_num, rfl, r8, k7⟩
      case measure => simp [intOf]; omega
    · obtain rfl : k = n := by omega
      go_wp2
      go_ret2
      have e1 : L.take k = L := List.take_of_length_le (by rw [HN.out]; omega)
      have := byts_own HR.out
      rw [e1] at this
      exact ⟨_, rfl, this, HK.out⟩
end Go.Proofs.YtiiogglflpladaaDoor
