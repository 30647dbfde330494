/- Records: Unpack, Clear. -/
import Derived.Test.YtiiogglflpladaaDoorNE
namespace Go.Proofs.YtiiogglflpladaaDoor
set_option linter.unusedSimpArgs false
set_option linter.unusedVariables false
open Go.RowKit

def valF (l : List UInt8) : Nat := l.foldl (fun a c => a * 256 + c.toNat) 0
theorem valF_snoc (l : List UInt8) (c : UInt8) : valF (l ++ [c]) = valF l * 256 + c.toNat := by simp [valF, List.foldl_append]
theorem valF_lt (l : List UInt8) : valF l < 256 ^ l.length := by
  have : ∀ r : List UInt8, valF r.reverse < 256 ^ r.length := by
    intro r
    induction r with
    | nil => decide
    | cons c r ih =>
      rw [List.reverse_cons, valF_snoc, List.length_cons, Nat.pow_succ]
      have := c.toNat_lt
      omega
  have h := this l.reverse
  rwa [List.reverse_reverse, List.length_reverse] at h
def sumN (W : List Nat) : Nat := W.foldl (· + ·) 0
theorem sumN_snoc (W : List Nat) (x : Nat) : sumN (W ++ [x]) = sumN W + x := by simp [sumN, List.foldl_append]
def unpN (W : List Nat) (B : List UInt8) (k : Nat) : Nat := valF ((B.drop (sumN (W.take k))).take (W.getD k 0))
def unpL (W : List Nat) (B : List UInt8) : List Nat := (List.range W.length).map (unpN W B)
def ucells (L : List Nat) : List Value := L.map fun (x : Nat) => .int .u64 (x : Int)
/-- a slice of uint64 that is read -/
def U64s (w : World) (v : Value) (L : List Nat) : Prop :=
  ∃ A c, v = .slice A L.length c ∧ L.length ≤ c ∧ c ≤ 9223372036854775807 ∧ (0 < L.length → ∃ b o, A = some ⟨b, o, none⟩ ∧ ∀ i, i < L.length → w.cell? ⟨b, o + i, none⟩ = some (.int .u64 ((L.getD i 0 : Nat) : Int)))
theorem u64_own {w : World} {base : Nat} {e : TypeId} {v : Value} {n : Nat} {l : List Nat} (h : w.ownsRow base e 1 v n (ucells l)) : U64s w v l := by
  have hl : l.length = n := by have := h.1; simpa [ucells] using this
  rcases h.2 with ⟨rfl, hn⟩ | ⟨g, cap, cur, rfl, hb, hg, hnc, hm, hs, hx⟩
  · exact ⟨none, 0, by rw [hl, hn], by omega, by omega, by omega⟩
  · refine ⟨_, cap, by rw [hl], by omega, by unfold maxLen at hm; omega, fun _ => ⟨g, 0, rfl, fun j hj => ?_⟩⟩
    rw [Nat.zero_add, h.cellAt (g := g) (cap := cap) j (by omega)]
    simp [ucells, List.getElem?_eq_getElem hj, List.getD_eq_getElem?_getD]
theorem Kept.u64s {w w1 : World} {v : Value} {L : List Nat} (k : Kept w w1) (h : U64s w v L) : U64s w1 v L := by
  obtain ⟨A, c, hv, h1, h2, h3⟩ := h
  refine ⟨A, c, hv, h1, h2, fun h0 => ?_⟩
  obtain ⟨b, o, hA, hc⟩ := h3 h0
  exact ⟨b, o, hA, fun i hi => k.keeps (hc i hi)⟩
theorem info_u64 : (Tryd.prog.info? 54).map (fun i => (i.zero, i.size, i.bytes)) = some (some (.int .u64 0), 1, 8) := by kernel_rfl
theorem make_cap64 (N : Nat) (hN : N ≤ 100000) (w : World) : ∃ cur, cur.size = N ∧ (Instr.makeSlice 66 (.int .i64 0) (.int .i64 (N : Int))).run Tryd.prog w =
    .ok (.slice (some ⟨w.heap.size, 0, none⟩) 0 N) (w.alloc (.cells cur 54)) := by
  obtain ⟨i, hi, hz, hsize, hbytes⟩ := info_parts info_u64
  have := run_makeSlice (P := Tryd.prog) w 66 54 i _ Tryd.underlying66 hi hz .i64 .i64 0 (N : Int) (by omega) (by omega) (by rw [hsize]; simp; omega) (by rw [hbytes]; omega) (by omega)
  refine ⟨madeCells (Value.int .u64 0).cells (N * 1), by rw [size_madeCells]; omega, ?_⟩
  rw [this, hsize]
  simp
theorem wraps_u64 (n : Int) (h₀ : 0 ≤ n) (h₁ : n < 18446744073709551616) : IntKind.u64.wrap n = n := by
  simp [IntKind.wrap, IntKind.bits, IntKind.signed]; omega
theorem or_shift (x c : Nat) (hx : x < 16777216) (hc : c < 256) : bits .or .u64 ((x : Int) * 256) (c : Int) = ((x * 256 + c : Nat) : Int) := by
  have := bits_join .u64 64 (by decide) (fun n h0 h1 => wraps_u64 n h0 (by omega)) 8 ((x : Int) * 256) (c : Int) (by omega) (by omega) (by omega) (by omega) (by omega) (by omega)
  rw [this]; omega
theorem sumN_le (W : List Nat) (k : Nat) : sumN (W.take k) ≤ sumN W := by
  have h : ∀ (W : List Nat) (a : Nat), W.foldl (· + ·) a = a + sumN W := by
    intro W
    induction W with
    | nil => intro a; rfl
    | cons x r ih => intro a; have h1 := ih (a + x); have h2 := ih (0 + x); have h3 : sumN (x :: r) = r.foldl (· + ·) (0 + x) := rfl; rw [List.foldl_cons, h1, h3, h2]; omega
  have e : sumN W = sumN (W.take k) + sumN (W.drop k) := by
    rw [← h, sumN, sumN, ← List.foldl_append, List.take_append_drop]
  omega
set_option maxRecDepth 100000 in
set_option maxHeartbeats 4000000 in
theorem unpack_own (vb vw : Value) (B : List UInt8) (W : List Nat) (w : World) (hB : Byts w vb B) (hW : Ints w vw (W.map (fun (x : Nat) => (x : Int)))) (hok : ∀ x ∈ W, x = 1 ∨ x = 4) (hn1 : W.length ≤ 100) (hlen : sumN W ≤ B.length) (hs : sumN W ≤ 1000) :
    Calls Tryd.prog 27 #[vb, vw] w fun e w' => ∃ v, e = .returned (.tuple #[v, .int .i64 0]) ∧ w'.ownsRow w.heap.size 54 1 v W.length (ucells (unpL W B)) ∧ Kept w w' := by
  obtain ⟨A, c, rfl⟩ := hB.shape
  obtain ⟨-, hc1, hc2, -, -⟩ := hB.open_
  obtain ⟨Aw, cw, rfl⟩ := hW.shape
  obtain ⟨-, hw1, hw2⟩ := hW.len
  have HB := hid hB; have HW := hid hW; have HOK := hid hok
  rw [List.length_map] at HW hw1 ⊢
  obtain ⟨n, hn⟩ : ∃ n, W.length = n := ⟨_, rfl⟩
  obtain ⟨m, hm⟩ : ∃ m, B.length = m := ⟨_, rfl⟩
  rw [hn] at HW hw1 hn1 ⊢
  rw [hm] at HB hc1 hlen ⊢
  have HN := hid hn; have HM := hid hm
  have HIW := hid isw_any
  have HSL := hid (sumN_le W)
  have HTK := hid (fun (k : Nat) (h : k < n) => (by rw [List.take_add_one, List.getElem?_eq_getElem (show k < W.length by rw [hn]; exact h), List.getD_eq_getElem?_getD, List.getElem?_eq_getElem (show k < W.length by rw [hn]; exact h)]; rfl : W.take (k + 1) = W.take k ++ [W.getD k 0]))
  have HWX := hid (fun (k : Nat) (h : k < n) => (by rw [List.getD_eq_getElem?_getD, List.getElem?_eq_getElem (show k < W.length by rw [hn]; exact h)]; exact hok _ (List.getElem_mem _) : W.getD k 0 = 1 ∨ W.getD k 0 = 4))
  have HWC := hid (fun (k : Nat) => (by rw [List.getD_eq_getElem?_getD, List.getElem?_map, List.getD_eq_getElem?_getD]; cases W[k]? <;> rfl : (W.map (fun (x : Nat) => (x : Int))).getD k 0 = ((W.getD k 0 : Nat) : Int)))
  clear hn hm hB hW hok
  go_enter Tryd.func27, Tryd.ntmps27
  go_wp2
  go_loopw [17, 6] (fun t ts wr => ∃ i : Nat, i ≤ n ∧ t = .int .i64 i ∧ ts = .int .i64 (sumN (W.take i) : Nat) ∧ w = wr) (fun t _ _ => n - (intOf t).toNat)
  case atStart => exact ⟨0, by omega, rfl, rfl, rfl⟩
  case round =>
    obtain ⟨i, hi, rfl, rfl, rfl⟩ := hrel
    by_cases hlt : i < n
    · obtain ⟨b, o, rfl, hc⟩ := HW.out.cells (by omega)
      have m0 := hc i hlt
      rw [HWC.out] at m0
      have HSN := hid (show sumN (W.take (i + 1)) = sumN (W.take i) + W.getD i 0 by rw [HTK.out i hlt, sumN_snoc])
      have hx := HWX.out i hlt
      have hle := HSL.out i
      clear hc
      generalize W.getD i 0 = x at *
      generalize sumN (W.take i) = sm at *
      have q0 : (0 : Int) ≤ (i : Int) := by omega
      have q1 : (i : Int) < (n : Int) := by omega
      go_wp2_with (go_at_call 42; (with_reducible refine (HIW.out (x : Int) (by omega) (by omega) _).mono ?_); rintro e w2 ⟨rfl, rfl⟩)
      go_roundw
      case rel => exact ⟨i + 1, by omega, by go_num, by rw [HSN.out]; go_num, by first | rfl | trivial⟩
      case measure => simp [intOf]; omega
    · have hie : i = n := by omega
      have hall : W.take i = W := List.take_of_length_le (by rw [HN.out]; omega)
      rw [hall]
      have hlt2 : ¬ (i : Int) < (n : Int) := by omega
      obtain ⟨cur, hcs, hmk⟩ := make_cap64 n (by omega) w
      have HCS := hid hcs
      clear hcs hall
      have hml : ¬ (m : Int) < (sumN W : Nat) := by omega
      go_wp2
      have HRO := hid (World.ownsRow_made (base := w.heap.size) (e := 54) (size := 1) w cur n (Nat.le_refl _) (by unfold maxLen; omega) (by rw [HCS.out]; omega))
      have HKA := hid ((Kept.refl w).alloc (.cells cur 54))
      clear hmk HCS
      generalize (w.alloc (.cells cur 54)) = wa at *
      go_loopw [37, 10, 9] (fun t ta tv wq => ∃ (k : Nat) (v' : Value), k ≤ n ∧ t = .int .i64 k ∧ ta = .int .i64 (sumN (W.take k) : Nat) ∧ tv = v' ∧ wq.ownsRow w.heap.size 54 1 v' k (ucells ((List.range k).map (unpN W B))) ∧ Kept w wq) (fun t _ _ _ => n - (intOf t).toNat)
      case atStart => exact ⟨0, _, by omega, rfl, rfl, rfl, HRO.out, HKA.out⟩
      case round =>
        obtain ⟨k, v', hk, rfl, rfl, rfl, hro, hkq⟩ := hrel
        rename World => wq
        have HRQ := hid hro; have HKQ := hid hkq
        by_cases hlk : k < n
        · obtain ⟨b, o, rfl, hc⟩ := (hkq.ints HW.out).cells (by omega)
          have m0 := hc k hlk
          rw [HWC.out] at m0
          have HSN := hid (show sumN (W.take (k + 1)) = sumN (W.take k) + W.getD k 0 by rw [HTK.out k hlk, sumN_snoc])
          have hle1 := HSL.out (k + 1)
          have hx := HWX.out k hlk
          obtain ⟨un, hun⟩ : ∃ un, un = unpN W B k := ⟨_, rfl⟩
          have HUN := hid (show un = valF ((B.drop (sumN (W.take k))).take (W.getD k 0)) from hun)
          have HRS := hid (show ucells ((List.range (k + 1)).map (unpN W B)) = ucells ((List.range k).map (unpN W B)) ++ [.int .u64 (un : Int)] by rw [hun]; simp [ucells, List.range_succ])
          clear hun
          rw [HSN.out] at hle1
          clear hc hro hkq HRO HKA
          generalize W.getD k 0 = x at *
          generalize sumN (W.take k) = at0 at *
          have q0 : (0 : Int) ≤ (k : Int) := by omega
          have q1 : (k : Int) < (n : Int) := by omega
          go_wp2
          go_loopw [42, 13] (fun t tv wx => ∃ i : Nat, i ≤ x ∧ t = .int .i64 i ∧ tv = .int .u64 (valF ((B.drop at0).take i) : Nat) ∧ wq = wx) (fun t _ _ => x - (intOf t).toNat)
          case atStart => exact ⟨0, by omega, rfl, rfl, rfl⟩
          case round =>
            obtain ⟨i, hi2, rfl, rfl, rfl⟩ := hrel
            by_cases hli : i < x
            · obtain ⟨bb, bo, rfl, hbc⟩ := (HKQ.out.byts HB.out).cell (at0 + i) (by omega)
              have HVN := hid (show valF ((B.drop at0).take (i + 1)) = valF ((B.drop at0).take i) * 256 + (B.getD (at0 + i) 0).toNat from by
                have hd : i < (B.drop at0).length := by rw [List.length_drop, HM.out]; omega
                have hg : (B.drop at0).getD i 0 = B.getD (at0 + i) 0 := by rw [List.getD_eq_getElem?_getD, List.getElem?_drop, ← List.getD_eq_getElem?_getD]
                rw [take_snocU _ i hd, valF_snoc, hg])
              have hv := valF_lt ((B.drop at0).take i)
              have hv2 : valF ((B.drop at0).take i) < 16777216 := by
                refine Nat.lt_of_lt_of_le hv ?_
                have : ((B.drop at0).take i).length ≤ 3 := by rw [List.length_take]; omega
                exact Nat.pow_le_pow_right (by decide) this
              have hcb := (B.getD (at0 + i) 0).toNat_lt
              clear hv
              generalize valF ((B.drop at0).take i) = y at *
              generalize (B.getD (at0 + i) 0).toNat = z at *
              have hor := or_shift y z hv2 hcb
              have hs1 := wraps_u64 ((y : Int) * 256) (by omega) (by omega)
              have hs2 : ((y : Int) * 256) % 18446744073709551616 = (y : Int) * 256 := by omega
              have hz1 := wraps_u64 (z : Int) (by omega) (by omega)
              have hz2 : (z : Int) % 18446744073709551616 = (z : Int) := by omega
              have hidx : IntKind.i64.wrap ((at0 : Int) + (i : Int)) = ((at0 + i : Nat) : Int) := by rw [IntKind.wrap_i64]; omega
              have r0 : (0 : Int) ≤ (i : Int) := by omega
              have r1 : (i : Int) < (x : Int) := by omega
              have r2 : ((at0 + i : Nat) : Int) < (m : Int) := by omega
              go_wp2
              go_roundw
              case rel => exact ⟨i + 1, by omega, by go_num, by rw [HVN.out]; push_cast; rfl, by first | rfl | trivial⟩
              case measure => simp [intOf]; omega
            · obtain rfl : i = x := by omega
              have r1 : ¬ (i : Int) < (i : Int) := by omega
              rw [← HUN.out]
              generalize ucells ((List.range k).map (unpN W B)) = cs0 at *
              go_wp2_with (at_builtin; (refine wpList_push (W := w) rfl (.tmp 59) (.tmp 61) 66 rfl 54 (.int .u64 0) 1 8 Tryd.underlying66 info_u64 rfl (by decide) (by decide) _ _ cs0 [.int .u64 (un : Int)] 1 rfl HRQ.out (by simp [go_sem]) rfl (by simp [Value.oneCell']) (by omega) HKQ.out ?_); intro v3 w3 hown3 hk3)
              go_roundw
              case rel => exact ⟨k + 1, _, by omega, by go_num, by rw [HSN.out]; go_num, rfl, by rw [HRS.out]; exact hown3, hk3⟩
              case measure => simp [intOf]; omega
        · have hke : k = n := by omega
          have hlk2 : ¬ (k : Int) < (n : Int) := by omega
          go_wp2
          go_ret2
          refine ⟨_, rfl, ?_, HKQ.out⟩
          have := HRQ.out
          rw [hke] at this
          rw [unpL, HN.out]
          exact this
theorem unpack_any (vb vw : Value) (B : List UInt8) (W : List Nat) (w : World) (hB : Byts w vb B) (hW : Ints w vw (W.map (fun (x : Nat) => (x : Int)))) (hok : ∀ x ∈ W, x = 1 ∨ x = 4) (hn1 : W.length ≤ 100) (hlen : sumN W ≤ B.length) (hs : sumN W ≤ 1000) :
    Calls Tryd.prog 27 #[vb, vw] w fun e w' => ∃ v, e = .returned (.tuple #[v, .int .i64 0]) ∧ U64s w' v (unpL W B) ∧ Kept w w' := by
  refine (unpack_own vb vw B W w hB hW hok hn1 hlen hs).mono ?_
  rintro e w' ⟨v, he, hr, hk⟩
  exact ⟨v, he, u64_own hr, hk⟩
end Go.Proofs.YtiiogglflpladaaDoor
