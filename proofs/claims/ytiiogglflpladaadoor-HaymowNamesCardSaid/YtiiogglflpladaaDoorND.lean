/- Checksums: Seal, Held. -/
import Derived.Test.YtiiogglflpladaaDoorNC
import Derived.BigQuiet
namespace Go.Proofs.YtiiogglflpladaaDoor
set_option linter.unusedSimpArgs false
set_option linter.unusedVariables false
open Go.RowKit

def le4 (s : Int) : List UInt8 := [UInt8.ofNat (s % 256).toNat, UInt8.ofNat (s / 256 % 256).toNat, UInt8.ofNat (s / 65536 % 256).toNat, UInt8.ofNat (s / 16777216 % 256).toNat]
def bodyL (l : List UInt8) : List UInt8 := l ++ List.replicate (124 - l.length) 0
def sealL (l : List UInt8) : List UInt8 := bodyL l ++ le4 (sumF (bodyL l))
theorem bodyL_len (l : List UInt8) (h : l.length ≤ 124) : (bodyL l).length = 124 := by simp [bodyL]; omega
theorem sealL_len (l : List UInt8) (h : l.length ≤ 124) : (sealL l).length = 128 := by simp [sealL, bodyL_len l h, le4]
theorem u8_of (x : Int) (h0 : 0 ≤ x) (h1 : x < 256) : ((UInt8.ofNat x.toNat).toNat : Int) = x := by
  rw [UInt8.toNat_ofNat']
  omega
/-- the octets of a checksum, as the code reckons them -/
theorem le4_at (s : Int) : IntKind.u8.wrap s = (((le4 s).getD 0 0).toNat : Int) ∧ IntKind.u8.wrap (s / 256) = (((le4 s).getD 1 0).toNat : Int) ∧ IntKind.u8.wrap (s / 65536) = (((le4 s).getD 2 0).toNat : Int) ∧ IntKind.u8.wrap (s / 16777216) = (((le4 s).getD 3 0).toNat : Int) := by
  simp only [IntKind.wrap_u8]
  refine ⟨?_, ?_, ?_, ?_⟩
  · exact (u8_of (s % 256) (by omega) (by omega)).symm
  · exact (u8_of (s / 256 % 256) (by omega) (by omega)).symm
  · exact (u8_of (s / 65536 % 256) (by omega) (by omega)).symm
  · exact (u8_of (s / 16777216 % 256) (by omega) (by omega)).symm
/-- a sealed block in the making: i octets of its checksum are there -/
structure SealK (w w' : World) (H : Nat) (B : List UInt8) (s : Int) (i : Nat) : Prop where
  blk : ∃ L, OBlk w' H 5 L ∧ L.length = 128 ∧ L.take 124 = B ∧ ∀ j, j < i → L.getD (124 + j) 0 = (le4 s).getD j 0
  kept : Kept w w'
theorem OBlk.set1 {w : World} {g : Nat} {t : TypeId} {l : List UInt8} (h : OBlk w g t l) (j : Nat) (c : UInt8) : OBlk (w.setCell ⟨g, j, none⟩ (.int .u8 (c.toNat : Int))) g t (l.set j c) := by
  have := CB.set h j (.int .u8 (c.toNat : Int))
  unfold OBlk
  rwa [show bcells (l.set j c) = (bcells l).set j (.int .u8 (c.toNat : Int)) from by simp [bcells, List.map_set]]
theorem SealK.step {w w' : World} {H : Nat} {B : List UInt8} {s : Int} {i : Nat} (h : SealK w w' H B s i) (hi : i < 4) (hH : w.heap.size ≤ H) :
    (∃ u, w'.cell? ⟨H, 124 + i, none⟩ = some u) ∧ w'.frozen? ⟨H, 124 + i, none⟩ = false ∧ SealK w (w'.setCell ⟨H, 124 + i, none⟩ (.int .u8 (((le4 s).getD i 0).toNat : Int))) H B s (i + 1) := by
  obtain ⟨L, hL, hl, ht, ha⟩ := h.blk
  refine ⟨⟨_, hL.cell (124 + i) (by omega)⟩, CB.frozen hL _, ⟨⟨L.set (124 + i) ((le4 s).getD i 0), hL.set1 _ _, by simp [hl], ?_, fun j hj => ?_⟩, h.kept.setCell hH _⟩⟩
  · rw [List.take_set_of_le (by omega)]; exact ht
  · rw [List.getD_eq_getElem?_getD, List.getElem?_set]
    by_cases e : i = j
    · subst e
      rw [if_pos rfl, if_pos (by omega)]; rfl
    · rw [if_neg (by omega), ← List.getD_eq_getElem?_getD]
      exact ha j (by omega)
theorem SealK.done {w w' : World} {H : Nat} {B : List UInt8} {s : Int} (h : SealK w w' H B s 4) : OBlk w' H 5 (B ++ le4 s) := by
  obtain ⟨L, hL, hl, ht, ha⟩ := h.blk
  have : L = B ++ le4 s := by
    rw [← ht]
    have hd : L.drop 124 = le4 s := by
      apply List.ext_getElem?
      intro j
      rw [List.getElem?_drop]
      by_cases hj : j < 4
      · have := ha j hj
        rw [List.getD_eq_getElem?_getD, List.getD_eq_getElem?_getD, List.getElem?_eq_getElem (show 124 + j < L.length by omega), List.getElem?_eq_getElem (show j < (le4 s).length by simp [le4]; omega)] at this
        rw [List.getElem?_eq_getElem (show 124 + j < L.length by omega), List.getElem?_eq_getElem (show j < (le4 s).length by simp [le4]; omega)]
        simpa using this
      · rw [List.getElem?_eq_none (by omega), List.getElem?_eq_none (by simp [le4]; omega)]
    rw [← hd, List.take_append_drop]
  rwa [← this]
def SealPost (l : List UInt8) (w : World) (e : Ending) (w' : World) : Prop := ∃ g, e = .returned (.tuple #[.slice (some ⟨g, 0, none⟩) 128 128, .int .i64 0]) ∧ OBlk w' g 5 (sealL l) ∧ w.heap.size ≤ g ∧ Kept w w'
set_option maxRecDepth 100000 in
set_option maxHeartbeats 2000000 in
theorem seal_any (vb : Value) (l : List UInt8) (w : World) (hl : l.length ≤ 124) (hT : HTab w) (hB : Byts w vb l) : Calls Tryd.prog 53 #[vb] w (SealPost l w) := by
  obtain ⟨A, c, rfl⟩ := hB.shape
  obtain ⟨-, hc1, hc2, -, -⟩ := hB.open_
  have hmk : ∀ w, (Instr.makeSlice 33 (.int .i64 128) (.int .i64 128)).run Tryd.prog w = .ok (.slice (some ⟨w.heap.size, 0, none⟩) 128 128) (w.alloc (.cells (bcells (List.replicate 128 0)).toArray 5)) := make_bytes 128 (by omega)
  have HB := hid hB; have HT := hid hT
  have HBL := hid (bodyL_len l hl)
  have HOV := hid (show over (List.replicate 128 0) 0 (l.take 128) = bodyL l ++ List.replicate 4 0 from by
    rw [over, List.take_zero, List.nil_append, Nat.zero_add, List.drop_replicate, List.take_of_length_le (by omega), bodyL, List.append_assoc, List.replicate_append_replicate]
    congr 2; omega)
  obtain ⟨n, hn⟩ : ∃ n, l.length = n := ⟨_, rfl⟩
  rw [hn] at HB hc1 ⊢
  rw [hn] at hl
  clear hT hB hn
  obtain ⟨Z, hZ⟩ : ∃ Z, bcells (List.replicate 128 0) = Z := ⟨_, rfl⟩
  rw [hZ] at hmk
  have HZ := hid hZ
  clear hZ
  go_enter Tryd.func53, Tryd.ntmps53
  go_wp2_with (first
    | (refine wpList_copyB (o := ⟨some 13, _, _, _, _, _⟩) rfl (.tmp 11) (.tmp 12) rfl w.heap.size 0 128 128 n c A (List.replicate 128 0) l rfl rfl (by unfold OBlk CB; rw [HZ.out]; exact heap_alloc_at _ _ _ (by simp)) (by simp) (Kept.byts (by repeat (first | exact Kept.refl _ | assumption | refine Kept.alloc ?_ _ | refine Kept.drew ?_ | refine Kept.drewN ?_ _ | refine Kept.setCell ?_ (by simp; try omega) _ | refine Kept.trans ?_ (by assumption))) HB.out) ?_; intro w3 x3 ob3 bt3; have K3 := hid (Kept.turned ((Kept.refl w).alloc _) bt3 (Nat.le_refl _)); have O3 := hid (show OBlk w3 w.heap.size 5 (bodyL l ++ List.replicate 4 0) by rw [← HOV.out]; exact ob3); clear ob3 bt3)
    | (go_at_call 48; (with_reducible refine (sum_any (.slice (some ⟨w.heap.size, 0, none⟩) 124 128) (bodyL l) w3.heap.size 1 _ ?_ ?_ ?_).mono ?_); (focus exact (K3.out.alloc _).htab HT.out); (focus (simp [go_sem])); (focus exact ((Kept.refl w3).alloc _).byts (byts_mk HBL.out (by omega) (by omega) (fun j v hv => O3.out.range j v (by rw [bcells_app, List.getElem?_append_left (List.getElem?_eq_some_iff.1 hv).1]; exact hv)))); rintro e w4 ⟨rfl, rfl⟩))
  obtain ⟨s, hs⟩ : ∃ s, sumF (bodyL l) = s := ⟨_, rfl⟩
  obtain ⟨s0, s1⟩ := sumF_range (bodyL l)
  rw [hs] at s0 s1 ⊢
  have HS := hid hs
  clear hs
  obtain ⟨e0, e1, e2, e3⟩ := le4_at s
  have HSK := hid (⟨⟨bodyL l ++ List.replicate 4 0, ((Kept.refl w3).alloc _).oblk O3.out, by simp [HBL.out], by rw [List.take_append_of_le_length (by rw [HBL.out]; exact Nat.le_refl _), List.take_of_length_le (by rw [HBL.out]; exact Nat.le_refl _)], fun j hj => by omega⟩, K3.out.alloc _⟩ : SealK w (w3.alloc (.cells #[.slice (some ⟨w.heap.size, 0, none⟩) 124 128] 33)) w.heap.size (bodyL l) s 0)
  go_loopw [18] (fun t wr => ∃ i : Nat, i ≤ 4 ∧ t = .int .i64 i ∧ SealK w wr w.heap.size (bodyL l) s i) (fun t _ => 4 - (intOf t).toNat)
  case atStart => exact ⟨0, by omega, rfl, HSK.out⟩
  case round =>
    obtain ⟨i, hi, rfl, hk⟩ := hrel
    have HK := hid hk
    clear hk
    by_cases hlt : i < 4
    · obtain ⟨⟨u, hu⟩, hf, hnx⟩ := HK.out.step hlt (Nat.le_refl _)
      have HNX := hid hnx
      clear hnx
      generalize hx : (((le4 s).getD i 0).toNat : Int) = x at *
      rcases (by omega : i = 0 ∨ i = 1 ∨ i = 2 ∨ i = 3) with rfl | rfl | rfl | rfl
      all_goals (
        (try rw [hx] at e0); (try rw [hx] at e1); (try rw [hx] at e2); (try rw [hx] at e3)
        simp only [Nat.add_zero, Nat.reduceAdd] at hu hf HNX
        go_wp2
        go_roundw
        case rel => exact ⟨_, by omega, by go_num, HNX.out⟩
        case measure => simp [intOf])
    · obtain rfl : i = 4 := by omega
      go_wp2
      go_ret2
      refine ⟨w.heap.size, rfl, ?_, Nat.le_refl _, HK.out.kept⟩
      rw [sealL, HS.out]
      exact HK.out.done
theorem sealL_at (m : List UInt8) (hm : m.length ≤ 124) (i : Nat) : (sealL m).getD (124 + i) 0 = (le4 (sumF (bodyL m))).getD i 0 := by
  rw [sealL, List.getD_eq_getElem?_getD, List.getElem?_append_right (by rw [bodyL_len m hm]; omega), bodyL_len m hm, show 124 + i - 124 = i by omega, ← List.getD_eq_getElem?_getD]
theorem sealL_take (m : List UInt8) (hm : m.length ≤ 124) : (sealL m).take 124 = bodyL m := by
  rw [sealL, List.take_append_of_le_length (by rw [bodyL_len m hm]; exact Nat.le_refl _), List.take_of_length_le (by rw [bodyL_len m hm]; exact Nat.le_refl _)]
set_option maxRecDepth 100000 in
set_option maxHeartbeats 2000000 in
theorem held_yes (vb : Value) (m : List UInt8) (hm : m.length ≤ 124) (w : World) (hT : HTab w) (hB : Byts w vb (sealL m)) : Calls Tryd.prog 31 #[vb] w fun e w' => e = .returned (.bool true) ∧ Kept w w' := by
  obtain ⟨A, c, rfl⟩ := hB.shape
  rw [sealL_len m hm] at hB ⊢
  obtain ⟨-, hc1, hc2, -, -⟩ := hB.open_
  have HB := hid hB; have HT := hid hT
  have hTK := hB.take 124 (by omega)
  rw [sealL_take m hm] at hTK
  have HTK := hid hTK
  have HAT := hid (sealL_at m hm)
  clear hT hB hTK
  go_enter Tryd.func31, Tryd.ntmps31
  go_wp2_with (go_at_call 48; (with_reducible refine (sum_any (.slice A 124 c) (bodyL m) w.heap.size 1 _ ?_ ?_ ?_).mono ?_); (focus exact ((Kept.refl w).alloc _).htab HT.out); (focus (simp [go_sem])); (focus exact ((Kept.refl w).alloc _).byts HTK.out); rintro e w4 ⟨rfl, rfl⟩)
  obtain ⟨s, hs⟩ : ∃ s, sumF (bodyL m) = s := ⟨_, rfl⟩
  obtain ⟨s0, s1⟩ := sumF_range (bodyL m)
  rw [hs] at s0 s1 ⊢
  rw [hs] at HAT
  clear hs
  obtain ⟨e0, e1, e2, e3⟩ := le4_at s
  go_loopw [12] (fun t wr => ∃ i : Nat, i ≤ 4 ∧ t = .int .i64 i ∧ Kept w wr) (fun t _ => 4 - (intOf t).toNat)
  case atStart => exact ⟨0, by omega, rfl, (Kept.refl w).alloc _⟩
  case round =>
    obtain ⟨i, hi, rfl, hk⟩ := hrel
    have HK := hid hk
    have HBR := hid (hk.byts HB.out)
    clear hk
    by_cases hlt : i < 4
    · obtain ⟨b, o, rfl, hx⟩ := HBR.out.cell (124 + i) (by omega)
      rw [HAT.out i] at hx
      rcases (by omega : i = 0 ∨ i = 1 ∨ i = 2 ∨ i = 3) with rfl | rfl | rfl | rfl
      all_goals (
        simp only [Nat.add_zero, Nat.reduceAdd] at hx
        generalize (((le4 s).getD 0 0).toNat : Int) = x0 at *
        generalize (((le4 s).getD 1 0).toNat : Int) = x1 at *
        generalize (((le4 s).getD 2 0).toNat : Int) = x2 at *
        generalize (((le4 s).getD 3 0).toNat : Int) = x3 at *
        go_wp2_with fail
        go_quiet (fail)
        go_wp2_with fail
        go_roundw
        case rel => first | exact ⟨1, by omega, by go_num, HK.out.trans ((Kept.refl wr).drewN nq)⟩ | exact ⟨2, by omega, by go_num, HK.out.trans ((Kept.refl wr).drewN nq)⟩ | exact ⟨3, by omega, by go_num, HK.out.trans ((Kept.refl wr).drewN nq)⟩ | exact ⟨4, by omega, by go_num, HK.out.trans ((Kept.refl wr).drewN nq)⟩
        case measure => simp [intOf])
    · obtain rfl : i = 4 := by omega
      go_wp2
      go_ret
      exact ⟨rfl, HK.out⟩
end Go.Proofs.YtiiogglflpladaaDoor
