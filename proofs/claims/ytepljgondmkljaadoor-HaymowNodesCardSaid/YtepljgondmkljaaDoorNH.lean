/- Nodes: pointers, ReadNode, To, Points. -/
import Derived.Test.YtepljgondmkljaaDoorNG
import Derived.StillTailTactics
namespace Go.Proofs.YtepljgondmkljaaDoor
set_option linter.unusedSimpArgs false
set_option linter.unusedVariables false
open Go.RowKit

theorem valF_be4 (V : Nat) (h : V < 4294967296) : valF (beW 4 V) = V := by
  have e : beW 4 V = [UInt8.ofNat (V / 16777216 % 256), UInt8.ofNat (V / 65536 % 256), UInt8.ofNat (V / 256 % 256), UInt8.ofNat (V / 1 % 256)] := by
    simp [beW, List.range_succ]
  rw [e]
  simp only [valF, List.foldl_cons, List.foldl_nil, UInt8.toNat_ofNat']
  omega
theorem packL_cons (p : Nat × Nat) (r : List (Nat × Nat)) : packL (numsOf (p :: r)) = beW 4 p.1 ++ (beW 4 p.2 ++ packL (numsOf r)) := by simp [numsOf, packL]
theorem pack_drop (L : List (Nat × Nat)) (Z : List UInt8) (i : Nat) (p : Nat × Nat) (h : L[i]? = some p) : ∃ r, (packL (numsOf L) ++ Z).drop (8 * i) = beW 4 p.1 ++ (beW 4 p.2 ++ r) := by
  induction L generalizing i with
  | nil => simp at h
  | cons q r ih =>
    rcases i with _ | i
    · simp only [List.getElem?_cons_zero, Option.some.injEq] at h
      subst h
      exact ⟨packL (numsOf r) ++ Z, by rw [packL_cons]; simp⟩
    · rw [List.getElem?_cons_succ] at h
      obtain ⟨s, hs⟩ := ih i h
      refine ⟨s, ?_⟩
      rw [← hs, packL_cons, List.append_assoc, List.append_assoc, ← List.append_assoc, List.drop_append]
      have hl : (beW 4 q.1 ++ beW 4 q.2).length = 8 := by rw [List.length_append, beW_len, beW_len]
      rw [List.drop_of_length_le (by rw [hl]; omega), hl, List.nil_append, show 8 * (i + 1) - 8 = 8 * i by omega]
theorem unp_44 (X : List UInt8) : unpL [4, 4] X = [valF (X.take 4), valF ((X.drop 4).take 4)] := by
  simp [unpL, unpN, List.range_succ, sumN]
theorem unp_ptr (L : List (Nat × Nat)) (Z : List UInt8) (i : Nat) (p : Nat × Nat) (h : L[i]? = some p) (hp : PtrOk p) : unpL [4, 4] ((packL (numsOf L) ++ Z).drop (8 * i)) = [p.1, p.2] := by
  obtain ⟨r, hr⟩ := pack_drop L Z i p h
  obtain ⟨h1, h2, -⟩ := hp
  rw [unp_44, hr]
  have l1 : (beW 4 p.1).length = 4 := beW_len _ _
  have l2 : (beW 4 p.2).length = 4 := beW_len _ _
  rw [List.take_append_of_le_length (by omega), List.take_of_length_le (by omega), List.drop_append_of_le_length (by omega), List.drop_of_length_le (by omega), List.nil_append, List.take_append_of_le_length (by omega), List.take_of_length_le (by omega), valF_be4 _ (by omega), valF_be4 _ h2]
theorem U64s.two {w : World} {v : Value} {x y : Nat} (h : U64s w v [x, y]) : ∃ b o c, v = .slice (some ⟨b, o, none⟩) 2 c ∧ 2 ≤ c ∧ w.cell? ⟨b, o, none⟩ = some (.int .u64 (x : Int)) ∧ w.cell? ⟨b, o + 1, none⟩ = some (.int .u64 (y : Int)) := by
  obtain ⟨A, c, hv, h1, h2, h3⟩ := h
  obtain ⟨b, o, rfl, hc⟩ := h3 (by simp)
  exact ⟨b, o, c, hv, h1, hc 0 (by simp), hc 1 (by simp)⟩
/-- the cells of an array of pointers, the first i of them set -/
structure PArr (w0 w : World) (g : Nat) (t : TypeId) (L : List (Nat × Nat)) (i : Nat) : Prop where
  blk : ∃ cs, CB w g t cs ∧ cs.length = 30 ∧ ∀ j p, j < i → L[j]? = some p → cs[j * 2]? = some (.int .i64 (p.1 : Int)) ∧ cs[j * 2 + 1]? = some (.int .u32 (p.2 : Int))
  kept : Kept w0 w
theorem PArr.cells {w0 w : World} {g : Nat} {t : TypeId} {L : List (Nat × Nat)} {i : Nat} (h : PArr w0 w g t L i) (j : Nat) (hj : j < 30) : (∃ u, w.cell? ⟨g, j, none⟩ = some u) ∧ w.frozen? ⟨g, j, none⟩ = false := by
  obtain ⟨cs, hc, hl, -⟩ := h.blk
  exact ⟨⟨_, hc.cell j (by omega)⟩, hc.frozen j⟩
theorem PArr.set {w0 w : World} {g : Nat} {t : TypeId} {L : List (Nat × Nat)} {i : Nat} (h : PArr w0 w g t L i) (p : Nat × Nat) (hp : L[i]? = some p) (hi : i < 15) (hg : w0.heap.size ≤ g) : PArr w0 ((w.setCell ⟨g, i * 2, none⟩ (.int .i64 (p.1 : Int))).setCell ⟨g, i * 2 + 1, none⟩ (.int .u32 (p.2 : Int))) g t L (i + 1) := by
  obtain ⟨cs, hc, hl, ha⟩ := h.blk
  refine ⟨⟨_, (hc.set (i * 2) _).set (i * 2 + 1) _, by simp [hl], fun j q hj hq => ?_⟩, (h.kept.setCell hg _).setCell hg _⟩
  rw [List.getElem?_set, List.getElem?_set, List.getElem?_set, List.getElem?_set]
  by_cases e : j = i
  · subst e
    rw [hp] at hq
    cases hq
    simp [hl]
    omega
  · obtain ⟨a1, a2⟩ := ha j q (by omega) hq
    simp only [show ¬ i * 2 + 1 = j * 2 by omega, show ¬ i * 2 = j * 2 by omega, show ¬ i * 2 + 1 = j * 2 + 1 by omega, show ¬ i * 2 = j * 2 + 1 by omega, if_false]
    exact ⟨a1, a2⟩
theorem PArr.ptrs {w0 w : World} {g : Nat} {t : TypeId} {L : List (Nat × Nat)} (h : PArr w0 w g t L 15) (hL : L.length = 15) : Ptrs w (.slice (some ⟨g, 0, none⟩) 15 15) L := by
  obtain ⟨cs, hc, hl, ha⟩ := h.blk
  refine ⟨_, 15, by rw [hL], by omega, by omega, fun _ => ⟨g, 0, rfl, fun i p hp => ?_⟩⟩
  have hi := (List.getElem?_eq_some_iff.1 hp).1
  obtain ⟨a1, a2⟩ := ha i p (by omega) hp
  rw [Nat.zero_add]
  rw [List.getElem?_eq_getElem (show i * 2 < cs.length by omega)] at a1
  rw [List.getElem?_eq_getElem (show i * 2 + 1 < cs.length by omega)] at a2
  exact ⟨by rw [hc.cell (i * 2) (by omega)]; exact a1, by rw [hc.cell (i * 2 + 1) (by omega)]; exact a2⟩
theorem PArr.more {w0 w w' : World} {g : Nat} {t : TypeId} {L : List (Nat × Nat)} {i : Nat} (h : PArr w0 w g t L i) (k : Kept w w') : PArr w0 w' g t L i := by
  obtain ⟨cs, hc, hr⟩ := h.blk
  exact ⟨⟨cs, k.cb hc, hr⟩, h.kept.trans k⟩
theorem ints_44 (w : World) (H : Nat) (hH : w.heap.size = H) : Ints (w.alloc (.cells #[.int .i64 4, .int .i64 4] 3)) (.slice (some ⟨H, 0, none⟩) 2 2) (([4, 4] : List Nat).map (fun (x : Nat) => (x : Int))) := by
  subst hH
  refine ints_cells rfl (by omega) (by omega) fun i hi => ?_
  rcases (by omega : i = 0 ∨ i = 1) with rfl | rfl <;> simp [go_sem]
set_option maxRecDepth 100000 in
set_option maxHeartbeats 4000000 in
theorem pointers_any (vb : Value) (L : List (Nat × Nat)) (g : Nat) (w0 w : World) (hL : L.length = 15) (hok : ∀ p ∈ L, PtrOk p) (hB : Byts w0 vb (bodyL (packL (numsOf L)))) (hk0 : Kept w0 w) (hg : w0.heap.size ≤ g) (t : TypeId) (cs : List Value) (hc : CB w g t cs) (hl : cs.length = 30) :
    Calls Tryd.prog 20 #[vb, .slice (some ⟨g, 0, none⟩) 15 15] w fun e w' => e = .returned (.bool true) ∧ PArr w0 w' g t L 15 := by
  have hPL : (packL (numsOf L)).length = 120 := by rw [packL_len, sumW_nums]; omega
  have hBL := bodyL_len (packL (numsOf L)) (by omega)
  have HZR := hid (show ∀ j, 120 ≤ j → j < 124 → (bodyL (packL (numsOf L))).getD j 0 = 0 from fun j h1 h2 => by
    rw [bodyL, List.getD_eq_getElem?_getD, List.getElem?_append_right (by omega), List.getElem?_replicate]
    split <;> rfl)
  have HUN := hid (fun (i : Nat) (p : Nat × Nat) (h : L[i]? = some p) => show unpL [4, 4] ((bodyL (packL (numsOf L))).drop (8 * i)) = [p.1, p.2] from unp_ptr L (List.replicate (124 - (packL (numsOf L)).length) 0) i p h (hok p (List.mem_of_getElem? h)))
  obtain ⟨A, c, rfl⟩ := hB.shape
  rw [hBL] at hB ⊢
  obtain ⟨-, hc1, hc2, -, -⟩ := hB.open_
  have HB := hid hB; have HOK := hid hok; have HL := hid hL; have HG := hid hg
  have HPA := hid (⟨⟨cs, hc, hl, fun j p hj => by omega⟩, hk0⟩ : PArr w0 w g t L 0)
  have HBL := hid hBL
  clear hPL hBL hB hok hL hk0 hc hl
  generalize bodyL (packL (numsOf L)) = B at *
  go_enter Tryd.func20, Tryd.ntmps20
  go_wp2
  go_loopw [10] (fun tt wr => ∃ i : Nat, i ≤ 15 ∧ tt = .int .i64 i ∧ PArr w0 wr g t L i) (fun tt _ => 15 - (intOf tt).toNat)
  case atStart => exact ⟨0, by omega, rfl, HPA.out⟩
  case round =>
    obtain ⟨i, hi, rfl, hp⟩ := hrel
    have HP := hid hp
    clear hp
    by_cases hlt : i < 15
    · obtain ⟨p, hp⟩ : ∃ p, L[i]? = some p := ⟨_, List.getElem?_eq_getElem (by rw [HL.out]; exact hlt)⟩
      have hpo := HOK.out p (List.mem_of_getElem? hp)
      have hun := HUN.out i p hp
      have HSET := hid (fun (w' : World) (h : PArr w0 w' g t L i) => h.set p hp hlt HG.out)
      have HBR := hid (HP.out.kept.byts HB.out)
      obtain ⟨q, hq⟩ : ∃ q, 8 * i = q := ⟨_, rfl⟩
      rw [hq] at hun
      have hq1 : q ≤ 112 := by omega
      have hmul : IntKind.i64.wrap ((i : Int) * 8) = (q : Int) := by rw [IntKind.wrap_i64]; omega
      have HDR := hid (show Byts wr (.slice (Option.map (fun x => x.add q) A) (124 - q) (c - q)) (B.drop q) from by
        have := HBR.out.drop q (by omega)
        rw [restA, if_neg (by omega)] at this
        simpa using this)
      have HLD := hid (show (B.drop q).length = 124 - q by rw [List.length_drop, HBL.out])
      obtain ⟨px, py⟩ := p
      obtain ⟨p1, p2, -⟩ := hpo
      have HU2 := hid hun
      clear hp hun
      dsimp only at p1 p2 HSET HU2
      have r0 : (0 : Int) ≤ (q : Int) := by omega
      have r1 : (q : Int) ≤ 124 := by omega
      have r2 : (q : Int) ≤ (c : Int) := by omega
      have hi0 : (0 : Int) ≤ (i : Int) := by omega
      have hi1 : (i : Int) < 15 := by omega
      have hx1 : IntKind.i64.wrap (px : Int) = (px : Int) := by rw [IntKind.wrap_i64]; omega
      have hy1 : IntKind.u32.wrap (py : Int) = (py : Int) := by rw [IntKind.wrap_u32]; omega
      have hy2 : (py : Int) % 4294967296 = (py : Int) := by omega
      go_wp2_with (go_at_call 25; (with_reducible refine (unpack_any _ _ (B.drop q) [4, 4] _ ?_ ?_ ?_ ?_ ?_ ?_).mono ?_); (focus exact ((Kept.refl wr).alloc _).byts HDR.out); (focus exact ints_44 wr _ rfl); (focus (intro x hx; simp at hx; omega)); (focus simp); (focus (rw [HLD.out]; simp [sumN]; omega)); (focus simp [sumN]); rintro e w2 ⟨v2, rfl, hu, k2⟩; rw [HU2.out] at hu; obtain ⟨ub, uo, uc, rfl, huc, u0, u1⟩ := hu.two; have P2 := hid (HP.out.more (((Kept.refl wr).alloc _).trans k2)); clear hu k2)
      obtain ⟨⟨o1, g1⟩, f1⟩ := P2.out.cells (i * 2) (by omega)
      obtain ⟨⟨o2, g2⟩, f2⟩ := P2.out.cells (i * 2 + 1) (by omega)
      go_still_tail 11, (by kernel_rfl)
      change wpList _ _ _ _ _ (World.drew _)
      go_wp2_with fail
      go_roundw
      case rel => exact ⟨i + 1, by omega, by go_num, (HSET.out _ P2.out).more (Kept.refl _).drew⟩
      case measure => simp [intOf]; omega
    · obtain rfl : i = 15 := by omega
      have HC := hid (show ∀ w', Byts w' (.slice A 124 c) B → Calls Tryd.prog 26 #[.slice A 124 c, .int .i64 120] w' fun e w2 => e = .returned (.bool true) ∧ w' = w2 from fun w' hb => clear_yes _ B 120 w' hb (by rw [HBL.out]; omega) (fun j h1 h2 => HZR.out j h1 (by rw [HBL.out] at h2; exact h2)))
      go_wp2_with (go_at_call 26; (with_reducible refine (HC.out _ ?_).mono ?_); (focus exact HP.out.kept.byts HB.out); rintro e w2 ⟨rfl, rfl⟩)
      go_ret
      exact ⟨rfl, HP.out⟩
def ReadPost (L : List (Nat × Nat)) (w : World) (e : Ending) (w' : World) : Prop := ∃ g, e = .returned (.tuple #[.slice (some ⟨g, 0, none⟩) 15 15, .int .i64 0]) ∧ Ptrs w' (.slice (some ⟨g, 0, none⟩) 15 15) L ∧ Kept w w'
theorem zero_node (w : World) : (zeroValue 57).run Tryd.prog w = .ok (.agg (madeCells #[.int .i64 0, .int .u32 0] 30)) w := by kernel_rfl
set_option maxRecDepth 100000 in
set_option maxHeartbeats 4000000 in
theorem read_node (vb : Value) (L : List (Nat × Nat)) (w : World) (hL : L.length = 15) (hT : HTab w) (hok : ∀ p ∈ L, PtrOk p) (hB : Byts w vb (nodeB L)) : Calls Tryd.prog 11 #[vb] w (ReadPost L w) := by
  have hPL : (packL (numsOf L)).length = 120 := by rw [packL_len, sumW_nums]; omega
  have HH := hid (held_yes vb (packL (numsOf L)) (by omega) w hT hB)
  have hlen : (nodeB L).length = 128 := sealL_len _ (by omega)
  obtain ⟨A, c, rfl⟩ := hB.shape
  rw [hlen] at hB HH ⊢
  obtain ⟨-, hc1, hc2, -, -⟩ := hB.open_
  have htk := hB.take 124 (by omega)
  rw [nodeB, sealL_take _ (by omega)] at htk
  have HTK := hid htk
  have HPT := hid (fun (g : Nat) (w' : World) (hk : Kept w w') (hg : w.heap.size ≤ g) (cs : List Value) (hc : CB w' g 57 cs) (hl : cs.length = 30) => pointers_any (.slice A 124 c) L g w w' hL hok htk hk hg 57 cs hc hl)
  have HAL := hid (fun v w' hp => all_ok v L w' hp hok)
  have HL := hid hL
  have hz := zero_node
  clear hB hT hok hL htk hPL hlen
  generalize hZ : madeCells #[Value.int .i64 0, Value.int .u32 0] 30 = Z at *
  have HZ := hid (show Z.toList.length = 30 by rw [← hZ, Array.length_toList, size_madeCells])
  clear hZ
  go_enter Tryd.func11, Tryd.ntmps11
  go_wp2_with (go_at_call 19; refine HH.out.mono ?_; rintro e w1 ⟨rfl, k1⟩; have K1 := hid k1; clear k1)
  have HCB := hid (show CB (w1.alloc (.cells Z 57)) w1.heap.size 57 Z.toList from by simpa using cb_new w1 57 Z.toList)
  have HKZ := hid (K1.out.alloc (.cells Z 57))
  have HG := hid K1.out.size
  generalize (w1.alloc (.cells Z 57)) = wz at *
  generalize w1.heap.size = gz at *
  go_region_with (first
    | (go_at_call 20; (with_reducible refine (HPT.out gz _ ?_ HG.out Z.toList ?_ HZ.out).mono ?_); (focus exact HKZ.out.drew); (focus exact HCB.out.drew); rintro e w2 ⟨rfl, hpa⟩; have PA := hid hpa; clear hpa)
    | (go_at_call 15; (with_reducible refine (HAL.out _ _ (PA.out.ptrs HL.out)).mono ?_); rintro e w3 ⟨rfl, k3⟩; have K3 := hid k3; clear k3))
  all_goals (
    go_wp2_with fail
    go_ret2
    exact ⟨_, rfl, (PA.out.more K3.out).ptrs HL.out, (PA.out.more K3.out).kept⟩)
set_option maxHeartbeats 2000000 in
theorem to_any (at_ : Int) (g : Nat) (B : List UInt8) (w : World) (h1 : 1 ≤ at_) (h2 : at_ ≤ 2147483647) (hT : HTab w) (hB : OBlk w g 5 B) (hl : B.length = 128) :
    Calls Tryd.prog 9 #[.int .i64 at_, .slice (some ⟨g, 0, none⟩) 128 128] w fun e w' => e = .returned (.tuple #[.agg #[.int .i64 at_, .int .u32 (sumF B)], .int .i64 0]) ∧ Kept w w' := by
  have HT := hid hT; have HB := hid (byts_mk hl (by omega) (by omega) hB.range : Byts w (.slice (some ⟨g, 0, none⟩) 128 128) B)
  clear hT hB
  have d1 : decide (at_ < 1) = false := decide_eq_false (by omega)
  have d2 : decide (2147483647 < at_) = false := decide_eq_false (by omega)
  go_enter Tryd.func9, Tryd.ntmps9
  go_wp2_with (go_at_call 18; (with_reducible refine (sum_any (.slice (some ⟨g, 0, none⟩) 128 128) B (w.heap.size + 1) 1 _ ?_ ?_ ?_).mono ?_); (focus exact Kept.htab (by repeat (first | exact Kept.refl _ | assumption | refine Kept.alloc ?_ _ | refine Kept.drew ?_ | refine Kept.drewN ?_ _ | refine Kept.setCell ?_ (by simp; try omega) _ | refine Kept.trans ?_ (by assumption))) HT.out); (focus (simp [go_sem])); (focus exact Kept.byts (by repeat (first | exact Kept.refl _ | assumption | refine Kept.alloc ?_ _ | refine Kept.drew ?_ | refine Kept.drewN ?_ _ | refine Kept.setCell ?_ (by simp; try omega) _ | refine Kept.trans ?_ (by assumption))) HB.out); rintro e w4 ⟨rfl, rfl⟩)
  refine bodyPost_ret (v := .tuple #[.agg #[.int .i64 at_, .int .u32 (sumF B)], .int .i64 0]) (by simp [results, Tryd.results9, go_sem]) rfl ⟨rfl, (by repeat (first | exact Kept.refl _ | assumption | refine Kept.alloc ?_ _ | refine Kept.drew ?_ | refine Kept.drewN ?_ _ | refine Kept.setCell ?_ (by simp; try omega) _ | refine Kept.trans ?_ (by assumption)))⟩
set_option maxHeartbeats 2000000 in
theorem points_any (at_ : Int) (g : Nat) (B : List UInt8) (w : World) (h1 : 0 < at_) (hT : HTab w) (hB : OBlk w g 5 B) (hl : B.length = 128) :
    Calls Tryd.prog 12 #[.agg #[.int .i64 at_, .int .u32 (sumF B)], .slice (some ⟨g, 0, none⟩) 128 128] w fun e w' => e = .returned (.bool true) ∧ Kept w w' := by
  have HT := hid hT; have HB := hid (byts_mk hl (by omega) (by omega) hB.range : Byts w (.slice (some ⟨g, 0, none⟩) 128 128) B)
  clear hT hB
  obtain ⟨s, hs⟩ : ∃ s, sumF B = s := ⟨_, rfl⟩
  rw [hs]
  have HS := hid hs
  clear hs
  go_enter Tryd.func12, Tryd.ntmps12
  go_wp2_with fail
  have b0 : (w.alloc (.cells #[.int .i64 at_, .int .u32 s] 29)).cell? ⟨w.heap.size, 0, none⟩ = some (.int .i64 at_) := by simp [go_sem]
  have b1 : (w.alloc (.cells #[.int .i64 at_, .int .u32 s] 29)).cell? ⟨w.heap.size, 1, none⟩ = some (.int .u32 s) := by simp [go_sem]
  have KB := hid ((Kept.refl w).alloc (.cells #[.int .i64 at_, .int .u32 s] 29))
  generalize (w.alloc (.cells #[.int .i64 at_, .int .u32 s] 29)) = wb at *
  generalize hH : w.heap.size = H at *
  refine wp_region_held_drew (S := fun w' => w'.cell? ⟨H, 0, none⟩ = some (.int .i64 at_) ∧ w'.cell? ⟨H, 1, none⟩ = some (.int .u32 s)) (by kernel_rfl) ⟨b0, b1⟩ (fun hHeld => ?_)
  refine wpAnyH_take (i := 0) (v := ?_) rfl (by kernel_rfl) (by kernel_rfl) (by kernel_rfl) (fun _ _ _ h => h) (Or.inl ⟨by rfl, ?_⟩) (by assumption) ?_
  rotate_left
  focus (intro w hSw; (try dsimp only at hSw); go_simp; first | done | with_reducible rfl)
  (try simp only [List.getElem_toArray, List.getElem_cons_zero, List.getElem_cons_succ, Act.put, List.setIfInBounds_toArray, List.set_cons_zero, List.set_cons_succ])
  refine wpAnyH_take (i := 1) (v := ?_) rfl (by kernel_rfl) (by kernel_rfl) (by kernel_rfl) (fun _ _ _ h => h) (Or.inl ⟨by rfl, ?_⟩) (by assumption) ?_
  rotate_left
  focus (intro w hSw; (try dsimp only at hSw); go_simp; first | done | with_reducible rfl)
  (try simp only [List.getElem_toArray, List.getElem_cons_zero, List.getElem_cons_succ, Act.put, List.setIfInBounds_toArray, List.set_cons_zero, List.set_cons_succ])
  refine wpAnyH_take (i := 2) (v := ?_) rfl (by kernel_rfl) (by kernel_rfl) (by kernel_rfl) (fun _ _ _ h => h) (Or.inl ⟨by rfl, ?_⟩) (by assumption) ?_
  rotate_left
  focus (intro w hSw; (try dsimp only at hSw); go_simp; first | done | with_reducible rfl)
  (try simp only [List.getElem_toArray, List.getElem_cons_zero, List.getElem_cons_succ, Act.put, List.setIfInBounds_toArray, List.set_cons_zero, List.set_cons_succ])
  refine wpAnyH_take (i := 3) (v := ?_) rfl (by kernel_rfl) (by kernel_rfl) (by kernel_rfl) (fun _ _ _ h => h) (Or.inl ⟨by rfl, ?_⟩) (by assumption) ?_
  rotate_left
  focus (intro w hSw; (try dsimp only at hSw); go_simp; first | done | with_reducible rfl)
  (try simp only [List.getElem_toArray, List.getElem_cons_zero, List.getElem_cons_succ, Act.put, List.setIfInBounds_toArray, List.set_cons_zero, List.set_cons_succ])
  refine wpAnyH_take (i := 4) (v := ?_) rfl (by kernel_rfl) (by kernel_rfl) (by kernel_rfl) (fun _ _ _ h => h) (Or.inl ⟨by rfl, ?_⟩) (by assumption) ?_
  rotate_left
  focus (intro w hSw; (try dsimp only at hSw); go_simp; first | done | with_reducible rfl)
  (try simp only [List.getElem_toArray, List.getElem_cons_zero, List.getElem_cons_succ, Act.put, List.setIfInBounds_toArray, List.set_cons_zero, List.set_cons_succ])
  refine wpAnyH_take (i := 5) (v := ?_) rfl (by kernel_rfl) (by kernel_rfl) (by kernel_rfl) (fun _ _ _ h => h) (Or.inl ⟨by rfl, ?_⟩) (by assumption) ?_
  rotate_left
  focus (intro w hSw; (try dsimp only at hSw); go_simp; first | done | with_reducible rfl)
  (try simp only [List.getElem_toArray, List.getElem_cons_zero, List.getElem_cons_succ, Act.put, List.setIfInBounds_toArray, List.set_cons_zero, List.set_cons_succ])
  refine wpAnyH_take (i := 6) (v := ?_) rfl (by kernel_rfl) (by kernel_rfl) (by kernel_rfl) (fun _ _ _ h => h) (Or.inl ⟨by rfl, ?_⟩) (by assumption) ?_
  rotate_left
  focus (intro w hSw; (try dsimp only at hSw); go_simp; first | done | with_reducible rfl)
  (try simp only [List.getElem_toArray, List.getElem_cons_zero, List.getElem_cons_succ, Act.put, List.setIfInBounds_toArray, List.set_cons_zero, List.set_cons_succ])
  refine wpAnyH_take (i := 7) (v := ?_) rfl (by kernel_rfl) (by kernel_rfl) (by kernel_rfl) (fun _ _ _ h => h) (Or.inl ⟨by rfl, ?_⟩) (by assumption) ?_
  rotate_left
  focus (intro w hSw; (try dsimp only at hSw); go_simp; first | done | with_reducible rfl)
  (try simp only [List.getElem_toArray, List.getElem_cons_zero, List.getElem_cons_succ, Act.put, List.setIfInBounds_toArray, List.set_cons_zero, List.set_cons_succ])
  refine wpAnyH_take (i := 8) (v := ?_) rfl (by kernel_rfl) (by kernel_rfl) (by kernel_rfl) (fun _ _ _ h => h) (Or.inl ⟨by rfl, ?_⟩) (by assumption) ?_
  rotate_left
  focus (intro w hSw; (try dsimp only at hSw); go_simp; first | done | with_reducible rfl)
  (try simp only [List.getElem_toArray, List.getElem_cons_zero, List.getElem_cons_succ, Act.put, List.setIfInBounds_toArray, List.set_cons_zero, List.set_cons_succ])
  refine wpAnyH_take (i := 9) (v := ?_) rfl (by kernel_rfl) (by kernel_rfl) (by kernel_rfl) (fun _ _ _ h => h) (Or.inl ⟨by rfl, ?_⟩) (by assumption) ?_
  rotate_left
  focus (intro w hSw; (try dsimp only at hSw); go_simp; first | done | with_reducible rfl)
  (try simp only [List.getElem_toArray, List.getElem_cons_zero, List.getElem_cons_succ, Act.put, List.setIfInBounds_toArray, List.set_cons_zero, List.set_cons_succ])
  refine wpAnyH_take (i := 12) (v := ?_) rfl (by kernel_rfl) (by kernel_rfl) (by kernel_rfl) (fun _ _ _ h => h) (Or.inl ⟨by rfl, ?_⟩) (by assumption) ?_
  rotate_left
  focus (intro w hSw; (try dsimp only at hSw); go_simp; first | done | with_reducible rfl)
  (try simp only [List.getElem_toArray, List.getElem_cons_zero, List.getElem_cons_succ, Act.put, List.setIfInBounds_toArray, List.set_cons_zero, List.set_cons_succ])
  refine wpAnyH_take (i := 13) (v := ?_) rfl (by kernel_rfl) (by kernel_rfl) (by kernel_rfl) (fun _ _ _ h => h) (Or.inl ⟨by rfl, ?_⟩) (by assumption) ?_
  rotate_left
  focus (intro w hSw; (try dsimp only at hSw); go_simp; first | done | with_reducible rfl)
  (try simp only [List.getElem_toArray, List.getElem_cons_zero, List.getElem_cons_succ, Act.put, List.setIfInBounds_toArray, List.set_cons_zero, List.set_cons_succ])
  refine wpAnyH_ready (rs := [10]) (by kernel_rfl) (by simp) ?_
  refine AllReadyH.cons rfl (fun K hK => ?_) AllReadyH.nil
  go_simp
  refine hK.out _ _ (⟨((Kept.refl wb).drew.alloc _).keeps b0, ((Kept.refl wb).drew.alloc _).keeps b1⟩) (fun hHeld => ?_)
  clear hK K
  (try simp only [List.getElem_toArray, List.getElem_cons_zero, List.getElem_cons_succ, Act.put, List.setIfInBounds_toArray, List.set_cons_zero, List.set_cons_succ])
  refine wpAnyH_ready (rs := [11]) (by kernel_rfl) (by simp) ?_
  refine AllReadyH.cons rfl (fun K hK => ?_) AllReadyH.nil
  go_simp; go_at_call 18; (with_reducible refine (sum_any (.slice (some ⟨g, 0, none⟩) 128 128) B wb.heap.size 1 _ ?_ ?_ ?_).mono ?_); (focus exact Kept.htab ((KB.out.drew).alloc _) HT.out); (focus (simp [go_sem])); (focus exact Kept.byts ((KB.out.drew).alloc _) HB.out); rw [HS.out]; rintro e w4 ⟨rfl, rfl⟩
  refine hK.out _ _ (⟨((Kept.refl wb).drew.alloc _).keeps b0, ((Kept.refl wb).drew.alloc _).keeps b1⟩) (fun hHeld => ?_)
  clear hK K
  (try simp only [List.getElem_toArray, List.getElem_cons_zero, List.getElem_cons_succ, Act.put, List.setIfInBounds_toArray, List.set_cons_zero, List.set_cons_succ])
  refine wpAnyH_take (i := 14) (v := ?_) rfl (by kernel_rfl) (by kernel_rfl) (by kernel_rfl) (fun _ _ _ h => h) (Or.inl ⟨by rfl, ?_⟩) (by assumption) ?_
  rotate_left
  focus (intro w hSw; (try dsimp only at hSw); go_simp; first | done | with_reducible rfl)
  (try simp only [List.getElem_toArray, List.getElem_cons_zero, List.getElem_cons_succ, Act.put, List.setIfInBounds_toArray, List.set_cons_zero, List.set_cons_succ])
  refine wpAnyH_take (i := 15) (v := ?_) rfl (by kernel_rfl) (by kernel_rfl) (by kernel_rfl) (fun _ _ _ h => h) (Or.inl ⟨by rfl, ?_⟩) (by assumption) ?_
  rotate_left
  focus (intro w hSw; (try dsimp only at hSw); go_simp; first | done | with_reducible rfl)
  (try simp only [List.getElem_toArray, List.getElem_cons_zero, List.getElem_cons_succ, Act.put, List.setIfInBounds_toArray, List.set_cons_zero, List.set_cons_succ])
  refine wpAnyH_take (i := 16) (v := ?_) rfl (by kernel_rfl) (by kernel_rfl) (by kernel_rfl) (fun _ _ _ h => h) (Or.inl ⟨by rfl, ?_⟩) (by assumption) ?_
  rotate_left
  focus (intro w hSw; (try dsimp only at hSw); go_simp; first | done | with_reducible rfl)
  (try simp only [List.getElem_toArray, List.getElem_cons_zero, List.getElem_cons_succ, Act.put, List.setIfInBounds_toArray, List.set_cons_zero, List.set_cons_succ])
  refine wpAnyH_done (by kernel_rfl) ?_ _
  go_wp2_with fail
  go_ret
  exact ⟨rfl, KB.out.drew.alloc _⟩
end Go.Proofs.YtepljgondmkljaaDoor
