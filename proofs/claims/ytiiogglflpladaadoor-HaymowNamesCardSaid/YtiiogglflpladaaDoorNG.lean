/- Nodes: Clear; all, num, numbers, seal, Node of inode. -/
import Derived.Test.YtiiogglflpladaaDoorNF
import Derived.Deep.RegionHeld3
import Derived.Deep.RegionLaw
namespace Go.Proofs.YtiiogglflpladaaDoor
set_option linter.unusedSimpArgs false
set_option linter.unusedVariables false
open Go.RowKit

/-- a slice of pointers that is read -/
def Ptrs (w : World) (v : Value) (L : List (Nat × Nat)) : Prop :=
  ∃ A c, v = .slice A L.length c ∧ L.length ≤ c ∧ c ≤ 9223372036854775807 ∧ (0 < L.length → ∃ b o, A = some ⟨b, o, none⟩ ∧ ∀ i p, L[i]? = some p → w.cell? ⟨b, o + i * 2, none⟩ = some (.int .i64 (p.1 : Int)) ∧ w.cell? ⟨b, o + i * 2 + 1, none⟩ = some (.int .u32 (p.2 : Int)))
theorem Kept.ptrs {w w1 : World} {v : Value} {L : List (Nat × Nat)} (k : Kept w w1) (h : Ptrs w v L) : Ptrs w1 v L := by
  obtain ⟨A, c, hv, h1, h2, h3⟩ := h
  refine ⟨A, c, hv, h1, h2, fun h0 => ?_⟩
  obtain ⟨b, o, hA, hc⟩ := h3 h0
  exact ⟨b, o, hA, fun i p hp => ⟨k.keeps (hc i p hp).1, k.keeps (hc i p hp).2⟩⟩
theorem Ptrs.shape {w : World} {v : Value} {L : List (Nat × Nat)} (h : Ptrs w v L) : ∃ A c, v = .slice A L.length c ∧ L.length ≤ c ∧ c ≤ 9223372036854775807 := by
  obtain ⟨A, c, hv, h1, h2, _⟩ := h; exact ⟨A, c, hv, h1, h2⟩
theorem Ptrs.at_ {w : World} {A : Option Addr} {n c : Nat} {L : List (Nat × Nat)} (h : Ptrs w (.slice A n c) L) (i : Nat) (p : Nat × Nat) (hp : L[i]? = some p) : ∃ b o, A = some ⟨b, o, none⟩ ∧ w.cell? ⟨b, o + i * 2, none⟩ = some (.int .i64 (p.1 : Int)) ∧ w.cell? ⟨b, o + i * 2 + 1, none⟩ = some (.int .u32 (p.2 : Int)) := by
  obtain ⟨A', c', hv, h1, h2, h3⟩ := h
  simp only [Value.slice.injEq] at hv
  obtain ⟨rfl, rfl, rfl⟩ := hv
  have hi := (List.getElem?_eq_some_iff.1 hp).1
  obtain ⟨b, o, hA, hc⟩ := h3 (by omega)
  exact ⟨b, o, hA, hc i p hp⟩
def PtrOk (p : Nat × Nat) : Prop := p.1 ≤ 2147483647 ∧ p.2 < 4294967296 ∧ (p.1 = 0 → p.2 = 0)
set_option maxHeartbeats 2000000 in
theorem all_ok (v : Value) (L : List (Nat × Nat)) (w : World) (hP : Ptrs w v L) (hok : ∀ p ∈ L, PtrOk p) : Calls Tryd.prog 45 #[v] w fun e w' => e = .returned (.bool true) ∧ Kept w w' := by
  obtain ⟨A, c, rfl, hc1, hc2⟩ := hP.shape
  have HP := hid hP; have HOK := hid hok
  obtain ⟨n, hn⟩ : ∃ n, L.length = n := ⟨_, rfl⟩
  rw [hn] at HP hc1 ⊢
  have HN := hid hn
  clear hP hok hn
  go_enter Tryd.func45, Tryd.ntmps45
  go_wp2
  go_loopw [7] (fun t wr => ∃ i : Nat, i ≤ n ∧ t = .int .i64 i ∧ Kept w wr) (fun t _ => n - (intOf t).toNat)
  case atStart => exact ⟨0, by omega, rfl, Kept.refl _⟩
  case round =>
    obtain ⟨i, hi, rfl, hk⟩ := hrel
    have HK := hid hk
    by_cases hlt : i < n
    · obtain ⟨p, hp⟩ : ∃ p, L[i]? = some p := ⟨_, List.getElem?_eq_getElem (by rw [HN.out]; exact hlt)⟩
      obtain ⟨b, o, rfl, m0, m1⟩ := (hk.ptrs HP.out).at_ i p hp
      obtain ⟨p1, p2, p3⟩ := HOK.out p (List.mem_of_getElem? hp)
      clear hk hp
      obtain ⟨x, y⟩ := p
      dsimp only at m0 m1 p1 p2 p3
      have q0 : (0 : Int) ≤ (i : Int) := by omega
      have q1 : (i : Int) < (n : Int) := by omega
      have d1 : decide ((x : Int) < 0) = false := decide_eq_false (by omega)
      have d2 : decide ((2147483647 : Int) < (x : Int)) = false := decide_eq_false (by omega)
      by_cases hx : x = 0
      · obtain rfl := p3 hx
        subst hx
        go_wp2
        go_roundw
        case rel => exact ⟨i + 1, by omega, by go_num, HK.out.alloc _⟩
        case measure => simp [intOf]; omega
      · have d3 : ((x : Int) == 0) = false := by simp; omega
        clear hx
        go_wp2
        go_roundw
        case rel => exact ⟨i + 1, by omega, by go_num, HK.out.alloc _⟩
        case measure => simp [intOf]; omega
    · have hlt2 : ¬ (i : Int) < (n : Int) := by omega
      go_wp2
      go_ret
      exact ⟨rfl, HK.out⟩
theorem num_any (wd V : Nat) (h1 : wd ≤ 8) (h2 : V < 4294967296) (w : World) : Calls Tryd.prog 54 #[.int .i64 (wd : Int), .int .i64 (V : Int)] w fun e w' => e = .returned (.agg #[.int .i64 (wd : Int), .int .u64 (V : Int)]) ∧ Kept w w' := by
  have hz1 := wraps_u64 (V : Int) (by omega) (by omega)
  have hz2 : (V : Int) % 18446744073709551616 = (V : Int) := by omega
  go_enter Tryd.func54, Tryd.ntmps54
  go_wp2
  refine bodyPost_ret (v := .agg #[.int .i64 (wd : Int), .int .u64 (V : Int)]) (by simp [results, Tryd.results54, go_sem]) rfl ⟨rfl, (by repeat (first | exact Kept.refl _ | assumption | refine Kept.alloc ?_ _ | refine Kept.drew ?_ | refine Kept.drewN ?_ _ | refine Kept.setCell ?_ (by simp; try omega) _ | refine Kept.trans ?_ (by assumption)))⟩
def numsOf (L : List (Nat × Nat)) : List (Nat × Nat) := L.flatMap fun p => [(4, p.1), (4, p.2)]
def ncells : List (Nat × Nat) → List Value
  | [] => []
  | p :: r => [.int .i64 (p.1 : Int), .int .u64 (p.2 : Int)] ++ ncells r
theorem ncells_app (a b : List (Nat × Nat)) : ncells (a ++ b) = ncells a ++ ncells b := by
  induction a with
  | nil => rfl
  | cons p r ih => rw [List.cons_append, ncells, ncells, ih, List.append_assoc]
theorem ncells_len (l : List (Nat × Nat)) : (ncells l).length = l.length * 2 := by
  induction l with
  | nil => rfl
  | cons a r ih => rw [ncells, List.length_append, ih]; simp; omega
theorem ncells_at (l : List (Nat × Nat)) (k : Nat) (p : Nat × Nat) (h : l[k]? = some p) : (ncells l)[k * 2]? = some (.int .i64 (p.1 : Int)) ∧ (ncells l)[k * 2 + 1]? = some (.int .u64 (p.2 : Int)) := by
  induction l generalizing k with
  | nil => simp at h
  | cons q r ih =>
    rcases k with _ | k
    · simp only [List.getElem?_cons_zero, Option.some.injEq] at h
      subst h
      exact ⟨rfl, rfl⟩
    · rw [List.getElem?_cons_succ] at h
      obtain ⟨h1, h2⟩ := ih k h
      refine ⟨?_, ?_⟩
      · rw [ncells, show (k + 1) * 2 = k * 2 + 1 + 1 by omega]; exact h1
      · rw [ncells, show (k + 1) * 2 + 1 = k * 2 + 1 + 1 + 1 by omega]; exact h2
theorem nums_own {w : World} {base : Nat} {e : TypeId} {v : Value} {n : Nat} {l : List (Nat × Nat)} (h : w.ownsRow base e 2 v n (ncells l)) : Nums w v l := by
  have hl : l.length = n := by have := h.1; rw [ncells_len] at this; omega
  rcases h.2 with ⟨rfl, hn⟩ | ⟨g, cap, cur, rfl, hb, hg, hnc, hm, hs, hx⟩
  · exact ⟨none, 0, by rw [hl, hn], by omega, by omega, by omega⟩
  · refine ⟨_, cap, by rw [hl], by omega, by unfold maxLen at hm; omega, fun _ => ⟨g, 0, rfl, fun i p hp => ?_⟩⟩
    have hi := (List.getElem?_eq_some_iff.1 hp).1
    obtain ⟨e1, e2⟩ := ncells_at l i p hp
    rw [Nat.zero_add]
    exact ⟨(h.cellAt (g := g) (cap := cap) _ (by omega)).trans e1, (h.cellAt (g := g) (cap := cap) _ (by omega)).trans e2⟩
theorem info_num : (Tryd.prog.info? 56).map (fun i => (i.zero, i.size, i.bytes)) = some (some (.agg #[.int .i64 0, .int .u64 0]), 2, 16) := by kernel_rfl
theorem make_capN (N : Nat) (hN : N ≤ 1000) (w : World) : ∃ cur, cur.size = N * 2 ∧ (Instr.makeSlice 92 (.int .i64 0) (.int .i64 (N : Int))).run Tryd.prog w =
    .ok (.slice (some ⟨w.heap.size, 0, none⟩) 0 N) (w.alloc (.cells cur 56)) := by
  obtain ⟨i, hi, hz, hsize, hbytes⟩ := info_parts info_num
  have := run_makeSlice (P := Tryd.prog) w 92 56 i _ Tryd.underlying92 hi hz .i64 .i64 0 (N : Int) (by omega) (by omega) (by rw [hsize]; simp; omega) (by rw [hbytes]; omega) (by omega)
  refine ⟨madeCells (Value.agg #[.int .i64 0, .int .u64 0]).cells (N * 2), by rw [size_madeCells], ?_⟩
  rw [this, hsize]
  simp
theorem numsOf_snoc (L : List (Nat × Nat)) (p : Nat × Nat) : numsOf (L ++ [p]) = numsOf L ++ [(4, p.1), (4, p.2)] := by simp [numsOf]
theorem tyNP : 56 ≠ 103 := by decide
set_option maxRecDepth 100000 in
set_option maxHeartbeats 4000000 in
theorem numbers_any (v : Value) (L : List (Nat × Nat)) (w : World) (hL : L.length ≤ 100) (hP : Ptrs w v L) (hok : ∀ p ∈ L, PtrOk p) : Calls Tryd.prog 47 #[v] w fun e w' => ∃ v', e = .returned v' ∧ Nums w' v' (numsOf L) ∧ Kept w w' := by
  obtain ⟨A, c, rfl, hc1, hc2⟩ := hP.shape
  have HP := hid hP; have HOK := hid hok
  obtain ⟨n, hn⟩ : ∃ n, L.length = n := ⟨_, rfl⟩
  rw [hn] at HP hc1 hL ⊢
  have HN := hid hn
  obtain ⟨cur, hcs, hmk⟩ := make_capN (2 * n) (by omega) w
  have HCS := hid hcs
  have hmk2 : (Instr.makeSlice 92 (.int .i64 0) (.int .i64 (2 * (n : Int)))).run Tryd.prog w = .ok (.slice (some ⟨w.heap.size, 0, none⟩) 0 (2 * n)) (w.alloc (.cells cur 56)) := by
    rw [show (2 : Int) * (n : Int) = ((2 * n : Nat) : Int) by omega]; exact hmk
  have HNA := hid num_any
  obtain ⟨ii, hii, hzi, hsi, hbi⟩ := info_parts info_num
  clear hP hok hn hcs hmk
  go_enter Tryd.func47, Tryd.ntmps47
  go_wp2
  have HRO := hid (World.ownsRow_made (base := w.heap.size) (e := 56) (size := 2) w cur (2 * n) (Nat.le_refl _) (by unfold maxLen; omega) HCS.out)
  have HKA := hid ((Kept.refl w).alloc (.cells cur 56))
  clear hmk2 HCS
  generalize (w.alloc (.cells cur 56)) = wa at *
  go_loopw [12, 3] (fun t tv wr => ∃ (k : Nat) (v' : Value), k ≤ n ∧ t = .int .i64 k ∧ tv = v' ∧ wr.ownsRow w.heap.size 56 2 v' (2 * k) (ncells (numsOf (L.take k))) ∧ Kept w wr) (fun t _ _ => n - (intOf t).toNat)
  case atStart => exact ⟨0, _, by omega, rfl, rfl, HRO.out, HKA.out⟩
  case round =>
    obtain ⟨k, v', hk, rfl, rfl, hro, hkr⟩ := hrel
    have HR := hid hro; have HK := hid hkr
    by_cases hlt : k < n
    · obtain ⟨p, hp⟩ : ∃ p, L[k]? = some p := ⟨_, List.getElem?_eq_getElem (by rw [HN.out]; exact hlt)⟩
      obtain ⟨b, o, rfl, m0, m1⟩ := (hkr.ptrs HP.out).at_ k p hp
      obtain ⟨p1, p2, p3⟩ := HOK.out p (List.mem_of_getElem? hp)
      have HSN := hid (show ncells (numsOf (L.take (k + 1))) = ncells (numsOf (L.take k)) ++ ncells [(4, p.1), (4, p.2)] by rw [snoc_at L k p hp, numsOf_snoc, ncells_app])
      clear hkr hp hro HRO HKA
      obtain ⟨x, y⟩ := p
      dsimp only at m0 m1 p1 p2 HSN
      generalize ncells (numsOf (L.take k)) = cs0 at *
      have q0 : (0 : Int) ≤ (k : Int) := by omega
      have q1 : (k : Int) < (n : Int) := by omega
      have hy1 : IntKind.i64.wrap (y : Int) = (y : Int) := by rw [IntKind.wrap_i64]; omega
      have HN1 := hid (show ∀ w, Calls Tryd.prog 54 #[.int .i64 4, .int .i64 (x : Int)] w fun e w' => e = .returned (.agg #[.int .i64 4, .int .u64 (x : Int)]) ∧ Kept w w' from fun w => HNA.out 4 x (by omega) (by omega) w)
      have HN2 := hid (show ∀ w, Calls Tryd.prog 54 #[.int .i64 4, .int .i64 (y : Int)] w fun e w' => e = .returned (.agg #[.int .i64 4, .int .u64 (y : Int)]) ∧ Kept w w' from fun w => HNA.out 4 y (by omega) (by omega) w)
      have HCS := hid (rfl : ncells [(4, x), (4, y)] = [.int .i64 4, .int .u64 (x : Int), .int .i64 4, .int .u64 (y : Int)])
      clear HNA
      go_wp2_with fail
      have b0 : (wr.alloc (.cells #[.int .i64 (x : Int), .int .u32 (y : Int)] 103)).cell? ⟨wr.heap.size, 0, none⟩ = some (.int .i64 (x : Int)) := by simp [go_sem]
      have b1 : (wr.alloc (.cells #[.int .i64 (x : Int), .int .u32 (y : Int)] 103)).cell? ⟨wr.heap.size, 1, none⟩ = some (.int .u32 (y : Int)) := by simp [go_sem]
      have KB := hid ((Kept.refl wr).alloc (.cells #[.int .i64 (x : Int), .int .u32 (y : Int)] 103))
      have HCB := hid (show CB (wr.alloc (.cells #[.int .i64 (x : Int), .int .u32 (y : Int)] 103)) wr.heap.size 103 [.int .i64 (x : Int), .int .u32 (y : Int)] from heap_alloc_new wr _)
      generalize (wr.alloc (.cells #[.int .i64 (x : Int), .int .u32 (y : Int)] 103)) = wb at *
      refine wp_region_held_drew (S := fun w' => w'.cell? ⟨wr.heap.size, 0, none⟩ = some (.int .i64 (x : Int)) ∧ w'.cell? ⟨wr.heap.size, 1, none⟩ = some (.int .u32 (y : Int))) (by kernel_rfl) ⟨b0, b1⟩ (fun hHeld => ?_)
      refine wpAnyH_take (i := 0) (v := ?_) rfl (by kernel_rfl) (by kernel_rfl) (by kernel_rfl) (fun _ _ _ h => h) (Or.inl ⟨by rfl, ?_⟩) (by assumption) ?_
      rotate_left
      focus (intro w hSw; (try dsimp only at hSw); go_simp; first | done | with_reducible rfl)
      (try simp only [List.getElem_toArray, List.getElem_cons_zero, List.getElem_cons_succ, Act.put, List.setIfInBounds_toArray, List.set_cons_zero, List.set_cons_succ])
      refine wpAnyH_take (i := 1) (v := ?_) rfl (by kernel_rfl) (by kernel_rfl) (by kernel_rfl) (fun _ _ _ h => h) (Or.inl ⟨by rfl, ?_⟩) (by assumption) ?_
      rotate_left
      focus (intro w hSw; (try dsimp only at hSw); go_simp; first | done | with_reducible rfl)
      (try simp only [List.getElem_toArray, List.getElem_cons_zero, List.getElem_cons_succ, Act.put, List.setIfInBounds_toArray, List.set_cons_zero, List.set_cons_succ])
      refine wpAnyH_take (i := 2) (v := ?_) rfl (by kernel_rfl) (by kernel_rfl) (by kernel_rfl) (fun _ _ _ h => h) (Or.inl ⟨by rfl, ?_⟩) (by assumption) ?_
      rotate_left
      focus (intro w hSw; (try dsimp only at hSw); go_simp; first | done | with_reducible rfl)
      (try simp only [List.getElem_toArray, List.getElem_cons_zero, List.getElem_cons_succ, Act.put, List.setIfInBounds_toArray, List.set_cons_zero, List.set_cons_succ])
      refine wpAnyH_take (i := 4) (v := ?_) rfl (by kernel_rfl) (by kernel_rfl) (by kernel_rfl) (fun _ _ _ h => h) (Or.inl ⟨by rfl, ?_⟩) (by assumption) ?_
      rotate_left
      focus (intro w hSw; (try dsimp only at hSw); go_simp; first | done | with_reducible rfl)
      (try simp only [List.getElem_toArray, List.getElem_cons_zero, List.getElem_cons_succ, Act.put, List.setIfInBounds_toArray, List.set_cons_zero, List.set_cons_succ])
      refine wpAnyH_take (i := 5) (v := ?_) rfl (by kernel_rfl) (by kernel_rfl) (by kernel_rfl) (fun _ _ _ h => h) (Or.inl ⟨by rfl, ?_⟩) (by assumption) ?_
      rotate_left
      focus (intro w hSw; (try dsimp only at hSw); go_simp; first | done | with_reducible rfl)
      (try simp only [List.getElem_toArray, List.getElem_cons_zero, List.getElem_cons_succ, Act.put, List.setIfInBounds_toArray, List.set_cons_zero, List.set_cons_succ])
      refine wpAnyH_take (i := 6) (v := ?_) rfl (by kernel_rfl) (by kernel_rfl) (by kernel_rfl) (fun _ _ _ h => h) (Or.inl ⟨by rfl, ?_⟩) (by assumption) ?_
      rotate_left
      focus (intro w hSw; (try dsimp only at hSw); go_simp; first | done | with_reducible rfl)
      (try simp only [List.getElem_toArray, List.getElem_cons_zero, List.getElem_cons_succ, Act.put, List.setIfInBounds_toArray, List.set_cons_zero, List.set_cons_succ])
      refine wpAnyH_ready (rs := [3]) (by kernel_rfl) (by simp) ?_
      refine AllReadyH.cons rfl (fun K hK => ?_) AllReadyH.nil
      go_simp; go_at_call 54; (with_reducible refine (HN1.out _).mono ?_); rintro e w2 ⟨rfl, k2⟩
      have c0 := k2.keeps (b := wr.heap.size) (o := 0) (s := none) b0
      have c1 := k2.keeps (b := wr.heap.size) (o := 1) (s := none) b1
      refine hK.out _ _ (⟨c0, c1⟩) (fun hHeld => ?_)
      clear hK K
      (try simp only [List.getElem_toArray, List.getElem_cons_zero, List.getElem_cons_succ, Act.put, List.setIfInBounds_toArray, List.set_cons_zero, List.set_cons_succ])
      refine wpAnyH_ready (rs := [7]) (by kernel_rfl) (by simp) ?_
      refine AllReadyH.cons rfl (fun K hK => ?_) AllReadyH.nil
      go_simp; go_at_call 54; (with_reducible refine (HN2.out _).mono ?_); rintro e w3 ⟨rfl, k3⟩
      have d0 := k3.keeps c0
      have d1 := k3.keeps c1
      refine hK.out _ _ (⟨d0, d1⟩) (fun hHeld => ?_)
      clear hK K
      (try simp only [List.getElem_toArray, List.getElem_cons_zero, List.getElem_cons_succ, Act.put, List.setIfInBounds_toArray, List.set_cons_zero, List.set_cons_succ])
      refine wpAnyH_ready (rs := [8]) (by kernel_rfl) (by simp) ?_
      refine AllReadyH.cons rfl (fun K hK => ?_) AllReadyH.nil
      go_simp
      refine hK.out _ _ (⟨((Kept.refl w3).alloc _).keeps d0, ((Kept.refl w3).alloc _).keeps d1⟩) (fun hHeld => ?_)
      clear hK K
      (try simp only [List.getElem_toArray, List.getElem_cons_zero, List.getElem_cons_succ, Act.put, List.setIfInBounds_toArray, List.set_cons_zero, List.set_cons_succ])
      refine wpAnyH_ready (rs := [9]) (by kernel_rfl) (by simp) ?_
      refine AllReadyH.cons rfl (fun K hK => ?_) AllReadyH.nil
      have KA := hid ((KB.out.drew.trans k2).trans k3)
      have KW := hid (HK.out.trans KA.out)
      have HR3 := hid (KA.out.row HR.out)
      (refine step_append_lies (w := (w3.alloc (.cells #[.int .i64 4, .int .u64 (x : Int), .int .i64 4, .int .u64 (y : Int)] 56))) (by rfl) (.tmp 16) (.tmp 24) 92 (by rfl) w.heap.size 56 ii _ 2 16 Tryd.underlying92 hii hzi hsi hbi (by rfl) (by decide) _ (2 * k) cs0 (by rfl) (HR3.out.alloc _) ⟨w3.heap.size, 0, none⟩ 2 2 [.int .i64 4, .int .u64 (x : Int), .int .i64 4, .int .u64 (y : Int)] (by rfl) (by rfl) ?_ ?_ (by decide) ?_ ?_ ?_ (w3.heap.size + 1) (by simp) ?_; (focus exact World.news_of_block (heap_alloc_new w3 _)); (focus (simp [Value.oneCell'])); (focus (unfold maxLen; omega)); (focus omega); (focus (have := KW.out.size; simp; omega)))
      intro g cap w4 hown4 hgr4 hat4 hlt4
      have hcb := ((k3.cb (k2.cb HCB.out.drew)).grown HR3.out tyNP hgr4)
      have e0 := hcb.cell 0 (by simp)
      have e1 := hcb.cell 1 (by simp)
      simp only [List.getElem_cons_zero, List.getElem_cons_succ] at e0 e1
      refine hK.out _ _ (⟨e0, e1⟩) (fun hHeld => ?_)
      clear hK K
      (try simp only [List.getElem_toArray, List.getElem_cons_zero, List.getElem_cons_succ, Act.put, List.setIfInBounds_toArray, List.set_cons_zero, List.set_cons_succ])
      refine wpAnyH_take (i := 10) (v := ?_) rfl (by kernel_rfl) (by kernel_rfl) (by kernel_rfl) (fun _ _ _ h => h) (Or.inl ⟨by rfl, ?_⟩) (by assumption) ?_
      rotate_left
      focus (intro w hSw; (try dsimp only at hSw); go_simp; first | done | with_reducible rfl)
      (try simp only [List.getElem_toArray, List.getElem_cons_zero, List.getElem_cons_succ, Act.put, List.setIfInBounds_toArray, List.set_cons_zero, List.set_cons_succ])
      refine wpAnyH_done (by kernel_rfl) ?_ _
      go_wp2_with fail
      go_roundw
      case rel => exact ⟨k + 1, _, by omega, by go_num, rfl, by rw [HSN.out, show 2 * (k + 1) = 2 * k + 2 by omega]; exact hown4, (KW.out.alloc _).grown hgr4 (fun q hq => (HR3.out.lt q hq).1)⟩
      case measure => simp [intOf]; omega
    · have hall : L.take k = L := List.take_of_length_le (by rw [HN.out]; omega)
      have hke : k = n := by omega
      rw [hall] at HR
      have hlt2 : ¬ (k : Int) < (n : Int) := by omega
      go_wp2
      go_ret
      exact ⟨_, rfl, nums_own HR.out, HK.out⟩
theorem numsOf_len (L : List (Nat × Nat)) : (numsOf L).length = 2 * L.length := by
  induction L with
  | nil => rfl
  | cons p r ih => rw [show numsOf (p :: r) = [(4, p.1), (4, p.2)] ++ numsOf r from rfl, List.length_append, ih]; simp; omega
theorem numsOf_ok (L : List (Nat × Nat)) (h : ∀ p ∈ L, PtrOk p) : ∀ q ∈ numsOf L, NumOk q := by
  intro q hq
  obtain ⟨p, hp, hq⟩ := List.mem_flatMap.1 hq
  obtain ⟨h1, h2, -⟩ := h p hp
  simp only [List.mem_cons, List.not_mem_nil, or_false] at hq
  rcases hq with rfl | rfl
  · exact .inr ⟨rfl, by dsimp only; omega⟩
  · exact .inr ⟨rfl, h2⟩
theorem sumW_nums (L : List (Nat × Nat)) : sumW (numsOf L) = 8 * L.length := by
  rw [← packL_len]
  induction L with
  | nil => rfl
  | cons p r ih => rw [show packL (numsOf (p :: r)) = beW 4 p.1 ++ (beW 4 p.2 ++ packL (numsOf r)) by simp [numsOf, packL], List.length_append, List.length_append, beW_len, beW_len, ih, List.length_cons]; omega
def nodeB (L : List (Nat × Nat)) : List UInt8 := sealL (packL (numsOf L))
def NodePost (L : List (Nat × Nat)) (w : World) (e : Ending) (w' : World) : Prop := ∃ g, e = .returned (.tuple #[.slice (some ⟨g, 0, none⟩) 128 128, .int .i64 0]) ∧ OBlk w' g 5 (nodeB L) ∧ w.heap.size ≤ g ∧ Kept w w'
set_option maxHeartbeats 2000000 in
theorem seal_nums (v : Value) (L : List (Nat × Nat)) (w : World) (hL : L.length ≤ 15) (hT : HTab w) (hok : ∀ p ∈ L, PtrOk p) (hN : Nums w v (numsOf L)) : Calls Tryd.prog 46 #[v] w (NodePost L w) := by
  have HP := hid (pack_any v (numsOf L) w (by rw [numsOf_len]; omega) (numsOf_ok L hok) hN)
  have HPL := hid (show (packL (numsOf L)).length ≤ 124 by rw [packL_len, sumW_nums]; omega)
  have HS := hid (fun vb w' hb ht => seal_any vb (packL (numsOf L)) w' HPL.out ht hb)
  have HT := hid hT
  clear hT hok hN
  go_enter Tryd.func46, Tryd.ntmps46
  go_wp2_with (first
    | (go_at_call 20; refine HP.out.mono ?_; rintro e w1 ⟨vb, rfl, hb, k1⟩; have HB := hid hb; have K1 := hid k1; clear hb k1)
    | (go_at_call 53; refine (HS.out _ _ HB.out (K1.out.htab HT.out)).mono ?_; rintro e w2 ⟨g, rfl, ob, hg, k2⟩; have OB := hid ob; have K2 := hid (K1.out.trans k2); have HG := hid (Nat.le_trans K1.out.size hg); clear ob hg k2))
  go_ret2
  exact ⟨_, rfl, OB.out, HG.out, K2.out⟩
set_option maxHeartbeats 2000000 in
theorem inode_node (v : Value) (L : List (Nat × Nat)) (w : World) (hL : L.length = 15) (hT : HTab w) (hok : ∀ p ∈ L, PtrOk p) (hP : Ptrs w v L) : Calls Tryd.prog 29 #[v] w (NodePost L w) := by
  obtain ⟨A, c, rfl, hc1, hc2⟩ := hP.shape
  have HA := hid (all_ok _ L w hP hok)
  have HN := hid (fun w' hp => numbers_any (.slice A L.length c) L w' (by omega) hp hok)
  have HS := hid (fun v' w' ht hn => seal_nums v' L w' (by omega) ht hok hn)
  have HT := hid hT; have HP := hid hP
  rw [hL] at HA HN HP hc1 ⊢
  clear hT hok hP hL
  go_enter Tryd.func29, Tryd.ntmps29
  go_wp2_with (first
    | (go_at_call 45; refine HA.out.mono ?_; rintro e w1 ⟨rfl, k1⟩; have K1 := hid k1; clear k1)
    | (go_at_call 47; refine (HN.out _ (K1.out.ptrs HP.out)).mono ?_; rintro e w2 ⟨v2, rfl, hn2, k2⟩; have N2 := hid hn2; have K2 := hid (K1.out.trans k2); clear hn2 k2)
    | (go_at_call 46; refine (HS.out _ _ (K2.out.htab HT.out) N2.out).mono ?_; rintro e w3 ⟨g, rfl, ob, hg, k3⟩; have OB := hid ob; have K3 := hid (K2.out.trans k3); have HG := hid (Nat.le_trans K2.out.size hg); clear ob hg k3))
  go_ret2
  exact ⟨_, rfl, OB.out, HG.out, K3.out⟩
end Go.Proofs.YtiiogglflpladaaDoor
