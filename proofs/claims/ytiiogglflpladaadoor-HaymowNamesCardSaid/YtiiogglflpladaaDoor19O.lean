/- sparse.Write: octets that are written. -/
import Derived.Test.YtiiogglflpladaaDoor19L
namespace Go.Proofs.YtiiogglflpladaaDoor
set_option linter.unusedSimpArgs false
set_option linter.unusedVariables false
open Go.RowKit

theorem runL_succ (a : Int) (k : Nat) : runL a (k + 1) = runL a k ++ [a + (k : Int)] := by simp [runL, List.range_succ]
theorem midL_succ (L : List Pc) (off : Int) (b : List UInt8) (a : Int) (k : Nat) : midL L off b a (k + 1) = midL L off b a k ++ [mkP L off b (a + (k : Int))] := by rw [midL, runL_succ, List.map_append]; rfl
theorem runL_len (a : Int) (k : Nat) : (runL a k).length = k := by simp [runL]
theorem midL_len (L : List Pc) (off : Int) (b : List UInt8) (a : Int) (k : Nat) : (midL L off b a k).length = k := by simp [midL, runL]
set_option maxRecDepth 100000 in
set_option maxHeartbeats 4000000 in
theorem write_some (f : Fl) (of : Nat) (b : List UInt8) (v vb : Value) (w : World) (h : Sp w v f) (hb : Byts w vb b) (hv : Valid f) (hbl : 0 < b.length) (hfit : of + b.length ≤ 463488) : Calls Tryd.prog 8 #[v, .int .i64 (of : Int), vb] w (WrPost f of b w) := by
  have HM := hid (fun (w' : World) (k : Kept w w') => may_any f v w' (k.sp h))
  rw [mayB_t hv] at HM
  have HFX := hid (fun (x : Int) (w' : World) (k : Kept w w') => find_any f v x w' (k.sp h) hv.ord (by have := hv.len; omega))
  obtain ⟨vl, rfl, hP⟩ := h
  obtain ⟨A, c, rfl⟩ := hP.shape
  obtain ⟨A', c', rfl⟩ := hb.shape
  obtain ⟨-, hb1, hb2, -, -⟩ := hb.open_
  obtain ⟨-, hp1, hp2, -, -⟩ := hP.open_
  obtain ⟨s, L⟩ := f
  dsimp only at *
  have hs0 := hv.s0; have hs1 := hv.s1
  dsimp only at hs0 hs1
  have HCL := hid (fun (M : List Pc) (u : Value) (w' : World) (hM : Pcs w' u M) (hsub : ∀ p ∈ M, p ∈ L) (hl : M.length ≤ 100000) => clones_any M u w' hM hl (fun p hp => (hv.pc p (hsub p hp)).2.2.1))
  have HBO := hid (fun (x : Int) (w' : World) (k : Kept w w') => block_old s L A L.length c x w' (k.pcs hP) hv.ord (by have := hv.len; dsimp only at this; omega))
  have hne : b ≠ [] := fun e => by rw [e] at hbl; cases hbl
  have HV := hid hv
  obtain ⟨fd, hfd⟩ : ∃ fd : Int, (of : Int) / 128 = fd := ⟨_, rfl⟩
  obtain ⟨ld, hld⟩ : ∃ ld : Int, ((of : Int) + (b.length : Int) - 1) / 128 = ld := ⟨_, rfl⟩
  obtain ⟨N, hN⟩ : ∃ N : Nat, ld - fd + 1 = (N : Int) := ⟨(ld - fd + 1).toNat, by omega⟩
  have HPO := hid (show ∀ w' u u2, Kept w w' → OPc w' w.heap.size u (ltL L fd ++ midL L of b fd N ++ geL L (ld + 1)) → Ints w' u2 (runL fd N) → WrPost ⟨s, L⟩ of b w (.returned (.tuple #[.agg #[.int .i64 (max s ((of : Int) + (b.length : Int))), u], u2, .int .i64 0])) w' from fun w' u u2 hk hu hi =>
    ⟨hk, fun h => (by
      rcases h with h | h
      · rw [mayB_t HV.out] at h; cases h
      · omega), fun _ _ h => (by omega), fun _ _ _ => ⟨_, _, by rw [wr_size _ _ _ hne], by
        rw [wrF, if_neg hne]
        dsimp only
        rw [hfd, hld, show (ld - fd + 1).toNat = N by omega]
        exact hu, by rw [wrL, if_neg hne, hfd, hld, show (ld - fd + 1).toNat = N by omega]; exact hi⟩⟩)
  have hrle := lt_le L fd
  have hrle2 := lt_le L (ld + 1)
  have HSP := hid (split_lt hv.ord fd)
  have HSP2 := hid (split_lt hv.ord (ld + 1))
  dsimp only at HSP HSP2
  have HSIZ := hid (show L.length ≤ 3621 from hv.len)
  have HPD := hid (show Pcs w (.slice (restA A c (ltL L (ld + 1)).length 2) (L.length - (ltL L (ld + 1)).length) (c - (ltL L (ld + 1)).length)) (geL L (ld + 1)) from by have h := hP.drop _ hrle2; rw [HSP2.out.2] at h; exact h)
  have HPT := hid (show Pcs w (.slice A (ltL L fd).length c) (ltL L fd) from by have h := hP.take _ hrle; rw [HSP.out.1] at h; exact h)
  have hcut := pcs_cutTo (A := A) (c := c) _ hrle hp1
  have hcut2 := pcs_cut (A := A) (c := c) _ hrle2
  have HF1 := hid (HFX.out fd); have HF2 := hid (HFX.out (ld + 1))
  have HBY := hid hb
  have HLL := hid (show (ltL L fd).length ≤ 3621 from by have := HSIZ.out; omega)
  have HGL := hid (show (geL L (ld + 1)).length ≤ 3621 from by have := HSIZ.out; have := List.length_filter_le (fun p : Pc => decide (ld + 1 ≤ p.n)) L; exact Nat.le_trans this HSIZ.out)
  generalize hm : L.length = m at *
  generalize (ltL L fd).length = r at *
  generalize (ltL L (ld + 1)).length = r2 at *
  generalize restA A c r2 2 = A2 at *
  generalize m - r2 = m2 at *
  generalize c - r2 = c2 at *
  obtain ⟨bl, hbl2⟩ : ∃ bl, b.length = bl := ⟨_, rfl⟩
  rw [hbl2] at hbl hfit hb1 hld HPO HBY ⊢
  have HBL := hid hbl2
  clear hP hb hv hne HFX hm hbl2
  have HFD := hid hfd; have HLD := hid hld; have HN := hid hN
  have i1 : decide ((of : Int) < 0) = false := by simp
  have i2 : decide (463488 < (bl : Int)) = false := by simp; omega
  have i3 : decide (463488 - (bl : Int) < (of : Int)) = false := by simp; omega
  have i4 : ((bl : Int) == 0) = false := by simp; omega
  have i0 : (0 : Int) ≤ (of : Int) := by omega
  have i5 : (of : Int) + (bl : Int) ≤ 463488 := by omega
  have i6 : (1 : Int) ≤ (bl : Int) := by omega
  have i7 : Int.tdiv (of : Int) 128 = fd := by rw [← hfd]; exact Int.tdiv_eq_ediv_of_nonneg (by omega)
  have i8 : Int.tdiv ((of : Int) + (bl : Int) - 1) 128 = ld := by rw [← hld]; exact Int.tdiv_eq_ediv_of_nonneg (by omega)
  have i9 : IntKind.i64.wrap fd = fd := IntWalk.i64_in _ (by omega)
  have i10 : IntKind.i64.wrap ld = ld := IntWalk.i64_in _ (by omega)
  have j0 : 0 ≤ fd ∧ fd ≤ ld ∧ ld ≤ 3621 := by omega
  have HC1 := hid (fun (u : Value) (w' : World) (hM : Pcs w' u (ltL L fd)) => HCL.out (ltL L fd) u w' hM (fun p hp => (List.mem_filter.1 hp).1) (by have h1 := HSP.out.1; have h2 := HLL.out; have h3 := congrArg List.length h1; rw [List.length_take] at h3; omega))
  have HC2 := hid (fun (u : Value) (w' : World) (hM : Pcs w' u (geL L (ld + 1))) => HCL.out (geL L (ld + 1)) u w' hM (fun p hp => (List.mem_filter.1 hp).1) (by have := HGL.out; omega))
  go_enter Tryd.func8, Tryd.ntmps8
  go_wp2_with (
    (go_at_call 22; (with_reducible refine (HM.out _ ?_).mono ?_); exact (by repeat (first | exact Kept.refl _ | assumption | refine Kept.alloc ?_ _ | refine Kept.drew ?_ | refine Kept.drewN ?_ _ | refine Kept.setCell ?_ (by simp; try omega) _ | refine Kept.trans ?_ (by assumption))); rintro e w1 ⟨rfl, k1⟩; have d0 := k1.keeps (b := w.heap.size) (o := 0) (s := none) (v := .int .i64 s) (by simp [go_sem]); have d1 := k1.keeps (b := w.heap.size) (o := 1) (s := none) (v := .slice A m c) (by simp [go_sem]); have r0 := k1.keeps (b := w.heap.size + 1) (o := 0) (s := none) (v := .int .i64 0) (by simp [go_sem]); have r1 := k1.keeps (b := w.heap.size + 1) (o := 1) (s := none) (v := .slice none 0 0) (by simp [go_sem]); have q0 := k1.free (b := w.heap.size + 1) (o := 0) (s := none) (v := .int .i64 0) (by simp [go_sem]) (by simp [go_sem]); have q1 := k1.free (b := w.heap.size + 1) (o := 1) (s := none) (v := .slice none 0 0) (by simp [go_sem]) (by simp [go_sem]))
    )
  have hlt : w.heap.size + 1 < w1.heap.size := cell_lt r0
  have K1 := hid (show Kept w w1 from (by repeat (first | exact Kept.refl _ | assumption | refine Kept.alloc ?_ _ | refine Kept.drew ?_ | refine Kept.drewN ?_ _ | refine Kept.setCell ?_ (by simp; try omega) _ | refine Kept.trans ?_ (by assumption))))
  have D0 := hid d0; have D1 := hid d1; have R0 := hid r0; have R1 := hid r1; have Q0 := hid q0; have Q1 := hid q1
  clear k1 r0 r1 q0 q1
  go_region_held3 (fun w' => w'.cell? ⟨w.heap.size, 0, none⟩ = some (.int .i64 s) ∧ w'.cell? ⟨w.heap.size, 1, none⟩ = some (.slice A m c))
    (first | exact ⟨d0, d1⟩ | exact ⟨by assumption, by assumption⟩ | (go_split_ands; exact ⟨by assumption, by assumption⟩))
    (first
    | (go_at_call 24; (with_reducible refine (HF1.out _ ?_).mono ?_); (focus exact K1.out.drew); rintro e w2 ⟨rfl, k2⟩; have f0 := k2.keeps (b := w.heap.size) (o := 0) (s := none) d0; have f1 := k2.keeps (b := w.heap.size) (o := 1) (s := none) d1; have K2 := hid ((Kept.refl w1).drew.trans k2); clear k2)
    | (go_at_call 23; (with_reducible refine (HC1.out _ _ ?_).mono ?_); (focus exact (K1.out.trans K2.out).pcs HPT.out); rintro e w3 ⟨u, a, rfl, hown, hmap, k3, -⟩; have g0 := k3.keeps f0; have g1 := k3.keeps f1; have K3 := hid (K2.out.trans k3); have HOW := hid (hown.low K2.out.size); have HMAP := hid hmap; clear k3 hown hmap))
  go_wp2_with fail
  have hol := HOW.out.row
  clear f0 f1 g0 g1 d0 d1 hcut i1 i2 i3 i4 i7 i8 hol
  go_loopw [11, 12, 13] (fun tl tw tn wr => ∃ (k : Nat) (a : List (Pc × Nat)), k ≤ N ∧ tn = .int .i64 (fd + (k : Int)) ∧ Own wr w1.heap.size tl a ∧ a.map (·.1) = ltL L fd ++ midL L of b fd k ∧ wr.ownsRow w1.heap.size 3 1 tw k ((runL fd k).map (Value.int .i64)) ∧ Kept w1 wr) (fun _ _ t _ => (ld + 1 - intOf t).toNat)
  case atStart => exact ⟨0, a, by omega, by simp, HOW.out, by rw [HMAP.out]; simp [midL, runL], ⟨rfl, .inl ⟨rfl, rfl⟩⟩, K3.out⟩
  case round =>
    obtain ⟨k, a, hk, rfl, how, hmap, hrow, hkw⟩ := hrel
    have HOW := hid how; have HMAP := hid hmap; have HROW := hid hrow; have HK := hid hkw
    have HAL := hid (show a.length ≤ 3621 + k from by
      have h1 := congrArg List.length hmap
      rw [List.length_map, List.length_append, midL_len] at h1
      have h2 := congrArg List.length HSP.out.1
      rw [List.length_take] at h2
      have := HLL.out
      omega)
    clear how hmap hrow hkw
    obtain ⟨x, hx⟩ : ∃ x, fd + (k : Int) = x := ⟨_, rfl⟩
    rw [hx]
    by_cases hlt2 : x ≤ ld
    · have HX := hid hx
      obtain ⟨st, hst⟩ : ∃ st, x * 128 = st := ⟨_, rfl⟩
      obtain ⟨a1, ha1⟩ : ∃ a1, (of : Int) - st = a1 := ⟨_, rfl⟩
      obtain ⟨a2, ha2⟩ : ∃ a2, st - (of : Int) = a2 := ⟨_, rfl⟩
      obtain ⟨x1, hx1⟩ : ∃ x1 : Nat, max a1 0 = (x1 : Int) := ⟨(max a1 0).toNat, by omega⟩
      obtain ⟨y1, hy1⟩ : ∃ y1 : Nat, max a2 0 = (y1 : Int) := ⟨(max a2 0).toNat, by omega⟩
      have hwa1 : IntKind.i64.wrap a1 = a1 := IntWalk.i64_in _ (by omega)
      have hwa2 : IntKind.i64.wrap a2 = a2 := IntWalk.i64_in _ (by omega)
      have hxl : x1 < 128 := by omega
      have hyl : y1 ≤ bl := by omega
      have xb : 0 ≤ x ∧ x ≤ 3621 := by omega
      have hkn : k < N := by omega
      have hcx := fun g => own_cut (g := g) (N := 128) x1 (.inl hxl)
      have hcy := byts_cut (A := A') (n := bl) (c := c') y1 hyl
      have HBD := hid (HBY.out.drop y1 hyl)
      have HMK := hid (show over (pad (oldL L x)) x1 ((b.drop y1).take (128 - x1)) = mkB (oldL L x) (x * 128) of b by
        rw [mkB, hst, ha1, ha2, hx1, hy1, Int.toNat_natCast, Int.toNat_natCast])
      generalize restA A' c' y1 1 = A4 at *
      generalize hbm : bl - y1 = bm at *
      generalize c' - y1 = c4 at *
      have HXL := hid hxl; have HST := hid hst; have HKN := hid hkn
      clear hx hxl hyl hkn hbm
      have HBX := hid (HBO.out x)
      have d0 := HK.out.keeps D0.out; have d1 := HK.out.keeps D1.out
      go_wp2_with (first
        | (go_at_call 25; (with_reducible refine (HBX.out _ ?_).mono ?_); (focus exact K1.out.trans HK.out); rintro e w4 ⟨v4, rfl, k4, hb4⟩; obtain ⟨A5, c5, rfl⟩ := hb4.shape; have HB4 := hid hb4; have K4 := hid k4; clear hb4 k4)
        | (go_at_call 26; (with_reducible refine (clone_any _ _ (oldL L x) _ ?_).mono ?_); (focus exact HB4.out); rintro e w5 ⟨g, rfl, ob5, hg5, k5⟩; have OB5 := hid ob5; have HG5 := hid hg5; have K5 := hid (K4.out.trans k5); clear ob5 hg5 k5))
      have hbx0 : (w5.alloc (.cells #[.int .i64 x, .slice (some ⟨g, 0, none⟩) 128 128] 64)).cell? ⟨w5.heap.size, 0, none⟩ = some (.int .i64 x) := by simp [go_sem]
      have hbx2 : (w5.alloc (.cells #[.int .i64 x, .slice (some ⟨g, 0, none⟩) 128 128] 64)).cell? ⟨w5.heap.size, 1, none⟩ = some (.slice (some ⟨g, 0, none⟩) 128 128) := by simp [go_sem]
      have OB6 := hid (((Kept.refl w5).alloc (.cells #[.int .i64 x, .slice (some ⟨g, 0, none⟩) 128 128] 64)).oblk OB5.out)
      have HWB := hid (K5.out.trans ((Kept.refl w5).alloc (.cells #[.int .i64 x, .slice (some ⟨g, 0, none⟩) 128 128] 64)))
      have hgne : w5.heap.size ≠ g := by have := OB5.out.lt; omega
      have hgw : wr.heap.size ≤ g := Nat.le_trans K4.out.size HG5.out
      have HNE := hid (show ∀ p ∈ a, p.2 ≠ g from fun p hp => by have := (HOW.out.blk p hp).2.2.lt; omega)
      generalize (w5.alloc (.cells #[.int .i64 x, .slice (some ⟨g, 0, none⟩) 128 128] 64)) = wb at *
      have HOWB := hid (HWB.out.own HOW.out); have HROB := hid (HWB.out.row HROW.out)
      have hg1 : w1.heap.size ≤ g := Nat.le_trans HK.out.size hgw
      refine wp_region_held_drew (S := fun w' => w'.cell? ⟨w5.heap.size, 1, none⟩ = some (.slice (some ⟨g, 0, none⟩) 128 128)) (by kernel_rfl) hbx2 (fun hHeld => ?_)
      refine wpAnyH_take (i := 0) (v := ?_) rfl (by kernel_rfl) (by kernel_rfl) (by kernel_rfl) (fun _ _ _ h => h) (Or.inl ⟨by rfl, ?_⟩) (by assumption) ?_
      rotate_left
      focus (intro w hSw; (try dsimp only at hSw); go_simp; first | done | with_reducible rfl)
      (try simp only [List.getElem_toArray, List.getElem_cons_zero, List.getElem_cons_succ, Act.put, List.setIfInBounds_toArray, List.set_cons_zero, List.set_cons_succ])
      refine wpAnyH_take (i := 1) (v := ?_) rfl (by kernel_rfl) (by kernel_rfl) (by kernel_rfl) (fun _ _ _ h => h) (Or.inl ⟨by rfl, ?_⟩) (by assumption) ?_
      rotate_left
      focus (intro w hSw; (try dsimp only at hSw); go_simp; first | done | with_reducible rfl)
      (try simp only [List.getElem_toArray, List.getElem_cons_zero, List.getElem_cons_succ, Act.put, List.setIfInBounds_toArray, List.set_cons_zero, List.set_cons_succ])
      refine wpAnyH_take (i := 2) (v := ?_) rfl (by kernel_rfl) (by kernel_rfl) (by kernel_rfl) (fun _ _ _ h => h) (Or.inl ⟨by rfl, ?_⟩) (by assumption) ?_
      rotate_left
      focus (intro w hSw; (try dsimp only at hSw); go_simp; first | done | with_reducible rfl)
      (try simp only [List.getElem_toArray, List.getElem_cons_zero, List.getElem_cons_succ, Act.put, List.setIfInBounds_toArray, List.set_cons_zero, List.set_cons_succ])
      refine wpAnyH_take (i := 3) (v := ?_) rfl (by kernel_rfl) (by kernel_rfl) (by kernel_rfl) (fun _ _ _ h => h) (Or.inl ⟨by rfl, ?_⟩) (by assumption) ?_
      rotate_left
      focus (intro w hSw; (try dsimp only at hSw); go_simp; first | done | with_reducible rfl)
      (try simp only [List.getElem_toArray, List.getElem_cons_zero, List.getElem_cons_succ, Act.put, List.setIfInBounds_toArray, List.set_cons_zero, List.set_cons_succ])
      refine wpAnyH_take (i := 4) (v := ?_) rfl (by kernel_rfl) (by kernel_rfl) (by kernel_rfl) (fun _ _ _ h => h) (Or.inl ⟨by rfl, ?_⟩) (by assumption) ?_
      rotate_left
      focus (intro w hSw; (try dsimp only at hSw); go_simp; first | done | with_reducible rfl)
      (try simp only [List.getElem_toArray, List.getElem_cons_zero, List.getElem_cons_succ, Act.put, List.setIfInBounds_toArray, List.set_cons_zero, List.set_cons_succ])
      refine wpAnyH_take (i := 5) (v := ?_) rfl (by kernel_rfl) (by kernel_rfl) (by kernel_rfl) (fun _ _ _ h => h) (Or.inl ⟨by rfl, ?_⟩) (by assumption) ?_
      rotate_left
      focus (intro w hSw; (try dsimp only at hSw); go_simp; first | done | with_reducible rfl)
      (try simp only [List.getElem_toArray, List.getElem_cons_zero, List.getElem_cons_succ, Act.put, List.setIfInBounds_toArray, List.set_cons_zero, List.set_cons_succ])
      refine wpAnyH_take (i := 6) (v := ?_) rfl (by kernel_rfl) (by kernel_rfl) (by kernel_rfl) (fun _ _ _ h => h) (Or.inl ⟨by rfl, ?_⟩) (by assumption) ?_
      rotate_left
      focus (intro w hSw; (try dsimp only at hSw); go_simp; first | done | with_reducible rfl)
      (try simp only [List.getElem_toArray, List.getElem_cons_zero, List.getElem_cons_succ, Act.put, List.setIfInBounds_toArray, List.set_cons_zero, List.set_cons_succ])
      refine wpAnyH_take (i := 7) (v := ?_) rfl (by kernel_rfl) (by kernel_rfl) (by kernel_rfl) (fun _ _ _ h => h) (Or.inl ⟨by rfl, ?_⟩) (by assumption) ?_
      rotate_left
      focus (intro w hSw; (try dsimp only at hSw); go_simp; first | done | with_reducible rfl)
      (try simp only [List.getElem_toArray, List.getElem_cons_zero, List.getElem_cons_succ, Act.put, List.setIfInBounds_toArray, List.set_cons_zero, List.set_cons_succ])
      refine wpAnyH_take (i := 8) (v := ?_) rfl (by kernel_rfl) (by kernel_rfl) (by kernel_rfl) (fun _ _ _ h => h) (Or.inl ⟨by rfl, ?_⟩) (by assumption) ?_
      rotate_left
      focus (intro w hSw; (try dsimp only at hSw); go_simp; first | done | with_reducible rfl)
      (try simp only [List.getElem_toArray, List.getElem_cons_zero, List.getElem_cons_succ, Act.put, List.setIfInBounds_toArray, List.set_cons_zero, List.set_cons_succ])
      refine wpAnyH_take (i := 9) (v := ?_) rfl (by kernel_rfl) (by kernel_rfl) (by kernel_rfl) (fun _ _ _ h => h) (Or.inl ⟨by rfl, ?_⟩) (by assumption) ?_
      rotate_left
      focus (intro w hSw; (try dsimp only at hSw); go_simp; first | done | with_reducible rfl)
      (try simp only [List.getElem_toArray, List.getElem_cons_zero, List.getElem_cons_succ, Act.put, List.setIfInBounds_toArray, List.set_cons_zero, List.set_cons_succ])
      refine wpAnyH_take (i := 10) (v := ?_) rfl (by kernel_rfl) (by kernel_rfl) (by kernel_rfl) (fun _ _ _ h => h) (Or.inl ⟨by rfl, ?_⟩) (by assumption) ?_
      rotate_left
      focus (intro w hSw; (try dsimp only at hSw); go_simp; first | done | with_reducible rfl)
      (try simp only [List.getElem_toArray, List.getElem_cons_zero, List.getElem_cons_succ, Act.put, List.setIfInBounds_toArray, List.set_cons_zero, List.set_cons_succ])
      refine wpAnyH_take (i := 11) (v := ?_) rfl (by kernel_rfl) (by kernel_rfl) (by kernel_rfl) (fun _ _ _ h => h) (Or.inl ⟨by rfl, ?_⟩) (by assumption) ?_
      rotate_left
      focus (intro w hSw; (try dsimp only at hSw); go_simp; first | done | with_reducible rfl)
      (try simp only [List.getElem_toArray, List.getElem_cons_zero, List.getElem_cons_succ, Act.put, List.setIfInBounds_toArray, List.set_cons_zero, List.set_cons_succ])
      refine wpAnyH_take (i := 12) (v := ?_) rfl (by kernel_rfl) (by kernel_rfl) (by kernel_rfl) (fun _ _ _ h => h) (Or.inl ⟨by rfl, ?_⟩) (by assumption) ?_
      rotate_left
      focus (intro w hSw; (try dsimp only at hSw); go_simp; first | done | with_reducible rfl)
      (try simp only [List.getElem_toArray, List.getElem_cons_zero, List.getElem_cons_succ, Act.put, List.setIfInBounds_toArray, List.set_cons_zero, List.set_cons_succ])
      refine wpAnyH_ready (rs := [13]) (by kernel_rfl) (by simp) ?_
      refine AllReadyH.cons rfl (fun K hK => ?_) AllReadyH.nil
      refine step_copyB rfl (.tmp 85) (.tmp 91) rfl g x1 (128 - x1) (128 - x1) bm c4 A4 (pad (oldL L x)) (b.drop y1) (by rfl) (by rfl) (CB.drew OB6.out) (by rw [pad_len]; have := HXL.out; omega) (Kept.byts (K1.out.trans (HK.out.trans HWB.out.drew)) HBD.out) ?_
      intro w6 z6 ob6 bt6
      refine hK.out _ _ (bt6.keeps (show wb.drew.cell? _ = _ from hbx2) hgne) (fun hHeld => ?_)
      clear hK K
      (try simp only [List.getElem_toArray, List.getElem_cons_zero, List.getElem_cons_succ, Act.put, List.setIfInBounds_toArray, List.set_cons_zero, List.set_cons_succ])
      refine wpAnyH_done (by kernel_rfl) ?_ _
      rw [HMK.out] at ob6
      have c0 := bt6.keeps (show wb.drew.cell? _ = _ from hbx0) hgne
      have c1 := bt6.keeps (show wb.drew.cell? _ = _ from hbx2) hgne
      have HOW6 := hid (Own.but (show Own wb.drew _ _ _ from (Kept.refl wb).drew.own HOWB.out) (CB.drew OB6.out) HNE.out bt6)
      have HRO6 := hid (row_but ((Kept.refl wb).drew.row HROB.out) (CB.drew OB6.out) tyIU bt6)
      have K6 := hid (Kept.turned (HK.out.trans HWB.out.drew) bt6 hg1)
      have OB7 := hid ob6
      clear hbx0 hbx2 ob6 bt6 HOWB HROB OB6
      go_wp2_with (first
        | (at_builtin; refine wpList_pushG (W := w1) (cs := [.int .i64 x, .slice (some ⟨g, 0, none⟩) 128 128]) rfl (.tmp 93) (.tmp 95) 24 rfl 64 _ 2 32 Tryd.underlying24 info_piece rfl (by decide) (by decide) _ a.length _ _ _ rfl HOW6.out.row rfl rfl rfl (by simp [Value.oneCell']) (by have := HAL.out; have := HKN.out; omega) K6.out ?_; intro v7 w7 hown7 hk7 hg7; have HOW7 := hid (Own.grown (q := (mkP L of b x, g)) HOW6.out ⟨hg1, by rw [mkP]; dsimp only; exact mkB_len _ _ _ _ (by have := HST.out; have := HXL.out; omega), OB7.out⟩ _ hown7 hg7); have HRO7 := hid (row_far (((Kept.refl w6).alloc _).row HRO6.out) (((Kept.refl w6).alloc _).row HOW6.out.row) (fun e => tyPI e.symm) hg7); have K7 := hid hk7; clear hown7 hk7 hg7)
        | (at_builtin; refine wpList_pushG (W := w1) (cs := [.int .i64 x]) rfl (.tmp 97) (.tmp 99) 36 rfl 3 _ 1 8 Tryd.underlying36 info_int rfl (by decide) (by decide) _ k _ _ _ rfl HRO7.out rfl rfl rfl (by simp [Value.oneCell']) (by have := HKN.out; omega) K7.out ?_; intro v8 w8 hown8 hk8 hg8; have HOW8 := hid (Own.grownI (((Kept.refl w7).alloc _).own HOW7.out) (((Kept.refl w7).alloc _).row HRO7.out) hg8); have HRO8 := hid hown8; have K8 := hid hk8; clear hown8 hk8 hg8))
      go_roundw
      case rel => exact ⟨k + 1, a ++ [(mkP L of b x, g)], by have := HKN.out; omega, congrArg (Value.int .i64) (by have := HX.out; omega), HOW8.out, by rw [List.map_append, HMAP.out, midL_succ, HX.out, List.append_assoc]; rfl, by rw [runL_succ, List.map_append, HX.out]; exact HRO8.out, K8.out⟩
      case measure => simp [intOf]; omega
    · have hkn : k = N := by omega
      subst hkn
      have hwl : IntKind.i64.wrap (ld + 1) = ld + 1 := IntWalk.i64_in _ (by omega)
      have d0 := HK.out.keeps D0.out; have d1 := HK.out.keeps D1.out
      clear hx
      go_wp2_with fail
      refine wp_region_held_drew (S := fun w' => w'.cell? ⟨w.heap.size, 0, none⟩ = some (.int .i64 s) ∧ w'.cell? ⟨w.heap.size, 1, none⟩ = some (.slice A m c)) (by kernel_rfl) ⟨d0, d1⟩ (fun hHeld => ?_)
      refine wpAnyH_take (i := 0) (v := ?_) rfl (by kernel_rfl) (by kernel_rfl) (by kernel_rfl) (fun _ _ _ h => h) (Or.inl ⟨by rfl, ?_⟩) (by assumption) ?_
      rotate_left
      focus (intro w hSw; (try dsimp only at hSw); go_simp; first | done | with_reducible rfl)
      (try simp only [List.getElem_toArray, List.getElem_cons_zero, List.getElem_cons_succ, Act.put, List.setIfInBounds_toArray, List.set_cons_zero, List.set_cons_succ])
      refine wpAnyH_take (i := 1) (v := ?_) rfl (by kernel_rfl) (by kernel_rfl) (by kernel_rfl) (fun _ _ _ h => h) (Or.inl ⟨by rfl, ?_⟩) (by assumption) ?_
      rotate_left
      focus (intro w hSw; (try dsimp only at hSw); go_simp; first | done | with_reducible rfl)
      (try simp only [List.getElem_toArray, List.getElem_cons_zero, List.getElem_cons_succ, Act.put, List.setIfInBounds_toArray, List.set_cons_zero, List.set_cons_succ])
      refine wpAnyH_take (i := 2) (v := ?_) rfl (by kernel_rfl) (by kernel_rfl) (by kernel_rfl) (fun _ _ _ h => h) (Or.inl ⟨by rfl, ?_⟩) (by assumption) ?_
      rotate_left
      focus (intro w hSw; (try dsimp only at hSw); go_simp; first | done | with_reducible rfl)
      (try simp only [List.getElem_toArray, List.getElem_cons_zero, List.getElem_cons_succ, Act.put, List.setIfInBounds_toArray, List.set_cons_zero, List.set_cons_succ])
      refine wpAnyH_take (i := 3) (v := ?_) rfl (by kernel_rfl) (by kernel_rfl) (by kernel_rfl) (fun _ _ _ h => h) (Or.inl ⟨by rfl, ?_⟩) (by assumption) ?_
      rotate_left
      focus (intro w hSw; (try dsimp only at hSw); go_simp; first | done | with_reducible rfl)
      (try simp only [List.getElem_toArray, List.getElem_cons_zero, List.getElem_cons_succ, Act.put, List.setIfInBounds_toArray, List.set_cons_zero, List.set_cons_succ])
      refine wpAnyH_take (i := 4) (v := ?_) rfl (by kernel_rfl) (by kernel_rfl) (by kernel_rfl) (fun _ _ _ h => h) (Or.inl ⟨by rfl, ?_⟩) (by assumption) ?_
      rotate_left
      focus (intro w hSw; (try dsimp only at hSw); go_simp; first | done | with_reducible rfl)
      (try simp only [List.getElem_toArray, List.getElem_cons_zero, List.getElem_cons_succ, Act.put, List.setIfInBounds_toArray, List.set_cons_zero, List.set_cons_succ])
      refine wpAnyH_take (i := 5) (v := ?_) rfl (by kernel_rfl) (by kernel_rfl) (by kernel_rfl) (fun _ _ _ h => h) (Or.inl ⟨by rfl, ?_⟩) (by assumption) ?_
      rotate_left
      focus (intro w hSw; (try dsimp only at hSw); go_simp; first | done | with_reducible rfl)
      (try simp only [List.getElem_toArray, List.getElem_cons_zero, List.getElem_cons_succ, Act.put, List.setIfInBounds_toArray, List.set_cons_zero, List.set_cons_succ])
      refine wpAnyH_ready (rs := [6]) (by kernel_rfl) (by simp) ?_
      refine AllReadyH.cons rfl (fun K hK => ?_) AllReadyH.nil
      go_simp; go_at_call 24; (with_reducible refine (HF2.out _ ?_).mono ?_); (focus exact K1.out.trans HK.out.drew); rintro e w4 ⟨rfl, k4⟩; have f0 := k4.keeps (b := w.heap.size) (o := 0) (s := none) d0; have f1 := k4.keeps (b := w.heap.size) (o := 1) (s := none) d1; have K4 := hid (HK.out.drew.trans k4); have HOW4 := hid (k4.own ((Kept.refl wr).drew.own HOW.out)); have HRO4 := hid (k4.row ((Kept.refl wr).drew.row HROW.out)); clear k4
      refine hK.out _ _ (⟨f0, f1⟩) (fun hHeld => ?_)
      clear hK K
      (try simp only [List.getElem_toArray, List.getElem_cons_zero, List.getElem_cons_succ, Act.put, List.setIfInBounds_toArray, List.set_cons_zero, List.set_cons_succ])
      refine wpAnyH_take (i := 7) (v := ?_) rfl (by kernel_rfl) (by kernel_rfl) (by kernel_rfl) (fun _ _ _ h => h) (Or.inl ⟨by rfl, ?_⟩) (by assumption) ?_
      rotate_left
      focus (intro w hSw; (try dsimp only at hSw); go_simp; first | done | with_reducible rfl)
      (try simp only [List.getElem_toArray, List.getElem_cons_zero, List.getElem_cons_succ, Act.put, List.setIfInBounds_toArray, List.set_cons_zero, List.set_cons_succ])
      refine wpAnyH_ready (rs := [8]) (by kernel_rfl) (by simp) ?_
      refine AllReadyH.cons rfl (fun K hK => ?_) AllReadyH.nil
      go_simp; go_at_call 23; (with_reducible refine (HC2.out _ _ ?_).mono ?_); (focus exact (K1.out.trans K4.out).pcs HPD.out); rintro e w5 ⟨v5, a5, rfl, hown, hmap, k5, -⟩; have g0 := k5.keeps f0; have g1 := k5.keeps f1; have HOW5 := hid (k5.own HOW4.out); have HRO5 := hid (k5.row HRO4.out); have HOX := hid (hown.low K4.out.size); have HMX := hid hmap; have K5 := hid (K4.out.trans k5); clear k5 hown hmap
      refine hK.out _ _ (⟨g0, g1⟩) (fun hHeld => ?_)
      clear hK K
      (try simp only [List.getElem_toArray, List.getElem_cons_zero, List.getElem_cons_succ, Act.put, List.setIfInBounds_toArray, List.set_cons_zero, List.set_cons_succ])
      refine wpAnyH_ready (rs := [9]) (by kernel_rfl) (by simp) ?_
      refine AllReadyH.cons rfl (fun K hK => ?_) AllReadyH.nil
      refine step_append_own rfl (.tmp 101) (.tmp 109) rfl w1.heap.size _ _ a a5 (by rfl) (by rfl) HOW5.out HOX.out (by have h1 := congrArg List.length HMX.out; rw [List.length_map] at h1; have := HAL.out; have := HGL.out; omega) K5.out.size ?_
      intro v9 w9 how9 hg9
      have K9 := hid (K5.out.grown hg9 (fun k hkk => (HOW5.out.row.lt k hkk).1))
      have HRO9 := hid (row_far HRO5.out HOW5.out.row (fun e => tyPI e.symm) hg9)
      obtain ⟨A9, c9, rfl⟩ := ownsRow_shape how9.row
      have HOW9 := hid how9
      clear how9 hg9
      refine hK.out _ _ (⟨K9.out.keeps D0.out, K9.out.keeps D1.out⟩) (fun hHeld => ?_)
      clear hK K
      (try simp only [List.getElem_toArray, List.getElem_cons_zero, List.getElem_cons_succ, Act.put, List.setIfInBounds_toArray, List.set_cons_zero, List.set_cons_succ])
      refine wpAnyH_take (i := 10) (v := ?_) rfl (by kernel_rfl) (by kernel_rfl) (by kernel_rfl) (fun _ _ _ h => h) (Or.inl ⟨by rfl, ?_⟩) (by assumption) ?_
      rotate_left
      focus (intro w hSw; (try dsimp only at hSw); go_simp; first | done | with_reducible rfl)
      (try simp only [List.getElem_toArray, List.getElem_cons_zero, List.getElem_cons_succ, Act.put, List.setIfInBounds_toArray, List.set_cons_zero, List.set_cons_succ])
      refine wpAnyH_done (by kernel_rfl) ?_ _
      have z0 := K9.out.keeps D0.out; have z1 := K9.out.keeps D1.out
      have t0 := K9.out.keeps R0.out; have t1 := K9.out.keeps R1.out
      have p0 := K9.out.free R0.out Q0.out; have p1 := K9.out.free R1.out Q1.out
      go_wp2_with fail
      refine bodyPost_ret (v := .tuple #[.agg #[.int .i64 (max s ((of : Int) + (bl : Int))), .slice A9 (a.length + a5.length) c9], u12, .int .i64 0]) (by simp [results, Tryd.results8, go_sem, t0, t1]) rfl (HPO.out _ _ _ (((K1.out.trans K9.out).setCell (by simp) _).setCell (by simp) _) ?_ ?_)
      · have h1 := HOW9.out
        rw [List.length_append] at h1
        have h2 := ((h1.setLow (p := ⟨w.heap.size + 1, 0, none⟩) hlt (.int .i64 (max s ((of : Int) + (bl : Int))))).setLow (p := ⟨w.heap.size + 1, 1, none⟩) hlt (.slice A9 (a.length + a5.length) c9))
        exact ⟨_, h2.low K1.out.size, by rw [List.map_append, HMAP.out, HMX.out]⟩
      · exact (ints_own (row_low (row_low HRO9.out (p := ⟨w.heap.size + 1, 0, none⟩) hlt (.int .i64 (max s ((of : Int) + (bl : Int))))) (p := ⟨w.heap.size + 1, 1, none⟩) hlt (.slice A9 (a.length + a5.length) c9))).1
end Go.Proofs.YtiiogglflpladaaDoor
