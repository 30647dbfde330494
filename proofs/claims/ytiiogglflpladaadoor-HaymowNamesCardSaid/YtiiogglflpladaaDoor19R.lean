/- sparse.Cut. -/
import Derived.Test.YtiiogglflpladaaDoor19Q
namespace Go.Proofs.YtiiogglflpladaaDoor
set_option linter.unusedSimpArgs false
set_option linter.unusedVariables false
open Go.RowKit

theorem cell_two {w : World} {b o H : Nat} {v x y : Value} (h : w.cell? ⟨b, o, none⟩ = some v) (hne : b ≠ H) : ((w.setCell ⟨H, 0, none⟩ x).setCell ⟨H, 1, none⟩ y).cell? ⟨b, o, none⟩ = some v :=
  ((World.cell?_of_block (a := ⟨b, o, none⟩) (Below.heap_setCell _ _ _ _ hne)).trans (World.cell?_of_block (a := ⟨b, o, none⟩) (Below.heap_setCell _ _ _ _ hne))).trans h
theorem cb_made (w : World) (t : TypeId) (g : Nat) (hg : w.heap.size = g) : CB (w.alloc (.cells #[.int .i64 0, .slice none 0 0] t)) g t [.int .i64 0, .slice none 0 0] := heap_alloc_at w _ g hg
theorem pcells_set (a : List (Pc × Nat)) (k : Nat) (q : Pc × Nat) (l : List UInt8) (h : a[k]? = some q) : pcells (a.set k (⟨q.1.n, l⟩, q.2)) = pcells a := by
  induction a generalizing k with
  | nil => rfl
  | cons p r ih =>
    rcases k with _ | k
    · simp only [List.getElem?_cons_zero, Option.some.injEq] at h
      subst h; rfl
    · rw [List.getElem?_cons_succ] at h
      rw [List.set_cons_succ, pcells, pcells, ih k h]
/-- one piece's octets are turned -/
theorem Own.set {w w' : World} {base : Nat} {v : Value} {a : List (Pc × Nat)} {k : Nat} {q : Pc × Nat} {l : List UInt8} (h : Own w base v a) (hd : a.Pairwise (fun p q => p.2 < q.2)) (hk : a[k]? = some q) (hl : l.length = 128) (ho : OBlk w' q.2 5 l) (hb : But q.2 w w') :
    Own w' base v (a.set k (⟨q.1.n, l⟩, q.2)) := by
  obtain ⟨b1, b2, b3⟩ := h.blk q (List.mem_of_getElem? hk)
  refine ⟨?_, fun p hp => ?_⟩
  · have := row_but h.row b3 tyPU hb
    rw [pcells_set _ _ _ _ hk, List.length_set]; exact this
  · obtain ⟨i, hi, e⟩ := List.getElem_of_mem hp
    rw [List.length_set] at hi
    obtain ⟨hk1, hk2⟩ := List.getElem?_eq_some_iff.1 hk
    by_cases hik : k = i
    · subst hik
      rw [List.getElem_set_self] at e
      subst e
      exact ⟨b1, hl, ho⟩
    · rw [List.getElem_set_ne hik] at e
      obtain ⟨c1, c2, c3⟩ := h.blk p (by rw [← e]; exact List.getElem_mem _)
      refine ⟨c1, c2, CB.of_heap c3 (hb.block _ c3.lt ?_)⟩
      have hne : p.2 ≠ q.2 := by
        rcases Nat.lt_or_gt_of_ne hik with h' | h'
        · have := List.pairwise_iff_getElem.1 hd k i hk1 hi h'
          rw [hk2, e] at this; omega
        · have := List.pairwise_iff_getElem.1 hd i k hi hk1 h'
          rw [hk2, e] at this; omega
      simpa using hne
theorem cut_over (p : Pc) (sz : Nat) (xr : Nat) (hb : p.b.length = 128) (hx : (sz : Int) % 128 = (xr : Int)) (h0 : xr ≠ 0) (hn : p.n = (sz : Int) / 128) : cutP (sz : Int) p = ⟨p.n, over p.b xr (List.replicate (128 - xr) 0)⟩ := by
  rw [cutP, if_pos ⟨hn, by omega⟩, hx, Int.toNat_natCast, over, List.length_replicate, List.drop_of_length_le (by omega), List.append_nil]
theorem cut_map_none {M : List Pc} {sz : Int} (h : ∀ p ∈ M, p.n ≠ sz / 128) : M.map (cutP sz) = M := by
  conv => rhs; rw [← List.map_id M]
  apply List.map_congr_left
  intro p hp
  rw [cutP, if_neg (fun e => h p hp e.1)]; rfl
theorem cut_map_some {M : List Pc} (hS : Srt M) {sz : Nat} {k : Nat} {p : Pc} (hk : M[k]? = some p) (hn : p.n = (sz : Int) / 128) (q : Pc) (hq : cutP (sz : Int) p = q) : M.map (cutP (sz : Int)) = M.set k q := by
  obtain ⟨hk1, hk2⟩ := List.getElem?_eq_some_iff.1 hk
  apply List.ext_getElem
  · simp
  · intro i h1 h2
    rw [List.length_map] at h1
    rw [List.getElem_map]
    by_cases hik : k = i
    · subst hik
      rw [List.getElem_set_self, hk2, hq]
    · rw [List.getElem_set_ne hik, cutP, if_neg (fun e => ?_)]
      rcases Nat.lt_or_gt_of_ne hik with h' | h'
      · have := List.pairwise_iff_getElem.1 hS k i hk1 h1 h'
        rw [hk2] at this; omega
      · have := List.pairwise_iff_getElem.1 hS i k h1 hk1 h'
        rw [hk2] at this; omega
theorem own_block (s : Int) (M : List Pc) (A3 : Option Addr) (n c3 : Nat) (lt : Int) (w : World) (base : Nat) (a : List (Pc × Nat)) (how : Own w base (.slice A3 n c3) a) (hmap : a.map (·.1) = M) (hS : Srt M) (hl : M.length ≤ 100000) (p : Pc) (hf : findL M lt = some p) :
    ∃ (k : Nat) (q : Pc × Nat), a[k]? = some q ∧ q.1 = p ∧ M[k]? = some p ∧ p.n = lt ∧ Calls Tryd.prog 25 #[.agg #[.int .i64 s, .slice A3 n c3], .int .i64 lt] w fun e w' => e = .returned (.tuple #[.slice (some ⟨q.2, 0, none⟩) 128 128, .bool true]) ∧ Kept w w' := by
  obtain ⟨hk, hn⟩ := idx_some hS hf
  have hk0 := hk
  rw [← hmap, List.getElem?_map] at hk0
  obtain ⟨q, hq, hqp⟩ := Option.map_eq_some_iff.1 hk0
  rw [hmap] at hq
  refine ⟨_, q, hq, hqp, hk, hn, ?_⟩
  have hP : Pcs w (.slice A3 n c3) M := hmap ▸ how.pcs
  refine (block_some s M A3 n c3 lt w hP hS hl p hf).mono ?_
  rintro e w' ⟨v, rfl, k', -, b, o, j, rfl, hj, hc⟩
  refine ⟨?_, k'⟩
  obtain ⟨hj1, hj2⟩ := List.getElem?_eq_some_iff.1 hj
  obtain ⟨hk1, hk2⟩ := List.getElem?_eq_some_iff.1 hk
  have hjk : j = (ltL M lt).length := by
    rcases Nat.lt_trichotomy j (ltL M lt).length with h | h | h
    · have := List.pairwise_iff_getElem.1 hS _ _ hj1 hk1 h
      rw [hj2, hk2] at this; omega
    · exact h
    · have := List.pairwise_iff_getElem.1 hS _ _ hk1 hj1 h
      rw [hj2, hk2] at this; omega
  rw [hjk] at hc
  have hlen : (ltL M lt).length < a.length := (List.getElem?_eq_some_iff.1 hq).1
  obtain ⟨g, cap, hv, -, -⟩ := how.row.form (by omega)
  simp only [Value.slice.injEq, Option.some.injEq, Addr.mk.injEq] at hv
  obtain ⟨⟨rfl, rfl, -⟩, rfl, rfl⟩ := hv
  have hpl := pcells_len a
  have h1 := how.row.cellAt (g := b) (cap := c3) ((ltL M lt).length * 2 + 1) (by omega)
  rw [(pcells_at a _ q hq).2] at h1
  rw [Nat.zero_add, h1] at hc
  rw [← Option.some.inj hc]
set_option maxRecDepth 100000 in
set_option maxHeartbeats 4000000 in
theorem cut_yes (f : Fl) (sz : Nat) (v : Value) (w : World) (h : Sp w v f) (hv : Valid f) (hfit : sz ≤ 463488) : Calls Tryd.prog 7 #[v, .int .i64 (sz : Int)] w (CutPost f sz w) := by
  have HM := hid (fun (w' : World) (k : Kept w w') => may_any f v w' (k.sp h))
  rw [mayB_t hv] at HM
  have HFX := hid (fun (x : Int) (w' : World) (k : Kept w w') => find_any f v x w' (k.sp h) hv.ord (by have := hv.len; omega))
  obtain ⟨vl, rfl, hP⟩ := h
  obtain ⟨A, c, rfl⟩ := hP.shape
  obtain ⟨-, hp1, hp2, -, -⟩ := hP.open_
  obtain ⟨s, L⟩ := f
  dsimp only at *
  have hs0 := hv.s0; have hs1 := hv.s1
  dsimp only at hs0 hs1
  have HV := hid hv
  obtain ⟨nd, hnd⟩ : ∃ nd : Int, needI (sz : Int) = nd := ⟨_, rfl⟩
  have hndb : 0 ≤ nd ∧ nd ≤ 3621 := by rw [← hnd]; exact needI_le (by omega)
  have HSZ := hid (fun (w' : World) => size_any (sz : Int) (by omega) w')
  rw [hnd] at HSZ
  have HND := hid hnd
  have hrle := lt_le L nd
  have HSP := hid (split_lt hv.ord nd)
  dsimp only at HSP
  have HPT := hid (show Pcs w (.slice A (ltL L nd).length c) (ltL L nd) from by have h := hP.take _ hrle; rw [HSP.out.1] at h; exact h)
  have hcut := pcs_cutTo (A := A) (c := c) _ hrle hp1
  have HF1 := hid (HFX.out nd)
  have HC1 := hid (fun (u : Value) (w' : World) (hM : Pcs w' u (ltL L nd)) => clones_any (ltL L nd) u w' hM (by have h1 := hv.len; dsimp only at h1; omega) (fun p hp => (hv.pc p (List.mem_filter.1 hp).1).2.2.1))
  have HLL := hid (show (ltL L nd).length ≤ 3621 from by have h1 := hv.len; dsimp only at h1; omega)
  generalize hm : L.length = m at *
  generalize hr : (ltL L nd).length = r at *
  have HR := hid hr
  clear hP hv HFX hm hr hnd
  have i1 : decide ((sz : Int) < 0) = false := by simp
  have i2 : decide (463488 < (sz : Int)) = false := by simp; omega
  have i0 : (0 : Int) ≤ (sz : Int) := by omega
  have i5 : (sz : Int) ≤ 463488 := by omega
  have i9 : IntKind.i64.wrap nd = nd := IntWalk.i64_in _ (by omega)
  go_enter Tryd.func7, Tryd.ntmps7
  go_upto_region 5 with (
    (go_at_call 22; (with_reducible refine (HM.out _ ?_).mono ?_); exact (by repeat (first | exact Kept.refl _ | assumption | refine Kept.alloc ?_ _ | refine Kept.drew ?_ | refine Kept.drewN ?_ _ | refine Kept.setCell ?_ (by simp; try omega) _ | refine Kept.trans ?_ (by assumption))); rintro e w1 ⟨rfl, k1⟩; have d0 := k1.keeps (b := w.heap.size) (o := 0) (s := none) (v := .int .i64 s) (by simp [go_sem]); have d1 := k1.keeps (b := w.heap.size) (o := 1) (s := none) (v := .slice A m c) (by simp [go_sem]); have r0 := k1.keeps (b := w.heap.size + 1) (o := 0) (s := none) (v := .int .i64 0) (by simp [go_sem]); have r1 := k1.keeps (b := w.heap.size + 1) (o := 1) (s := none) (v := .slice none 0 0) (by simp [go_sem]); have q0 := k1.free (b := w.heap.size + 1) (o := 0) (s := none) (v := .int .i64 0) (by simp [go_sem]) (by simp [go_sem]); have q1 := k1.free (b := w.heap.size + 1) (o := 1) (s := none) (v := .slice none 0 0) (by simp [go_sem]) (by simp [go_sem]))
    )
  have hlt : w.heap.size + 1 < w1.heap.size := cell_lt r0
  have K1 := hid (show Kept w w1 from (by repeat (first | exact Kept.refl _ | assumption | refine Kept.alloc ?_ _ | refine Kept.drew ?_ | refine Kept.drewN ?_ _ | refine Kept.setCell ?_ (by simp; try omega) _ | refine Kept.trans ?_ (by assumption))))
  have D0 := hid d0; have D1 := hid d1; have R0 := hid r0; have R1 := hid r1; have Q0 := hid q0; have Q1 := hid q1
  clear k1 r0 r1 q0 q1
  go_cut [7] (fun t wx => ∃ (H : Nat) (a : List (Pc × Nat)) (A3 : Option Addr) (c3 : Nat), t = .pointer (some ⟨H, 0, none⟩) ∧ CB wx H 26 [.int .i64 (sz : Int), .slice A3 a.length c3] ∧ Own wx w1.heap.size (.slice A3 a.length c3) a ∧ a.map (·.1) = ltL L nd ∧ Kept w1 wx ∧ a.Pairwise (fun p q => p.2 < q.2))
  case first =>
    go_region_held3 (fun w' => w'.cell? ⟨w.heap.size, 0, none⟩ = some (.int .i64 s) ∧ w'.cell? ⟨w.heap.size, 1, none⟩ = some (.slice A m c))
      (first | exact ⟨d0, d1⟩ | exact ⟨by assumption, by assumption⟩ | (go_split_ands; exact ⟨by assumption, by assumption⟩) | exact ⟨cell_two g0 (by omega), cell_two g1 (by omega)⟩ | exact ⟨by simp [go_sem, *], by simp [go_sem, *]⟩)
      (first
      | (go_at_call 12; (with_reducible refine (HSZ.out _).mono ?_); rintro e w2 ⟨rfl, rfl⟩)
      | (go_at_call 24; (with_reducible refine (HF1.out _ ?_).mono ?_); (focus exact K1.out.trans (by repeat (first | exact Kept.refl _ | assumption | refine Kept.alloc ?_ _ | refine Kept.drew ?_ | refine Kept.drewN ?_ _ | refine Kept.setCell ?_ (by simp; try omega) _ | refine Kept.trans ?_ (by assumption)))); rintro e w2 ⟨rfl, k2⟩; have f0 := (show Kept w1 w2 from (by repeat (first | exact Kept.refl _ | assumption | refine Kept.alloc ?_ _ | refine Kept.drew ?_ | refine Kept.drewN ?_ _ | refine Kept.setCell ?_ (by simp; try omega) _ | refine Kept.trans ?_ (by assumption)))).keeps d0; have f1 := (show Kept w1 w2 from (by repeat (first | exact Kept.refl _ | assumption | refine Kept.alloc ?_ _ | refine Kept.drew ?_ | refine Kept.drewN ?_ _ | refine Kept.setCell ?_ (by simp; try omega) _ | refine Kept.trans ?_ (by assumption)))).keeps d1; have K2 := hid (show Kept w1 w2 from (by repeat (first | exact Kept.refl _ | assumption | refine Kept.alloc ?_ _ | refine Kept.drew ?_ | refine Kept.drewN ?_ _ | refine Kept.setCell ?_ (by simp; try omega) _ | refine Kept.trans ?_ (by assumption)))); have hsz2 := K2.out.size; have zc := k2.cb (cb_made w1.drew _ w1.heap.size rfl); have hzl := zc.lt)
      | (go_at_call 24; (with_reducible refine (HF1.out _ ?_).mono ?_); (focus exact K1.out.trans (by repeat (first | exact Kept.refl _ | assumption | refine Kept.alloc ?_ _ | refine Kept.drew ?_ | refine Kept.drewN ?_ _ | refine Kept.setCell ?_ (by simp; try omega) _ | refine Kept.trans ?_ (by assumption)))); rintro e w2 ⟨rfl, k2⟩; have f0 := (show Kept w1 w2 from (by repeat (first | exact Kept.refl _ | assumption | refine Kept.alloc ?_ _ | refine Kept.drew ?_ | refine Kept.drewN ?_ _ | refine Kept.setCell ?_ (by simp; try omega) _ | refine Kept.trans ?_ (by assumption)))).keeps d0; have f1 := (show Kept w1 w2 from (by repeat (first | exact Kept.refl _ | assumption | refine Kept.alloc ?_ _ | refine Kept.drew ?_ | refine Kept.drewN ?_ _ | refine Kept.setCell ?_ (by simp; try omega) _ | refine Kept.trans ?_ (by assumption)))).keeps d1; have K2 := hid (show Kept w1 w2 from (by repeat (first | exact Kept.refl _ | assumption | refine Kept.alloc ?_ _ | refine Kept.drew ?_ | refine Kept.drewN ?_ _ | refine Kept.setCell ?_ (by simp; try omega) _ | refine Kept.trans ?_ (by assumption)))); have hsz2 := K2.out.size)
      | (go_at_call 23; (with_reducible refine (HC1.out _ _ ?_).mono ?_); (focus exact (K1.out.trans (by repeat (first | exact Kept.refl _ | assumption | refine Kept.alloc ?_ _ | refine Kept.drew ?_ | refine Kept.drewN ?_ _ | refine Kept.setCell ?_ (by simp; try omega) _ | refine Kept.trans ?_ (by assumption)))).pcs HPT.out); rintro e w3 ⟨u, a, rfl, hown, hmap, k3, hpw⟩; have g0 := (show Kept w1 w3 from (by repeat (first | exact Kept.refl _ | assumption | refine Kept.alloc ?_ _ | refine Kept.drew ?_ | refine Kept.drewN ?_ _ | refine Kept.setCell ?_ (by simp; try omega) _ | refine Kept.trans ?_ (by assumption)))).keeps d0; have g1 := (show Kept w1 w3 from (by repeat (first | exact Kept.refl _ | assumption | refine Kept.alloc ?_ _ | refine Kept.drew ?_ | refine Kept.drewN ?_ _ | refine Kept.setCell ?_ (by simp; try omega) _ | refine Kept.trans ?_ (by assumption)))).keeps d1; have K3 := hid (show Kept w1 w3 from (by repeat (first | exact Kept.refl _ | assumption | refine Kept.alloc ?_ _ | refine Kept.drew ?_ | refine Kept.drewN ?_ _ | refine Kept.setCell ?_ (by simp; try omega) _ | refine Kept.trans ?_ (by assumption)))); obtain ⟨A3, c3, rfl⟩ := ownsRow_shape hown.row; have HOWN := hid hown; have HMAP := hid hmap; have HPW := hid hpw; have xc := k3.cb zc; have x0 := xc.cell 0 (by decide); have x1 := xc.cell 1 (by decide); have y0 := xc.frozen 0; have y1 := xc.frozen 1; simp only [List.getElem_cons_zero, List.getElem_cons_succ] at x0 x1)
      | (go_at_call 23; (with_reducible refine (HC1.out _ _ ?_).mono ?_); (focus exact (K1.out.trans (by repeat (first | exact Kept.refl _ | assumption | refine Kept.alloc ?_ _ | refine Kept.drew ?_ | refine Kept.drewN ?_ _ | refine Kept.setCell ?_ (by simp; try omega) _ | refine Kept.trans ?_ (by assumption)))).pcs HPT.out); rintro e w3 ⟨u, a, rfl, hown, hmap, k3, hpw⟩; have g0 := (show Kept w1 w3 from (by repeat (first | exact Kept.refl _ | assumption | refine Kept.alloc ?_ _ | refine Kept.drew ?_ | refine Kept.drewN ?_ _ | refine Kept.setCell ?_ (by simp; try omega) _ | refine Kept.trans ?_ (by assumption)))).keeps d0; have g1 := (show Kept w1 w3 from (by repeat (first | exact Kept.refl _ | assumption | refine Kept.alloc ?_ _ | refine Kept.drew ?_ | refine Kept.drewN ?_ _ | refine Kept.setCell ?_ (by simp; try omega) _ | refine Kept.trans ?_ (by assumption)))).keeps d1; have K3 := hid (show Kept w1 w3 from (by repeat (first | exact Kept.refl _ | assumption | refine Kept.alloc ?_ _ | refine Kept.drew ?_ | refine Kept.drewN ?_ _ | refine Kept.setCell ?_ (by simp; try omega) _ | refine Kept.trans ?_ (by assumption)))); obtain ⟨A3, c3, rfl⟩ := ownsRow_shape hown.row; have HOWN := hid hown; have HMAP := hid hmap; have HPW := hid hpw; have xc := k3.cb (cb_made w2 _ w2.heap.size rfl); have x0 := xc.cell 0 (by decide); have x1 := xc.cell 1 (by decide); have y0 := xc.frozen 0; have y1 := xc.frozen 1; simp only [List.getElem_cons_zero, List.getElem_cons_succ] at x0 x1)
      | (go_at_call 23; (with_reducible refine (HC1.out _ _ ?_).mono ?_); (focus exact (K1.out.trans (by repeat (first | exact Kept.refl _ | assumption | refine Kept.alloc ?_ _ | refine Kept.drew ?_ | refine Kept.drewN ?_ _ | refine Kept.setCell ?_ (by simp; try omega) _ | refine Kept.trans ?_ (by assumption)))).pcs HPT.out); rintro e w3 ⟨u, a, rfl, hown, hmap, k3, hpw⟩; have g0 := (show Kept w1 w3 from (by repeat (first | exact Kept.refl _ | assumption | refine Kept.alloc ?_ _ | refine Kept.drew ?_ | refine Kept.drewN ?_ _ | refine Kept.setCell ?_ (by simp; try omega) _ | refine Kept.trans ?_ (by assumption)))).keeps d0; have g1 := (show Kept w1 w3 from (by repeat (first | exact Kept.refl _ | assumption | refine Kept.alloc ?_ _ | refine Kept.drew ?_ | refine Kept.drewN ?_ _ | refine Kept.setCell ?_ (by simp; try omega) _ | refine Kept.trans ?_ (by assumption)))).keeps d1; have K3 := hid (show Kept w1 w3 from (by repeat (first | exact Kept.refl _ | assumption | refine Kept.alloc ?_ _ | refine Kept.drew ?_ | refine Kept.drewN ?_ _ | refine Kept.setCell ?_ (by simp; try omega) _ | refine Kept.trans ?_ (by assumption)))); obtain ⟨A3, c3, rfl⟩ := ownsRow_shape hown.row; have HOWN := hid hown; have HMAP := hid hmap; have HPW := hid hpw))
    all_goals (
      go_wp2_with fail
      go_meet
      refine ⟨_, a, A3, c3, rfl, ?_, ?_, HMAP.out, ?_, HPW.out⟩
      · first | exact heap_alloc_at _ _ _ rfl | exact CB.set (CB.set xc 0 _) 1 _
      · first | exact (((Kept.refl w3).alloc _).own HOWN.out).low (by omega) | exact ((HOWN.out.setLow (by simp; done) _).setLow (by simp; done) _).low (by simp; omega) | exact ((HOWN.out.setLow (by simpa using hzl) _).setLow (by simpa using hzl) _).low (by omega)
      · first | exact K3.out.alloc _ | exact (K3.out.setCell (by simp; try omega) _).setCell (by simp; try omega) _)
  case rest =>
    obtain ⟨H, a, A3, c3, rfl, hcb, how, hmap, hkc, hpw⟩ := hcut
    have HCB := hid hcb; have HOW := hid how; have HMAP := hid hmap; have HKC := hid hkc; have HPW := hid hpw
    have hh0 := hcb.cell 0 (by simp); have hh1 := hcb.cell 1 (by simp)
    simp only [List.getElem_cons_zero, List.getElem_cons_succ] at hh0 hh1
    have z0 := hkc.keeps D0.out; have z1 := hkc.keeps D1.out
    have t0 := hkc.keeps R0.out; have t1 := hkc.keeps R1.out
    have p0 := hkc.free R0.out Q0.out; have p1 := hkc.free R1.out Q1.out
    have T0 := hid t0; have T1 := hid t1; have P0 := hid p0; have P1 := hid p1
    have HAL := hid (show a.length = r from by
      have h1 := congrArg List.length hmap
      rw [List.length_map] at h1; exact h1.trans HR.out)
    have HPO := hid (show ∀ w' u u2, Kept w w' → Pcs w' u (cutF ⟨s, L⟩ sz).L → Ints w' u2 (cutW ⟨s, L⟩ sz) → CutPost ⟨s, L⟩ sz w (.returned (.tuple #[.agg #[.int .i64 (sz : Int), u], u2, .int .i64 0])) w' from fun w' u u2 hk hu hi =>
      ⟨hk, fun h => (by
        rcases h with h | h
        · rw [mayB_t HV.out] at h; cases h
        · omega), fun _ h => (by omega), fun _ _ _ => ⟨_, _, rfl, ⟨u, by rw [cutF], hu⟩, hi⟩⟩)
    clear hcb how hmap hkc hpw d0 d1
    have same : ∀ w7 w', Kept wc w7 → w' = (w7.setCell ⟨w.heap.size + 1, 0, none⟩ (.int .i64 (sz : Int))).setCell ⟨w.heap.size + 1, 1, none⟩ (.slice A3 a.length c3) → (cutF ⟨s, L⟩ sz).L = ltL L nd → cutW ⟨s, L⟩ sz = [] → CutPost ⟨s, L⟩ sz w (.returned (.tuple #[.agg #[.int .i64 (sz : Int), .slice A3 a.length c3], .slice none 0 0, .int .i64 0])) w' := fun w7 w' k7 hw' h1 h2 => by
      subst hw'
      refine HPO.out _ _ _ (((K1.out.trans (HKC.out.trans k7)).setCell (by simp) _).setCell (by simp) _) ?_ (by rw [h2]; exact ints_nil _)
      rw [h1]
      have := (((k7.own HOW.out).setLow (p := ⟨w.heap.size + 1, 0, none⟩) hlt (.int .i64 (sz : Int))).setLow (p := ⟨w.heap.size + 1, 1, none⟩) hlt (.slice A3 a.length c3)).pcs
      rwa [HMAP.out] at this
    have SAME := hid same
    clear same
    by_cases hc1 : s ≤ (sz : Int)
    · have e1 := SAME.out wc _ (Kept.refl _) rfl (by rw [cutF, if_pos (.inl hc1), HND.out]) (by rw [cutW, if_pos (.inl hc1)])
      have E1 := hid e1
      have hdt : decide (s ≤ (sz : Int)) = true := decide_eq_true hc1
      clear e1
      go_wp2_with fail
      refine bodyPost_ret (v := .tuple #[.agg #[.int .i64 (sz : Int), .slice A3 a.length c3], .slice none 0 0, .int .i64 0]) (by simp [results, Tryd.results7, go_sem, t0, t1]) rfl E1.out
    · have hdf : decide (s ≤ (sz : Int)) = false := decide_eq_false hc1
      by_cases hc2 : (sz : Int) % 128 = 0
      · have e1 := SAME.out wc _ (Kept.refl _) rfl (by rw [cutF, if_pos (.inr hc2), HND.out]) (by rw [cutW, if_pos (.inr hc2)])
        have E1 := hid e1
        have hc3 : Int.tmod (sz : Int) 128 = 0 := by rw [Int.tmod_eq_emod_of_nonneg (by omega)]; exact hc2
        clear e1
        go_wp2_with fail
        refine bodyPost_ret (v := .tuple #[.agg #[.int .i64 (sz : Int), .slice A3 a.length c3], .slice none 0 0, .int .i64 0]) (by simp [results, Tryd.results7, go_sem, t0, t1]) rfl E1.out
      · have hno : ¬ (s ≤ (sz : Int) ∨ (sz : Int) % 128 = 0) := fun h => h.elim hc1 hc2
        have HNO := hid hno
        obtain ⟨lt, hl⟩ : ∃ lt : Int, (sz : Int) / 128 = lt := ⟨_, rfl⟩
        have hl2 : Int.tdiv (sz : Int) 128 = lt := by rw [← hl]; exact Int.tdiv_eq_ediv_of_nonneg (by omega)
        obtain ⟨xr, hxr⟩ : ∃ xr : Nat, (sz : Int) % 128 = (xr : Int) := ⟨((sz : Int) % 128).toNat, by omega⟩
        have hxr2 : Int.tmod (sz : Int) 128 = (xr : Int) := by rw [← hxr]; exact Int.tmod_eq_emod_of_nonneg (by omega)
        have hxrb : 0 < xr ∧ xr < 128 := by omega
        have hne : ((xr : Int) == 0) = false := by simp; omega
        have hltn : lt < nd := by rw [← HND.out]; unfold needI; split <;> omega
        have hfind : findL (ltL L nd) lt = findL L lt := by rw [find_lt, if_pos hltn]
        have HL := hid hl; have HXR := hid hxr
        have PCS := hid (show Pcs wc (.slice A3 a.length c3) (ltL L nd) from HMAP.out ▸ HOW.out.pcs)
        rcases hf : findL L lt with _ | p
        · have hf2 := hfind.trans hf
          have HBN := hid (block_none (sz : Int) (ltL L nd) A3 a.length c3 lt wc PCS.out (srt_filter HV.out.ord _) (by have := HAL.out; have := HLL.out; have := HR.out; omega) hf2)
          have HCF := hid (show (cutF ⟨s, L⟩ sz).L = ltL L nd from by
            rw [cutF, if_neg hno, HND.out]
            exact cut_map_none fun q hq e => find_none hf2 q hq (by rw [← hl]; exact e))
          have HCW := hid (show cutW ⟨s, L⟩ sz = [] from by rw [cutW, if_neg hno]; dsimp only; rw [hl, hf]; rfl)
          clear hf hf2 hfind hno hc1 hc2
          go_wp2_with (go_at_call 25; (with_reducible refine HBN.out.mono ?_); rintro e w7 ⟨rfl, k7⟩; have hh2 := k7.keeps hh0; have hh3 := k7.keeps hh1; have t2 := k7.keeps t0; have t3 := k7.keeps t1; have p2 := k7.free t0 p0; have p3 := k7.free t1 p1)
          refine bodyPost_ret (v := .tuple #[.agg #[.int .i64 (sz : Int), .slice A3 a.length c3], .slice none 0 0, .int .i64 0]) (by simp [results, Tryd.results7, go_sem, t2, t3]) rfl (SAME.out _ _ k7 rfl HCF.out HCW.out)
        · have hf2 := hfind.trans hf
          obtain ⟨k, q, hq, hqp, hMk, hpn, hcall⟩ := own_block (sz : Int) (ltL L nd) A3 a.length c3 lt wc _ a HOW.out HMAP.out (srt_filter HV.out.ord _) (by have := HAL.out; have := HLL.out; have := HR.out; omega) p hf2
          have HBS := hid hcall
          obtain ⟨b1, b2, b3⟩ := HOW.out.blk q (List.mem_of_getElem? hq)
          rw [hqp] at b2 b3
          have HCR := hid (fun w7 (k7 : Kept wc w7) ty => clear_run (x := xr) (n := 128 - xr) (c := 128 - xr) (k7.oblk b3) (by omega) (by omega) ty)
          have hcx := own_cut (g := q.2) (N := 128) xr (.inl hxrb.2)
          have hhne : H ≠ q.2 := fun e => by
            have h1 := HCB.out
            rw [e] at h1
            have h2 : wc.heap[q.2]? = _ := b3
            have h3 : wc.heap[q.2]? = _ := h1
            rw [h2] at h3
            injection h3 with h3
            injection h3 with _ h4
            exact absurd h4 (by decide)
          have hwne : w.heap.size + 1 ≠ q.2 := by omega
          have HCP := hid (cut_over p sz xr b2 (by omega) (by omega) (hpn.trans hl.symm))
          have HCF := hid (show (cutF ⟨s, L⟩ sz).L = (ltL L nd).set k ⟨p.n, over p.b xr (List.replicate (128 - xr) 0)⟩ from by
            rw [cutF, if_neg hno, HND.out]
            exact cut_map_some (srt_filter HV.out.ord _) hMk (hpn.trans hl.symm) _ HCP.out)
          have HCW := hid (show cutW ⟨s, L⟩ sz = [lt] from by rw [cutW, if_neg hno]; dsimp only; rw [hl, hf]; rfl)
          have HFIN := hid (show ∀ w7 w8, Kept wc w7 → OBlk w8 q.2 5 (over p.b xr (List.replicate (128 - xr) 0)) → But q.2 w7 w8 → Own w8 w1.heap.size (.slice A3 a.length c3) (a.set k (⟨p.n, over p.b xr (List.replicate (128 - xr) 0)⟩, q.2)) ∧ Kept w1 w8 from fun w7 w8 k7 ob bt => by
            have h1 := Own.set (k7.own HOW.out) HPW.out hq (by rw [over_len _ _ _ (by rw [List.length_replicate]; omega)]; exact b2) ob bt
            rw [hqp] at h1
            exact ⟨h1, Kept.turned (HKC.out.trans k7) bt b1⟩)
          have HMS := hid (show (a.set k (⟨p.n, over p.b xr (List.replicate (128 - xr) 0)⟩, q.2)).map (·.1) = (ltL L nd).set k ⟨p.n, over p.b xr (List.replicate (128 - xr) 0)⟩ from by rw [List.map_set, HMAP.out])
          clear hf hf2 hfind hno hc1 hc2 hq hqp hMk hpn hcall b1 b2 b3
          generalize over p.b xr (List.replicate (128 - xr) 0) = nb at *
          generalize 128 - xr = nx at *
          go_wp2_with (go_at_call 25; (with_reducible refine HBS.out.mono ?_); rintro e w7 ⟨rfl, k7⟩; obtain ⟨w8, hcl, ob8, bt8⟩ := HCR.out w7 k7 0; have hh2 := bt8.keeps (k7.keeps hh0) hhne; have hh3 := bt8.keeps (k7.keeps hh1) hhne; have t2 := bt8.keeps (k7.keeps t0) hwne; have t3 := bt8.keeps (k7.keeps t1) hwne; have p2 := bt8.free (k7.keeps t0) (k7.free t0 p0) hwne; have p3 := bt8.free (k7.keeps t1) (k7.free t1 p1) hwne; have FF := hid (HFIN.out w7 w8 k7 ob8 bt8))
          have hsz8 : w.heap.size + 1 ≠ w8.heap.size := by have := FF.out.2.size; omega
          refine bodyPost_ret (v := .tuple #[.agg #[.int .i64 (sz : Int), .slice A3 a.length c3], .slice (some ⟨w8.heap.size, 0, none⟩) 1 1, .int .i64 0]) (by simp [results, Tryd.results7, go_sem, t2, t3]) rfl (HPO.out _ _ _ (((K1.out.trans (FF.out.2.alloc _)).setCell (by simp) _).setCell (by simp) _) ?_ ?_)
          · rw [HCF.out]
            have h5 := (((((Kept.refl w8).alloc (.cells #[.int .i64 lt] 3)).own FF.out.1).setLow (p := ⟨w.heap.size + 1, 0, none⟩) hlt (.int .i64 (sz : Int))).setLow (p := ⟨w.heap.size + 1, 1, none⟩) hlt (.slice A3 a.length c3)).pcs
            rwa [HMS.out] at h5
          · rw [HCW.out]
            refine ints_cells (L := [lt]) rfl (by omega) (by omega) (fun i hi => ?_)
            obtain rfl : i = 0 := by omega
            refine cell_two (b := w8.heap.size) (o := 0) ?_ (fun e => hsz8 e.symm)
            simp [go_sem]
theorem cut_any (f : Fl) (size : Int) (v : Value) (w : World) (h : Sp w v f) : Calls Tryd.prog 7 #[v, .int .i64 size] w (CutPost f size w) := by
  by_cases hno : mayB f = false ∨ size < 0 ∨ 463488 < size
  · exact cut_no f size v w h hno
  · have hv : Valid f := by
      cases e : mayB f with
      | true => exact mayB_iff.1 e
      | false => exact absurd (.inl e) hno
    obtain ⟨sz, rfl⟩ : ∃ sz : Nat, size = (sz : Int) := ⟨size.toNat, by omega⟩
    exact cut_yes f sz v w h hv (by omega)
end Go.Proofs.YtiiogglflpladaaDoor
