/- SparseReads: the walk. -/
import Derived.Test.Ytfkmhdnapmicdaa19AK
namespace Go.Proofs.Ytfkmhdnapmicdaa
set_option linter.unusedSimpArgs false
set_option linter.unusedVariables false
open Go.RowKit

theorem field_file (A : Option Addr) (n c : Nat) (A2 : Option Addr) (n2 c2 : Nat) (w : World) : (Instr.field 36 (.agg #[.slice A n c, .slice A2 n2 c2]) 0).run Try.prog w = .ok (.slice A n c) w := by kernel_rfl
set_option maxRecDepth 100000 in
set_option maxHeartbeats 40000000 in
theorem reads_at (s1 : Int) (v1 : Value) (L1 : List Pc) (s2 : Int) (v2 : Value) (L2 : List Pc) (off nn : Int) (w : World) (hP : Pcs w v1 L1) (hQ : Pcs w v2 L2) (ho1 : off ≤ 9223372036854775807) (hn1 : nn ≤ 9223372036854775807) (ho2 : -9223372036854775808 ≤ off) (hn2 : -9223372036854775808 ≤ nn) :
    Calls Try.prog 7 #[.agg #[.int .i64 s1, v1, .int .i64 s2, v2, .int .i64 off, .int .i64 nn]] w fun e w' => e = .returned (.bool true) ∧ Kept w w' := by
  obtain ⟨f, hf⟩ : ∃ g, fewF ⟨s1, L1⟩ = g := ⟨_, rfl⟩
  obtain ⟨g, hg⟩ : ∃ g, fewF ⟨s2, L2⟩ = g := ⟨_, rfl⟩
  obtain ⟨sf, hsf⟩ : ∃ s, f.size = s := ⟨_, rfl⟩
  obtain ⟨sg, hsg⟩ : ∃ s, g.size = s := ⟨_, rfl⟩
  obtain ⟨nf, hnf⟩ : ∃ n, f.L.length = n := ⟨_, rfl⟩
  obtain ⟨ng, hng⟩ : ∃ n, g.L.length = n := ⟨_, rfl⟩
  have HF1 := hid (fun (w' : World) (k : Kept w w') => few_to ⟨s1, L1⟩ _ w' (k.sp (sp_mk hP)) f hf sf hsf nf hnf)
  have HF2 := hid (fun (w' : World) (k : Kept w w') => few_to ⟨s2, L2⟩ _ w' (k.sp (sp_mk hQ)) g hg sg hsg ng hng)
  have HSF := hid hsf; have HSG := hid hsg; have HFF := hid hf; have HGG := hid hg
  obtain ⟨A, c, rfl⟩ := hP.shape
  obtain ⟨A', c', rfl⟩ := hQ.shape
  obtain ⟨m1, hm1⟩ : ∃ m, L1.length = m := ⟨_, rfl⟩
  obtain ⟨m2, hm2⟩ : ∃ m, L2.length = m := ⟨_, rfl⟩
  rw [hm1] at HF1 ⊢
  rw [hm2] at HF2 ⊢
  clear hm1 hm2 hP hQ hf hg hsf hsg hnf hng
  go_enter Try.func7, Try.ntmps7
  go_upto_region 1 with fail
  have k0 : Kept w (w.alloc (.cells #[.int .i64 s1, .slice A m1 c, .int .i64 s2, .slice A' m2 c', .int .i64 off, .int .i64 nn] 57)) := (Kept.refl w).alloc _
  have b0 : CB (w.alloc (.cells #[.int .i64 s1, .slice A m1 c, .int .i64 s2, .slice A' m2 c', .int .i64 off, .int .i64 nn] 57)) w.heap.size 57 [.int .i64 s1, .slice A m1 c, .int .i64 s2, .slice A' m2 c', .int .i64 off, .int .i64 nn] := cb_new w _ [.int .i64 s1, .slice A m1 c, .int .i64 s2, .slice A' m2 c', .int .i64 off, .int .i64 nn]
  generalize (w.alloc (.cells #[.int .i64 s1, .slice A m1 c, .int .i64 s2, .slice A' m2 c', .int .i64 off, .int .i64 nn] 57)) = w0 at *
  have K0 := hid k0; have B0 := hid b0
  generalize w.heap.size = D at *
  have HS := hid (show ∀ w', Kept w0 w' → w'.cell? ⟨D, 0, none⟩ = some (.int .i64 s1) ∧ w'.cell? ⟨D, 1, none⟩ = some (.slice A m1 c) ∧ w'.cell? ⟨D, 2, none⟩ = some (.int .i64 s2) ∧ w'.cell? ⟨D, 3, none⟩ = some (.slice A' m2 c') ∧ w'.cell? ⟨D, 4, none⟩ = some (.int .i64 off) ∧ w'.cell? ⟨D, 5, none⟩ = some (.int .i64 nn) from fun w' k => by
    have a1 := k.cb B0.out
    exact ⟨a1.cell 0 (by simp), a1.cell 1 (by simp), a1.cell 2 (by simp), a1.cell 3 (by simp), a1.cell 4 (by simp), a1.cell 5 (by simp)⟩)
  clear k0 b0
  go_cut [3, 4, 5, 6] (fun t3 t4 t5 t6 wx => ∃ (H : Nat) (A1 : Option Addr) (c1 : Nat) (G : Nat) (A2 : Option Addr) (c2 : Nat), t3 = .pointer (some ⟨H, 0, none⟩) ∧ t4 = .pointer (some ⟨G, 0, none⟩) ∧ t5 = .int .i64 off ∧ t6 = .int .i64 nn ∧ wx.cell? ⟨H, 0, none⟩ = some (.int .i64 sf) ∧ wx.cell? ⟨H, 1, none⟩ = some (.slice A1 nf c1) ∧ wx.cell? ⟨G, 0, none⟩ = some (.int .i64 sg) ∧ wx.cell? ⟨G, 1, none⟩ = some (.slice A2 ng c2) ∧ Pcs wx (.slice A1 nf c1) f.L ∧ Pcs wx (.slice A2 ng c2) g.L ∧ Kept w0 wx)
  case first => as_aux_lemma =>
    go_region_held3 (fun w' => w'.cell? ⟨D, 0, none⟩ = some (.int .i64 s1) ∧ w'.cell? ⟨D, 1, none⟩ = some (.slice A m1 c) ∧ w'.cell? ⟨D, 2, none⟩ = some (.int .i64 s2) ∧ w'.cell? ⟨D, 3, none⟩ = some (.slice A' m2 c') ∧ w'.cell? ⟨D, 4, none⟩ = some (.int .i64 off) ∧ w'.cell? ⟨D, 5, none⟩ = some (.int .i64 nn))
      (first | exact HS.out _ (Kept.refl _) | (go_split_ands; exact HS.out _ (by repeat (first | exact Kept.refl _ | assumption | refine Kept.alloc ?_ _ | refine Kept.drew ?_ | refine Kept.drewN ?_ _ | refine Kept.setCell ?_ (by simp; try omega) _ | refine Kept.trans ?_ (by assumption)))) | exact HS.out _ (by repeat (first | exact Kept.refl _ | assumption | refine Kept.alloc ?_ _ | refine Kept.drew ?_ | refine Kept.drewN ?_ _ | refine Kept.setCell ?_ (by simp; try omega) _ | refine Kept.trans ?_ (by assumption))))
      (first
      | (go_at_call 8; (with_reducible refine (HF1.out _ ?_).mono ?_); (focus exact K0.out.trans (by repeat (first | exact Kept.refl _ | assumption | refine Kept.alloc ?_ _ | refine Kept.drew ?_ | refine Kept.drewN ?_ _ | refine Kept.setCell ?_ (by simp; try omega) _ | refine Kept.trans ?_ (by assumption)))); rintro e w2 ⟨A1, c1, rfl, hF, k2⟩; have s2 : w0.heap.size ≤ w2.heap.size := (by have h := k2.size; first | omega | (simp at h; omega)); (try have n2 : w0.heap.size ≠ w2.heap.size := (by have h := k2.size; first | omega | (simp at h; omega))); (try have n2' : w2.heap.size ≠ w0.heap.size := Ne.symm n2); (try have n3 : w0.heap.size + 1 ≠ w2.heap.size := (by have h := k2.size; first | omega | (simp at h; omega))); (try have n3' : w2.heap.size ≠ w0.heap.size + 1 := Ne.symm n3); have xc := k2.cb (((Kept.refl (w0.drew.alloc Zb)).alloc Zb).cb (cb_made w0.drew 24 w0.heap.size rfl)); have x0 := xc.cell 0 (by simp); have x1 := xc.cell 1 (by simp); have y0 := xc.frozen 0; have y1 := xc.frozen 1; have zc := k2.cb (cb_made (w0.drew.alloc Zb) 24 (w0.heap.size + 1) (by simp)); have z0 := zc.cell 0 (by simp); have z1 := zc.cell 1 (by simp); have v0 := zc.frozen 0; have v1 := zc.frozen 1; simp only [List.getElem_cons_zero, List.getElem_cons_succ] at x0 x1 z0 z1)
      | (go_at_call 8; (with_reducible refine (HF1.out _ ?_).mono ?_); (focus exact K0.out.trans (by repeat (first | exact Kept.refl _ | assumption | refine Kept.alloc ?_ _ | refine Kept.drew ?_ | refine Kept.drewN ?_ _ | refine Kept.setCell ?_ (by simp; try omega) _ | refine Kept.trans ?_ (by assumption)))); rintro e w2 ⟨A1, c1, rfl, hF, k2⟩; have s2 : w0.heap.size ≤ w2.heap.size := (by have h := k2.size; first | omega | (simp at h; omega)); (try have n2 : w0.heap.size ≠ w2.heap.size := (by have h := k2.size; first | omega | (simp at h; omega))); (try have n2' : w2.heap.size ≠ w0.heap.size := Ne.symm n2); (try have n3 : w0.heap.size + 1 ≠ w2.heap.size := (by have h := k2.size; first | omega | (simp at h; omega))); (try have n3' : w2.heap.size ≠ w0.heap.size + 1 := Ne.symm n3); have xc := k2.cb (cb_made w0.drew 24 w0.heap.size rfl); have x0 := xc.cell 0 (by simp); have x1 := xc.cell 1 (by simp); have y0 := xc.frozen 0; have y1 := xc.frozen 1; simp only [List.getElem_cons_zero, List.getElem_cons_succ] at x0 x1)
      | (go_at_call 8; (with_reducible refine (HF1.out _ ?_).mono ?_); (focus exact K0.out.trans (by repeat (first | exact Kept.refl _ | assumption | refine Kept.alloc ?_ _ | refine Kept.drew ?_ | refine Kept.drewN ?_ _ | refine Kept.setCell ?_ (by simp; try omega) _ | refine Kept.trans ?_ (by assumption)))); rintro e w2 ⟨A1, c1, rfl, hF, k2⟩; have s2 : w0.heap.size ≤ w2.heap.size := (by have h := k2.size; first | omega | (simp at h; omega)); (try have n2 : w0.heap.size ≠ w2.heap.size := (by have h := k2.size; first | omega | (simp at h; omega))); (try have n2' : w2.heap.size ≠ w0.heap.size := Ne.symm n2); (try have n3 : w0.heap.size + 1 ≠ w2.heap.size := (by have h := k2.size; first | omega | (simp at h; omega))); (try have n3' : w2.heap.size ≠ w0.heap.size + 1 := Ne.symm n3))
      | (go_at_call 8; (with_reducible refine (HF2.out _ ?_).mono ?_); (focus exact K0.out.trans (by repeat (first | exact Kept.refl _ | assumption | refine Kept.alloc ?_ _ | refine Kept.drew ?_ | refine Kept.drewN ?_ _ | refine Kept.setCell ?_ (by simp; try omega) _ | refine Kept.trans ?_ (by assumption)))); rintro e w3 ⟨A2, c2, rfl, hG, k3⟩; have s3 : w2.heap.size ≤ w3.heap.size := (by have h := k3.size; first | omega | (simp at h; omega)); (try have ne0 : w2.heap.size ≠ w3.heap.size := (by have h := k2.size; have h3 := k3.size; first | omega | (simp at h h3; omega) | (simp at h3; omega) | (simp at h; omega))); (try have ne0' : w3.heap.size ≠ w2.heap.size := Ne.symm ne0); (try have ne1 : w2.heap.size + 1 ≠ w3.heap.size := (by have h := k2.size; have h3 := k3.size; first | omega | (simp at h h3; omega) | (simp at h3; omega) | (simp at h; omega))); (try have ne1' : w3.heap.size ≠ w2.heap.size + 1 := Ne.symm ne1); (try have ne2 : w0.heap.size ≠ w3.heap.size := (by have h := k2.size; have h3 := k3.size; first | omega | (simp at h h3; omega) | (simp at h3; omega) | (simp at h; omega))); (try have ne2' : w3.heap.size ≠ w0.heap.size := Ne.symm ne2); (try have ne3 : w0.heap.size + 1 ≠ w3.heap.size := (by have h := k2.size; have h3 := k3.size; first | omega | (simp at h h3; omega) | (simp at h3; omega) | (simp at h; omega))); (try have ne3' : w3.heap.size ≠ w0.heap.size + 1 := Ne.symm ne3); (try have ne4 : w0.heap.size ≠ w2.heap.size + 1 := (by have h := k2.size; have h3 := k3.size; first | omega | (simp at h h3; omega) | (simp at h3; omega) | (simp at h; omega))); (try have ne4' : w2.heap.size + 1 ≠ w0.heap.size := Ne.symm ne4); (try have ne5 : w0.heap.size + 1 ≠ w2.heap.size + 1 := (by have h := k2.size; have h3 := k3.size; first | omega | (simp at h h3; omega) | (simp at h3; omega) | (simp at h; omega))); (try have ne5' : w2.heap.size + 1 ≠ w0.heap.size + 1 := Ne.symm ne5); have px := k3.cb xc; have qx := k3.cb zc; have x0 := px.cell 0 (by simp); have x1 := px.cell 1 (by simp); have y0 := px.frozen 0; have y1 := px.frozen 1; have z0 := qx.cell 0 (by simp); have z1 := qx.cell 1 (by simp); have v0 := qx.frozen 0; have v1 := qx.frozen 1; simp only [List.getElem_cons_zero, List.getElem_cons_succ] at x0 x1 z0 z1)
      | (go_at_call 8; (with_reducible refine (HF2.out _ ?_).mono ?_); (focus exact K0.out.trans (by repeat (first | exact Kept.refl _ | assumption | refine Kept.alloc ?_ _ | refine Kept.drew ?_ | refine Kept.drewN ?_ _ | refine Kept.setCell ?_ (by simp; try omega) _ | refine Kept.trans ?_ (by assumption)))); rintro e w3 ⟨A2, c2, rfl, hG, k3⟩; have s3 : w2.heap.size ≤ w3.heap.size := (by have h := k3.size; first | omega | (simp at h; omega)); (try have ne0 : w2.heap.size ≠ w3.heap.size := (by have h := k2.size; have h3 := k3.size; first | omega | (simp at h h3; omega) | (simp at h3; omega) | (simp at h; omega))); (try have ne0' : w3.heap.size ≠ w2.heap.size := Ne.symm ne0); (try have ne1 : w2.heap.size + 1 ≠ w3.heap.size := (by have h := k2.size; have h3 := k3.size; first | omega | (simp at h h3; omega) | (simp at h3; omega) | (simp at h; omega))); (try have ne1' : w3.heap.size ≠ w2.heap.size + 1 := Ne.symm ne1); (try have ne2 : w0.heap.size ≠ w3.heap.size := (by have h := k2.size; have h3 := k3.size; first | omega | (simp at h h3; omega) | (simp at h3; omega) | (simp at h; omega))); (try have ne2' : w3.heap.size ≠ w0.heap.size := Ne.symm ne2); (try have ne3 : w0.heap.size + 1 ≠ w3.heap.size := (by have h := k2.size; have h3 := k3.size; first | omega | (simp at h h3; omega) | (simp at h3; omega) | (simp at h; omega))); (try have ne3' : w3.heap.size ≠ w0.heap.size + 1 := Ne.symm ne3); (try have ne4 : w0.heap.size ≠ w2.heap.size + 1 := (by have h := k2.size; have h3 := k3.size; first | omega | (simp at h h3; omega) | (simp at h3; omega) | (simp at h; omega))); (try have ne4' : w2.heap.size + 1 ≠ w0.heap.size := Ne.symm ne4); (try have ne5 : w0.heap.size + 1 ≠ w2.heap.size + 1 := (by have h := k2.size; have h3 := k3.size; first | omega | (simp at h h3; omega) | (simp at h3; omega) | (simp at h; omega))); (try have ne5' : w2.heap.size + 1 ≠ w0.heap.size + 1 := Ne.symm ne5); have px := k3.cb (((Kept.refl w2).alloc Zb).cb xc); have qx := k3.cb (cb_made w2 24 w2.heap.size rfl); have x0 := px.cell 0 (by simp); have x1 := px.cell 1 (by simp); have y0 := px.frozen 0; have y1 := px.frozen 1; have z0 := qx.cell 0 (by simp); have z1 := qx.cell 1 (by simp); have v0 := qx.frozen 0; have v1 := qx.frozen 1; simp only [List.getElem_cons_zero, List.getElem_cons_succ] at x0 x1 z0 z1)
      | (go_at_call 8; (with_reducible refine (HF2.out _ ?_).mono ?_); (focus exact K0.out.trans (by repeat (first | exact Kept.refl _ | assumption | refine Kept.alloc ?_ _ | refine Kept.drew ?_ | refine Kept.drewN ?_ _ | refine Kept.setCell ?_ (by simp; try omega) _ | refine Kept.trans ?_ (by assumption)))); rintro e w3 ⟨A2, c2, rfl, hG, k3⟩; have s3 : w2.heap.size ≤ w3.heap.size := (by have h := k3.size; first | omega | (simp at h; omega)); (try have ne0 : w2.heap.size ≠ w3.heap.size := (by have h := k2.size; have h3 := k3.size; first | omega | (simp at h h3; omega) | (simp at h3; omega) | (simp at h; omega))); (try have ne0' : w3.heap.size ≠ w2.heap.size := Ne.symm ne0); (try have ne1 : w2.heap.size + 1 ≠ w3.heap.size := (by have h := k2.size; have h3 := k3.size; first | omega | (simp at h h3; omega) | (simp at h3; omega) | (simp at h; omega))); (try have ne1' : w3.heap.size ≠ w2.heap.size + 1 := Ne.symm ne1); (try have ne2 : w0.heap.size ≠ w3.heap.size := (by have h := k2.size; have h3 := k3.size; first | omega | (simp at h h3; omega) | (simp at h3; omega) | (simp at h; omega))); (try have ne2' : w3.heap.size ≠ w0.heap.size := Ne.symm ne2); (try have ne3 : w0.heap.size + 1 ≠ w3.heap.size := (by have h := k2.size; have h3 := k3.size; first | omega | (simp at h h3; omega) | (simp at h3; omega) | (simp at h; omega))); (try have ne3' : w3.heap.size ≠ w0.heap.size + 1 := Ne.symm ne3); (try have ne4 : w0.heap.size ≠ w2.heap.size + 1 := (by have h := k2.size; have h3 := k3.size; first | omega | (simp at h h3; omega) | (simp at h3; omega) | (simp at h; omega))); (try have ne4' : w2.heap.size + 1 ≠ w0.heap.size := Ne.symm ne4); (try have ne5 : w0.heap.size + 1 ≠ w2.heap.size + 1 := (by have h := k2.size; have h3 := k3.size; first | omega | (simp at h h3; omega) | (simp at h3; omega) | (simp at h; omega))); (try have ne5' : w2.heap.size + 1 ≠ w0.heap.size + 1 := Ne.symm ne5); have px := k3.cb xc; have x0 := px.cell 0 (by simp); have x1 := px.cell 1 (by simp); have y0 := px.frozen 0; have y1 := px.frozen 1; simp only [List.getElem_cons_zero, List.getElem_cons_succ] at x0 x1)
      | (go_at_call 8; (with_reducible refine (HF2.out _ ?_).mono ?_); (focus exact K0.out.trans (by repeat (first | exact Kept.refl _ | assumption | refine Kept.alloc ?_ _ | refine Kept.drew ?_ | refine Kept.drewN ?_ _ | refine Kept.setCell ?_ (by simp; try omega) _ | refine Kept.trans ?_ (by assumption)))); rintro e w3 ⟨A2, c2, rfl, hG, k3⟩; have s3 : w2.heap.size ≤ w3.heap.size := (by have h := k3.size; first | omega | (simp at h; omega)); (try have ne0 : w2.heap.size ≠ w3.heap.size := (by have h := k2.size; have h3 := k3.size; first | omega | (simp at h h3; omega) | (simp at h3; omega) | (simp at h; omega))); (try have ne0' : w3.heap.size ≠ w2.heap.size := Ne.symm ne0); (try have ne1 : w2.heap.size + 1 ≠ w3.heap.size := (by have h := k2.size; have h3 := k3.size; first | omega | (simp at h h3; omega) | (simp at h3; omega) | (simp at h; omega))); (try have ne1' : w3.heap.size ≠ w2.heap.size + 1 := Ne.symm ne1); (try have ne2 : w0.heap.size ≠ w3.heap.size := (by have h := k2.size; have h3 := k3.size; first | omega | (simp at h h3; omega) | (simp at h3; omega) | (simp at h; omega))); (try have ne2' : w3.heap.size ≠ w0.heap.size := Ne.symm ne2); (try have ne3 : w0.heap.size + 1 ≠ w3.heap.size := (by have h := k2.size; have h3 := k3.size; first | omega | (simp at h h3; omega) | (simp at h3; omega) | (simp at h; omega))); (try have ne3' : w3.heap.size ≠ w0.heap.size + 1 := Ne.symm ne3); (try have ne4 : w0.heap.size ≠ w2.heap.size + 1 := (by have h := k2.size; have h3 := k3.size; first | omega | (simp at h h3; omega) | (simp at h3; omega) | (simp at h; omega))); (try have ne4' : w2.heap.size + 1 ≠ w0.heap.size := Ne.symm ne4); (try have ne5 : w0.heap.size + 1 ≠ w2.heap.size + 1 := (by have h := k2.size; have h3 := k3.size; first | omega | (simp at h h3; omega) | (simp at h3; omega) | (simp at h; omega))); (try have ne5' : w2.heap.size + 1 ≠ w0.heap.size + 1 := Ne.symm ne5); have px := k3.cb (((Kept.refl (w2.alloc Zb)).alloc Zb).cb (cb_made w2 24 w2.heap.size rfl)); have qx := k3.cb (cb_made (w2.alloc Zb) 24 (w2.heap.size + 1) (by simp)); have x0 := px.cell 0 (by simp); have x1 := px.cell 1 (by simp); have y0 := px.frozen 0; have y1 := px.frozen 1; have z0 := qx.cell 0 (by simp); have z1 := qx.cell 1 (by simp); have v0 := qx.frozen 0; have v1 := qx.frozen 1; simp only [List.getElem_cons_zero, List.getElem_cons_succ] at x0 x1 z0 z1)
      | (go_at_call 8; (with_reducible refine (HF2.out _ ?_).mono ?_); (focus exact K0.out.trans (by repeat (first | exact Kept.refl _ | assumption | refine Kept.alloc ?_ _ | refine Kept.drew ?_ | refine Kept.drewN ?_ _ | refine Kept.setCell ?_ (by simp; try omega) _ | refine Kept.trans ?_ (by assumption)))); rintro e w3 ⟨A2, c2, rfl, hG, k3⟩; have s3 : w2.heap.size ≤ w3.heap.size := (by have h := k3.size; first | omega | (simp at h; omega)); (try have ne0 : w2.heap.size ≠ w3.heap.size := (by have h := k2.size; have h3 := k3.size; first | omega | (simp at h h3; omega) | (simp at h3; omega) | (simp at h; omega))); (try have ne0' : w3.heap.size ≠ w2.heap.size := Ne.symm ne0); (try have ne1 : w2.heap.size + 1 ≠ w3.heap.size := (by have h := k2.size; have h3 := k3.size; first | omega | (simp at h h3; omega) | (simp at h3; omega) | (simp at h; omega))); (try have ne1' : w3.heap.size ≠ w2.heap.size + 1 := Ne.symm ne1); (try have ne2 : w0.heap.size ≠ w3.heap.size := (by have h := k2.size; have h3 := k3.size; first | omega | (simp at h h3; omega) | (simp at h3; omega) | (simp at h; omega))); (try have ne2' : w3.heap.size ≠ w0.heap.size := Ne.symm ne2); (try have ne3 : w0.heap.size + 1 ≠ w3.heap.size := (by have h := k2.size; have h3 := k3.size; first | omega | (simp at h h3; omega) | (simp at h3; omega) | (simp at h; omega))); (try have ne3' : w3.heap.size ≠ w0.heap.size + 1 := Ne.symm ne3); (try have ne4 : w0.heap.size ≠ w2.heap.size + 1 := (by have h := k2.size; have h3 := k3.size; first | omega | (simp at h h3; omega) | (simp at h3; omega) | (simp at h; omega))); (try have ne4' : w2.heap.size + 1 ≠ w0.heap.size := Ne.symm ne4); (try have ne5 : w0.heap.size + 1 ≠ w2.heap.size + 1 := (by have h := k2.size; have h3 := k3.size; first | omega | (simp at h h3; omega) | (simp at h3; omega) | (simp at h; omega))); (try have ne5' : w2.heap.size + 1 ≠ w0.heap.size + 1 := Ne.symm ne5); have px := k3.cb (cb_made w2 24 w2.heap.size rfl); have x0 := px.cell 0 (by simp); have x1 := px.cell 1 (by simp); have y0 := px.frozen 0; have y1 := px.frozen 1; simp only [List.getElem_cons_zero, List.getElem_cons_succ] at x0 x1)
      | (go_at_call 8; (with_reducible refine (HF2.out _ ?_).mono ?_); (focus exact K0.out.trans (by repeat (first | exact Kept.refl _ | assumption | refine Kept.alloc ?_ _ | refine Kept.drew ?_ | refine Kept.drewN ?_ _ | refine Kept.setCell ?_ (by simp; try omega) _ | refine Kept.trans ?_ (by assumption)))); rintro e w3 ⟨A2, c2, rfl, hG, k3⟩; have s3 : w2.heap.size ≤ w3.heap.size := (by have h := k3.size; first | omega | (simp at h; omega)); (try have ne0 : w2.heap.size ≠ w3.heap.size := (by have h := k2.size; have h3 := k3.size; first | omega | (simp at h h3; omega) | (simp at h3; omega) | (simp at h; omega))); (try have ne0' : w3.heap.size ≠ w2.heap.size := Ne.symm ne0); (try have ne1 : w2.heap.size + 1 ≠ w3.heap.size := (by have h := k2.size; have h3 := k3.size; first | omega | (simp at h h3; omega) | (simp at h3; omega) | (simp at h; omega))); (try have ne1' : w3.heap.size ≠ w2.heap.size + 1 := Ne.symm ne1); (try have ne2 : w0.heap.size ≠ w3.heap.size := (by have h := k2.size; have h3 := k3.size; first | omega | (simp at h h3; omega) | (simp at h3; omega) | (simp at h; omega))); (try have ne2' : w3.heap.size ≠ w0.heap.size := Ne.symm ne2); (try have ne3 : w0.heap.size + 1 ≠ w3.heap.size := (by have h := k2.size; have h3 := k3.size; first | omega | (simp at h h3; omega) | (simp at h3; omega) | (simp at h; omega))); (try have ne3' : w3.heap.size ≠ w0.heap.size + 1 := Ne.symm ne3); (try have ne4 : w0.heap.size ≠ w2.heap.size + 1 := (by have h := k2.size; have h3 := k3.size; first | omega | (simp at h h3; omega) | (simp at h3; omega) | (simp at h; omega))); (try have ne4' : w2.heap.size + 1 ≠ w0.heap.size := Ne.symm ne4); (try have ne5 : w0.heap.size + 1 ≠ w2.heap.size + 1 := (by have h := k2.size; have h3 := k3.size; first | omega | (simp at h h3; omega) | (simp at h3; omega) | (simp at h; omega))); (try have ne5' : w2.heap.size + 1 ≠ w0.heap.size + 1 := Ne.symm ne5)))
    all_goals (
      rename_i hq
      clear hq
      have K03 : Kept w0 w3 := by first | exact ((Kept.refl w0).drew.trans k2).trans k3 | exact ((Kept.refl w0).drew.trans (k2.alloc _)).trans k3 | exact ((Kept.refl w0).drew.trans ((k2.alloc _).alloc _)).trans k3 | exact (((Kept.refl w0).drew.alloc _).trans k2).trans k3 | exact (((Kept.refl w0).drew.alloc _).trans (k2.alloc _)).trans k3 | exact (((Kept.refl w0).drew.alloc _).trans ((k2.alloc _).alloc _)).trans k3 | exact ((((Kept.refl w0).drew.alloc _).alloc _).trans k2).trans k3 | exact ((((Kept.refl w0).drew.alloc _).alloc _).trans (k2.alloc _)).trans k3 | exact ((((Kept.refl w0).drew.alloc _).alloc _).trans ((k2.alloc _).alloc _)).trans k3
      go_wp2_with fail
      go_meet
      refine ⟨_, A1, c1, _, A2, c2, rfl, rfl, rfl, rfl, ?_, ?_, ?_, ?_, ?_, ?_, ?_⟩
      · simp [go_sem, *]
      · simp [go_sem, *]
      · simp [go_sem, *]
      · simp [go_sem, *]
      · refine hF.agree (fun b hb1 hb2 => ?_)
        (try simp at hb1)
        (repeat (first
          | (with_reducible rfl)
          | (rw [heap_st (by first | omega | (simp; omega))])
          | (rw [heap_al (by first | omega | (simp; omega))])
          | (rw [k3.block b (by first | omega | (simp; omega))])))
      · refine hG.agree (fun b hb1 hb2 => ?_)
        (try simp at hb1)
        (repeat (first
          | (with_reducible rfl)
          | (rw [heap_st (by first | omega | (simp; omega))])
          | (rw [heap_al (by first | omega | (simp; omega))])))
      · (repeat (first
          | (with_reducible exact K03)
          | (with_reducible refine Kept.alloc ?_ _)
          | (refine Kept.setCell ?_ (by first | (show _ ≤ _; omega) | (simp; done) | (simp; omega)) _))))
  case rest =>
    obtain ⟨H, A1, c1, G, A2, c2, rfl, rfl, rfl, rfl, h0, h1, g0, g1, pf, pg, hk⟩ := hcut
    have KW := hid (K0.out.trans hk); have PF := hid pf; have PG := hid pg
    have HM1 := hid (fun (u : Value) (w' : World) (k : Sp w' u f) => may_any f u w' k)
    have HM2 := hid (fun (u : Value) (w' : World) (k : Sp w' u f) => rmay_any f u w' k)
    have HMG := hid (fun (u : Value) (w' : World) (k : Sp w' u g) => rmay_any g u w' k)
    have HRD := hid (fun (u : Value) (w' : World) (k : Sp w' u f) => read_gen f off nn u w' k ho1 hn1)
    have HBL := hid (fun (u : Value) (w' : World) (k : Sp w' u f) => block_gen f off u w' k)
    have HSA := hid (fun (u v : Value) (w' : World) (k : Sp w' u f) (k2 : Sp w' v g) => ssame_any f g u v w' k k2)
    have HCE := hid (show ∀ w', Kept wc w' → w'.cell? ⟨H, 0, none⟩ = some (.int .i64 sf) ∧ w'.cell? ⟨H, 1, none⟩ = some (.slice A1 nf c1) ∧ w'.cell? ⟨G, 0, none⟩ = some (.int .i64 sg) ∧ w'.cell? ⟨G, 1, none⟩ = some (.slice A2 ng c2) from fun w' k => ⟨k.keeps h0, k.keeps h1, k.keeps g0, k.keeps g1⟩)
    clear pf pg hk HS B0 K0 HF1 HF2
    cases hmb : mayB f with
    | false =>
      rw [hmb] at HM1 HM2
      have HSF0 : sameB f g = false := by unfold sameB; rw [hmb]; rfl
      rw [HSF0] at HSA
      have HRE := hid (fun q e8 (h : (mayB f = false ∨ off < 0 ∨ nn < 0) → q = 0 ∧ e8 = (1 : Int)) => h (.inl hmb))
      have HBF := hid (show (mayB f && (findL f.L off).isSome) = false from by rw [hmb]; rfl)
      rw [HBF.out] at HBL
      clear hmb HSF0
      go_upto_region 4 with (first
        | (go_at_call 20; (with_reducible refine (HRD.out _ _ ?_).mono ?_); (focus exact sp_to HSF.out PF.out); rintro e w2 ⟨A3, q3, c3, e8, rfl, k2, hbad, -⟩; obtain ⟨rfl, rfl⟩ := HRE.out _ _ hbad; clear hbad; have a0 := k2.keeps h0; have a1 := k2.keeps h1)
        | (go_at_call 23; (with_reducible refine (HBL.out _ _ ?_).mono ?_); (focus exact sp_to HSF.out (k2.pcs PF.out)); rintro e w3 ⟨A4, n4, c4, rfl, k3, hz, -⟩; obtain rfl := hz (by first | rfl | trivial); clear hz))
      have K3 := hid (k2.trans k3)
      clear a0 a1 h0 h1 g0 g1 k2 k3
      obtain ⟨h0, h1, g0, g1⟩ := HCE.out _ K3.out
      go_cut [43] (fun t wx => t = .bool false ∧ Kept wc wx)
      case first => as_aux_lemma =>
        go_region_held3 (fun w' => w'.cell? ⟨H, 0, none⟩ = some (.int .i64 sf) ∧ w'.cell? ⟨H, 1, none⟩ = some (.slice A1 nf c1))
          (first | exact ⟨h0, h1⟩ | exact ⟨(HCE.out _ (K3.out.trans (by repeat (first | exact Kept.refl _ | assumption | refine Kept.alloc ?_ _ | refine Kept.drew ?_ | refine Kept.drewN ?_ _ | refine Kept.setCell ?_ (by simp; try omega) _ | refine Kept.trans ?_ (by assumption))))).1, (HCE.out _ (K3.out.trans (by repeat (first | exact Kept.refl _ | assumption | refine Kept.alloc ?_ _ | refine Kept.drew ?_ | refine Kept.drewN ?_ _ | refine Kept.setCell ?_ (by simp; try omega) _ | refine Kept.trans ?_ (by assumption))))).2.1⟩ | (go_split_ands; exact ⟨(HCE.out _ (K3.out.trans (by repeat (first | exact Kept.refl _ | assumption | refine Kept.alloc ?_ _ | refine Kept.drew ?_ | refine Kept.drewN ?_ _ | refine Kept.setCell ?_ (by simp; try omega) _ | refine Kept.trans ?_ (by assumption))))).1, (HCE.out _ (K3.out.trans (by repeat (first | exact Kept.refl _ | assumption | refine Kept.alloc ?_ _ | refine Kept.drew ?_ | refine Kept.drewN ?_ _ | refine Kept.setCell ?_ (by simp; try omega) _ | refine Kept.trans ?_ (by assumption))))).2.1⟩))
          (first
          | (go_at_call 21; (with_reducible refine (HM1.out _ _ ?_).mono ?_); (focus exact sp_to HSF.out ((K3.out.trans (by repeat (first | exact Kept.refl _ | assumption | refine Kept.alloc ?_ _ | refine Kept.drew ?_ | refine Kept.drewN ?_ _ | refine Kept.setCell ?_ (by simp; try omega) _ | refine Kept.trans ?_ (by assumption)))).pcs PF.out)); rintro e w4 ⟨rfl, k4⟩)
          | (go_at_call 11; (with_reducible refine (HM2.out _ _ ?_).mono ?_); (focus exact sp_to HSF.out ((K3.out.trans (by repeat (first | exact Kept.refl _ | assumption | refine Kept.alloc ?_ _ | refine Kept.drew ?_ | refine Kept.drewN ?_ _ | refine Kept.setCell ?_ (by simp; try omega) _ | refine Kept.trans ?_ (by assumption)))).pcs PF.out)); rintro e w5 ⟨rfl, k5⟩))
        all_goals (
          go_wp2_with fail
          go_meet
          exact ⟨by first | rfl | simp, K3.out.trans (by repeat (first | exact Kept.refl _ | assumption | refine Kept.alloc ?_ _ | refine Kept.drew ?_ | refine Kept.drewN ?_ _ | refine Kept.setCell ?_ (by simp; try omega) _ | refine Kept.trans ?_ (by assumption)))⟩)
      case rest =>
        obtain ⟨rfl, hk⟩ := hcut
        rename_i w4
        have K4 := hid hk
        clear h0 h1 g0 g1 hk
        obtain ⟨h0, h1, g0, g1⟩ := HCE.out _ K4.out
        go_wp2_with (first
          | (go_at_call 11; (with_reducible refine (HM2.out _ _ ?_).mono ?_); (focus exact sp_to HSF.out (K4.out.pcs PF.out)); rintro e w5 ⟨rfl, k5⟩; obtain ⟨m0, m1, m2, m3⟩ := HCE.out _ (K4.out.trans k5))
          | (go_at_call 22; (with_reducible refine (HSA.out _ _ _ ?_ ?_).mono ?_); (focus exact sp_to HSF.out ((K4.out.trans k5).pcs PF.out)); (focus exact sp_to HSG.out ((K4.out.trans k5).pcs PG.out)); rintro e w6 ⟨rfl, k6⟩)
          | (go_at_call 15; (with_reducible refine (awake_any _).mono ?_); rintro e w7 ⟨rfl, k7⟩))
        go_ret
        exact ⟨rfl, KW.out.trans (K4.out.trans (k5.trans (k6.trans k7)))⟩
    | true =>
      have HV := hid (mayB_iff.1 hmb)
      rw [hmb] at HM1 HM2
      rw [same_str HV.out g] at HSA
      have HRE := hid (fun q e8 (h : (mayB f = false ∨ off < 0 ∨ nn < 0) → q = 0 ∧ e8 = (1 : Int)) (hb : off < 0 ∨ nn < 0) => h (.inr hb))
      have HRG := hid (fun (e8 : Int) (P : Prop) (h : mayB f = true → 0 ≤ off → 0 ≤ nn → e8 = (0 : Int) ∧ P) (h1 : 0 ≤ off) (h2 : 0 ≤ nn) => h hmb h1 h2)
      have HBT := hid (fun (n4 : Nat) (P : Pc → Prop) (h : mayB f = true → ∀ p, findL f.L off = some p → n4 = 128 ∧ P p) => h hmb)
      obtain ⟨is, his⟩ : ∃ is, (findL f.L off).isSome = is := ⟨_, rfl⟩
      rw [hmb, Bool.true_and, his] at HBL
      have HIS := hid his
      clear hmb his
      go_upto_region 4 with (first
        | (go_at_call 20; (with_reducible refine (HRD.out _ _ ?_).mono ?_); (focus exact sp_to HSF.out PF.out); rintro e w2 ⟨A3, q3, c3, e8, rfl, k2, hbad, hgood⟩; have HBAD := hid (HRE.out _ _ hbad); have HGOOD := hid (HRG.out e8 _ hgood); clear hbad hgood; have a0 := k2.keeps h0; have a1 := k2.keeps h1)
        | (go_at_call 23; (with_reducible refine (HBL.out _ _ ?_).mono ?_); (focus exact sp_to HSF.out (k2.pcs PF.out)); rintro e w3 ⟨A4, n4, c4, rfl, k3, hz, hp⟩; have HNO := hid hz; (first | (have HYE := hid (HBT.out _ _ hp)) | (have HYE := hid (hp rfl)) | (have HYE := hid (hp trivial)) | (have HYE := hid hp)); clear hz hp))
      have K3 := hid (k2.trans k3); have K23 := hid k3
      clear a0 a1 h0 h1 g0 g1 k2 k3
      obtain ⟨h0, h1, g0, g1⟩ := HCE.out _ K3.out
      go_cut [43] (fun t wx => t = .bool false ∧ Kept w3 wx)
      case first => as_aux_lemma =>
        go_region_held3 (fun w' => w'.cell? ⟨H, 0, none⟩ = some (.int .i64 sf) ∧ w'.cell? ⟨H, 1, none⟩ = some (.slice A1 nf c1))
          (first | exact ⟨h0, h1⟩ | exact ⟨(HCE.out _ (K3.out.trans (by repeat (first | exact Kept.refl _ | assumption | refine Kept.alloc ?_ _ | refine Kept.drew ?_ | refine Kept.drewN ?_ _ | refine Kept.setCell ?_ (by simp; try omega) _ | refine Kept.trans ?_ (by assumption))))).1, (HCE.out _ (K3.out.trans (by repeat (first | exact Kept.refl _ | assumption | refine Kept.alloc ?_ _ | refine Kept.drew ?_ | refine Kept.drewN ?_ _ | refine Kept.setCell ?_ (by simp; try omega) _ | refine Kept.trans ?_ (by assumption))))).2.1⟩ | (go_split_ands; exact ⟨(HCE.out _ (K3.out.trans (by repeat (first | exact Kept.refl _ | assumption | refine Kept.alloc ?_ _ | refine Kept.drew ?_ | refine Kept.drewN ?_ _ | refine Kept.setCell ?_ (by simp; try omega) _ | refine Kept.trans ?_ (by assumption))))).1, (HCE.out _ (K3.out.trans (by repeat (first | exact Kept.refl _ | assumption | refine Kept.alloc ?_ _ | refine Kept.drew ?_ | refine Kept.drewN ?_ _ | refine Kept.setCell ?_ (by simp; try omega) _ | refine Kept.trans ?_ (by assumption))))).2.1⟩))
          (first
          | (go_at_call 21; (with_reducible refine (HM1.out _ _ ?_).mono ?_); (focus exact sp_to HSF.out ((K3.out.trans (by repeat (first | exact Kept.refl _ | assumption | refine Kept.alloc ?_ _ | refine Kept.drew ?_ | refine Kept.drewN ?_ _ | refine Kept.setCell ?_ (by simp; try omega) _ | refine Kept.trans ?_ (by assumption)))).pcs PF.out)); rintro e w4 ⟨rfl, k4⟩)
          | (go_at_call 11; (with_reducible refine (HM2.out _ _ ?_).mono ?_); (focus exact sp_to HSF.out ((K3.out.trans (by repeat (first | exact Kept.refl _ | assumption | refine Kept.alloc ?_ _ | refine Kept.drew ?_ | refine Kept.drewN ?_ _ | refine Kept.setCell ?_ (by simp; try omega) _ | refine Kept.trans ?_ (by assumption)))).pcs PF.out)); rintro e w5 ⟨rfl, k5⟩))
        all_goals (
          go_wp2_with fail
          go_meet
          exact ⟨by first | rfl | simp, (by repeat (first | exact Kept.refl _ | assumption | refine Kept.alloc ?_ _ | refine Kept.drew ?_ | refine Kept.drewN ?_ _ | refine Kept.setCell ?_ (by simp; try omega) _ | refine Kept.trans ?_ (by assumption)))⟩)
      case rest =>
        obtain ⟨rfl, hk⟩ := hcut
        have K4 := hid (K3.out.trans hk)
        have HYE4 := hid (fun p hp => (⟨(HYE.out p hp).1, hk.byts (HYE.out p hp).2⟩ : n4 = 128 ∧ Byts wc (.slice A4 n4 c4) p.b))
        have K24 := hid (K23.out.trans hk)
        have PF4 := hid (K4.out.pcs PF.out); have PG4 := hid (K4.out.pcs PG.out); have KW4 := hid (KW.out.trans K4.out)
        clear h0 h1 g0 g1 hk HYE K3 K23
        obtain ⟨h0, h1, g0, g1⟩ := HCE.out _ K4.out
        obtain ⟨nB, hnB⟩ : ∃ nB, (flB f).length = nB := ⟨_, rfl⟩
        obtain ⟨nT, hnT⟩ : ∃ nT, (flT f).length = nT := ⟨_, rfl⟩
        have HO := hid (fun (u : Value) (w' : World) (k : Sp w' u f) => of_to f u w' k HV.out nB hnB nT hnT)
        have hl := fl_lim HV.out
        rw [hnB, hnT] at hl
        have HNB := hid hnB; have HNT := hid hnT
        clear hnB hnT
        go_upto_region 9 with (first
          | (go_at_call 11; (with_reducible refine (HM2.out _ _ ?_).mono ?_); (focus exact sp_to HSF.out PF4.out); rintro e w5 ⟨rfl, k5⟩; have a0 := k5.keeps h0; have a1 := k5.keeps h1)
          | (go_at_call 13; (with_reducible refine (HO.out _ _ ?_).mono ?_); (focus exact sp_to HSF.out (k5.pcs PF4.out)); rintro e w6 ⟨A7, c7, A8, c8, rfl, hR, k6⟩))
        obtain ⟨vB, vT, hv7, hyB, hyT⟩ := hR
        simp only [Value.agg.injEq, Array.mk.injEq, List.cons.injEq, and_true] at hv7
        obtain ⟨rfl, rfl⟩ := hv7
        have k7 : Kept w6 (w6.alloc (.cells #[.slice A7 nB c7, .slice A8 nT c8] 36)) := (Kept.refl w6).alloc _
        have b7 : CB (w6.alloc (.cells #[.slice A7 nB c7, .slice A8 nT c8] 36)) w6.heap.size 36 [.slice A7 nB c7, .slice A8 nT c8] := cb_new w6 36 [.slice A7 nB c7, .slice A8 nT c8]
        generalize (w6.alloc (.cells #[.slice A7 nB c7, .slice A8 nT c8] 36)) = w7 at *
        generalize w6.heap.size = Y at *
        have K47 := hid (k5.trans (k6.trans k7))
        have YB := hid (k7.byts hyB); have YT := hid (k7.bools hyT); have B7 := hid b7
        have y0 := b7.cell 0 (by simp); have y1 := b7.cell 1 (by simp)
        simp only [List.getElem_cons_zero, List.getElem_cons_succ] at y0 y1
        have HYE7 := hid (fun p hp => (⟨(HYE4.out p hp).1, K47.out.byts (HYE4.out p hp).2⟩ : n4 = 128 ∧ Byts w7 (.slice A4 n4 c4) p.b))
        clear h0 h1 g0 g1 a0 a1 k5 k6 k7 b7 hyB hyT HYE4
        obtain ⟨h0, h1, g0, g1⟩ := HCE.out _ (K4.out.trans K47.out)
        go_cut [12] (fun t wx => t = .bool is ∧ w7 = wx)
        case first => as_aux_lemma =>
          clear h0 h1 g0 g1
          by_cases ho0 : 0 ≤ off
          · obtain ⟨o, rfl⟩ : ∃ o : Nat, off = (o : Int) := ⟨off.toNat, by omega⟩
            have q0 : decide ((0 : Int) ≤ (o : Int)) = true := decide_eq_true ho0
            by_cases hlt : o < nT
            · have q1 : decide ((o : Int) < (nT : Int)) = true := decide_eq_true (by omega)
              have q2 : (o : Int) < (nT : Int) := by omega
              obtain ⟨b5, o5, rfl, hc5⟩ := YT.out.cell o hlt
              rw [flT_at HV.out] at hc5
              have e : hasL f.L o = is := HIS.out
              rw [e] at hc5
              clear e hlt
              go_wp2_with fail
              go_meet
              exact ⟨rfl, rfl⟩
            · have q1 : decide ((o : Int) < (nT : Int)) = false := decide_eq_false (by omega)
              have q2 : ¬ (o : Int) < (nT : Int) := by omega
              have e : is = false := by
                rw [← HIS.out]
                exact has_beyond HV.out o (by have h := HNT.out; rw [flT_len] at h; have := needI_le HV.out.s1; omega)
              subst e
              clear hlt q1
              go_wp2_with fail
              go_meet
              exact ⟨rfl, rfl⟩
          · have q0 : decide ((0 : Int) ≤ off) = false := decide_eq_false ho0
            have e : is = false := by rw [← HIS.out, find_neg HV.out (by omega)]; rfl
            subst e
            go_wp2_with fail
            go_meet
            exact ⟨rfl, rfl⟩
        case rest =>
        obtain ⟨rfl, rfl⟩ := hcut
        go_upto_region 10 with fail
        go_cut [100] (fun t wx => t = .bool false ∧ w7 = wx)
        case first => as_aux_lemma =>
          cases is with
          | false =>
            go_wp2_with fail
            go_meet
            exact ⟨rfl, rfl⟩
          | true =>
            obtain ⟨p, hp⟩ := Option.isSome_iff_exists.1 HIS.out
            obtain ⟨rfl, -⟩ := HYE7.out p hp
            clear hp
            go_wp2_with fail
            go_meet
            exact ⟨rfl, rfl⟩
        case rest =>
        obtain ⟨rfl, rfl⟩ := hcut
        go_upto_block 0 with fail
        go_cut [13, 14] from 101 (fun _ _ wx => w7 = wx)
        case first => as_aux_lemma =>
          cases is with
          | false =>
            go_wp2_with fail
            go_loopw [13] (fun t wr => t = .int .i64 0 ∧ w7 = wr) (fun _ _ => 0)
            case atStart => exact ⟨rfl, rfl⟩
            case round =>
              obtain ⟨rfl, rfl⟩ := hrel
              go_wp2_with fail
              go_meet
              first | rfl | exact rfl | trivial
          | true =>
            obtain ⟨p, hp⟩ := Option.isSome_iff_exists.1 HIS.out
            obtain ⟨rfl, hX⟩ := HYE7.out p hp
            have hpos : 0 ≤ off := by
              rcases Int.lt_or_le off 0 with h | h
              · rw [find_neg HV.out h] at hp; cases hp
              · exact h
            obtain ⟨o, rfl⟩ : ∃ o : Nat, off = (o : Int) := ⟨off.toNat, by omega⟩
            have ho9 : o ≤ 4000 := by
              obtain ⟨m1, m2⟩ := find_some hp
              have := (HV.out.pc p m1).2.1
              have := HV.out.s1
              omega
            have HEQ := hid (fun k (hk : k < 128) => blk_at HV.out hp k hk)
            have HX := hid hX
            clear hp hX hpos h0 h1 g0 g1
            go_wp2_with fail
            go_loopw [13] (fun t wr => ∃ k : Nat, k ≤ 128 ∧ t = .int .i64 k ∧ w7 = wr) (fun t _ => 128 - (intOf t).toNat)
            case atStart => exact ⟨0, by omega, rfl, rfl⟩
            case round =>
              obtain ⟨k, hk, rfl, rfl⟩ := hrel
              by_cases hlt : k < 128
              · have e1 : (k : Int) < 128 := by omega
                have e0 : (0 : Int) ≤ (k : Int) := by omega
                obtain ⟨J, hJ⟩ : ∃ J : Nat, 128 * o + k = J := ⟨_, rfl⟩
                have q1 : IntKind.i64.wrap (128 * (o : Int)) = 128 * (o : Int) := IntWalk.i64_in _ (by omega)
                have q2 : IntKind.i64.wrap (128 * (o : Int) + (k : Int)) = (J : Int) := by rw [IntWalk.i64_in _ (by omega)]; omega
                have q3 : IntKind.i64.wrap ((k : Int) + 1) = (k : Int) + 1 := IntWalk.i64_in _ (by omega)
                have q4 : IntKind.i64.wrap (J : Int) = (J : Int) := IntWalk.i64_in _ (by omega)
                obtain ⟨b5, o5, rfl, hc5⟩ := HX.out.cell k hlt
                rw [HEQ.out k hlt, hJ] at hc5
                have j0 : (0 : Int) ≤ (J : Int) := by omega
                obtain ⟨ub, hub⟩ : ∃ ub : Int, (((flB f).getD J 0).toNat : Int) = ub := ⟨_, rfl⟩
                rw [hub] at hc5
                by_cases hJB : J < nB
                · have j1 : (J : Int) < (nB : Int) := by omega
                  obtain ⟨b6, o6, rfl, hc6⟩ := YB.out.cell J hJB
                  rw [hub] at hc6
                  have hne : (ub != ub) = false := by simp
                  clear hub hJ hlt hk
                  go_wp2_with fail
                  go_roundw
                  case rel => exact ⟨k + 1, by omega, by go_num, by first | rfl | trivial⟩
                  case measure => simp [intOf]; omega
                · have j1 : ¬ (J : Int) < (nB : Int) := by omega
                  have e : (flB f).getD J 0 = 0 := by rw [List.getD_eq_getElem?_getD, List.getElem?_eq_none (by rw [HNB.out]; omega)]; rfl
                  rw [e] at hub
                  have hub : ub = 0 := by rw [← hub]; rfl
                  subst hub
                  clear hJ hlt hk e hJB
                  go_wp2_with fail
                  go_roundw
                  case rel => exact ⟨k + 1, by omega, by go_num, by first | rfl | trivial⟩
                  case measure => simp [intOf]; omega
              · have hk8 : k = 128 := by omega
                subst hk8
                go_wp2_with fail
                go_meet
                first | rfl | exact rfl | trivial
        case rest =>
        obtain rfl := hcut
        go_upto_region 20 with fail
        have cvB := conv_byts YB.out
        have HCV := hid (fun (w' : World) (k : Kept w7 w') => conv_byts (k.byts YB.out))
        obtain ⟨sB, hsB⟩ : ∃ sB, bstr (flB f) = sB := ⟨_, rfl⟩
        rw [hsB] at HCV
        have HSB := hid hsB
        clear hsB cvB
        have HS20 := hid (show ∀ w', Kept w7 w' → w'.cell? ⟨H, 0, none⟩ = some (.int .i64 sf) ∧ w'.cell? ⟨H, 1, none⟩ = some (.slice A1 nf c1) ∧ w'.cell? ⟨G, 0, none⟩ = some (.int .i64 sg) ∧ w'.cell? ⟨G, 1, none⟩ = some (.slice A2 ng c2) ∧ w'.cell? ⟨Y, 0, none⟩ = some (.slice A7 nB c7) ∧ (convert 25 9 (.slice A7 nB c7)).run Try.prog w' = .ok (.string sB) w' from fun w' k => by
          obtain ⟨a, b, c, d⟩ := HCE.out _ ((K4.out.trans K47.out).trans k)
          exact ⟨a, b, c, d, k.keeps y0, HCV.out w' k⟩)
        go_cut [145] (fun t wx => t = .bool false ∧ Kept w7 wx)
        case first => as_aux_lemma =>
          cases hmg : mayB g with
          | false =>
          rw [hmg] at HMG HSA
          rw [Bool.false_and] at HSA
          clear hmg h0 h1 g0 g1 y0 y1
          refine wp_region_held_drew (S := fun w' => w'.cell? ⟨H, 0, none⟩ = some (.int .i64 sf) ∧ w'.cell? ⟨H, 1, none⟩ = some (.slice A1 nf c1) ∧ w'.cell? ⟨G, 0, none⟩ = some (.int .i64 sg) ∧ w'.cell? ⟨G, 1, none⟩ = some (.slice A2 ng c2) ∧ w'.cell? ⟨Y, 0, none⟩ = some (.slice A7 nB c7) ∧ (convert 25 9 (.slice A7 nB c7)).run Try.prog w' = .ok (.string sB) w') (by kernel_rfl) (HS20.out _ (Kept.refl _).drew) (fun hHeld => ?_)
          refine wpAnyH_take (i := 0) (v := ?_) rfl (by kernel_rfl) (by kernel_rfl) (by kernel_rfl) (fun _ _ _ h => h) (Or.inl ⟨by rfl, ?_⟩) (by assumption) ?_
          rotate_left
          focus (intro w hSw; (try dsimp only at hSw); go_simp; first | done | with_reducible rfl)
          (try simp only [List.getElem_toArray, List.getElem_cons_zero, List.getElem_cons_succ, Act.put, List.setIfInBounds_toArray, List.set_cons_zero, List.set_cons_succ])
          refine wpAnyH_take (i := 1) (v := ?_) rfl (by kernel_rfl) (by kernel_rfl) (by kernel_rfl) (fun _ _ _ h => h) (Or.inl ⟨by rfl, ?_⟩) (by assumption) ?_
          rotate_left
          focus (intro w hSw; (try dsimp only at hSw); go_simp; first | done | with_reducible rfl)
          (try simp only [List.getElem_toArray, List.getElem_cons_zero, List.getElem_cons_succ, Act.put, List.setIfInBounds_toArray, List.set_cons_zero, List.set_cons_succ])
          refine wpAnyH_take (i := 3) (v := ?_) rfl (by kernel_rfl) (by kernel_rfl) (by kernel_rfl) (fun _ _ _ h => h) (Or.inl ⟨by rfl, ?_⟩) (by assumption) ?_
          rotate_left
          focus (intro w hSw; (try dsimp only at hSw); go_simp; first | done | with_reducible rfl)
          (try simp only [List.getElem_toArray, List.getElem_cons_zero, List.getElem_cons_succ, Act.put, List.setIfInBounds_toArray, List.set_cons_zero, List.set_cons_succ])
          refine wpAnyH_ready (rs := [2]) (by kernel_rfl) (by simp) ?_
          refine AllReadyH.cons rfl (fun K hK => ?_) AllReadyH.nil
          go_simp; go_at_call 22; (with_reducible refine (HSA.out _ _ _ ?_ ?_).mono ?_); (focus exact sp_to HSF.out ((K47.out.trans (by repeat (first | exact Kept.refl _ | assumption | refine Kept.alloc ?_ _ | refine Kept.drew ?_ | refine Kept.drewN ?_ _ | refine Kept.setCell ?_ (by simp; try omega) _ | refine Kept.trans ?_ (by assumption)))).pcs PF4.out)); (focus exact sp_to HSG.out ((K47.out.trans (by repeat (first | exact Kept.refl _ | assumption | refine Kept.alloc ?_ _ | refine Kept.drew ?_ | refine Kept.drewN ?_ _ | refine Kept.setCell ?_ (by simp; try omega) _ | refine Kept.trans ?_ (by assumption)))).pcs PG4.out)); rintro e w8 ⟨rfl, k8⟩
          refine hK.out _ _ (HS20.out _ (by repeat (first | exact Kept.refl _ | assumption | refine Kept.alloc ?_ _ | refine Kept.drew ?_ | refine Kept.drewN ?_ _ | refine Kept.setCell ?_ (by simp; try omega) _ | refine Kept.trans ?_ (by assumption)))) (fun hHeld => ?_)
          clear hK K
          (try simp only [List.getElem_toArray, List.getElem_cons_zero, List.getElem_cons_succ, Act.put, List.setIfInBounds_toArray, List.set_cons_zero, List.set_cons_succ])
          refine wpAnyH_ready (rs := [4]) (by kernel_rfl) (by simp) ?_
          refine AllReadyH.cons rfl (fun K hK => ?_) AllReadyH.nil
          go_simp; go_at_call 11; (with_reducible refine (HMG.out _ _ ?_).mono ?_); (focus exact sp_to HSG.out ((K47.out.trans (by repeat (first | exact Kept.refl _ | assumption | refine Kept.alloc ?_ _ | refine Kept.drew ?_ | refine Kept.drewN ?_ _ | refine Kept.setCell ?_ (by simp; try omega) _ | refine Kept.trans ?_ (by assumption)))).pcs PG4.out)); rintro e w9 ⟨rfl, k9⟩
          refine hK.out _ _ (HS20.out _ (by repeat (first | exact Kept.refl _ | assumption | refine Kept.alloc ?_ _ | refine Kept.drew ?_ | refine Kept.drewN ?_ _ | refine Kept.setCell ?_ (by simp; try omega) _ | refine Kept.trans ?_ (by assumption)))) (fun hHeld => ?_)
          clear hK K
          (try simp only [List.getElem_toArray, List.getElem_cons_zero, List.getElem_cons_succ, Act.put, List.setIfInBounds_toArray, List.set_cons_zero, List.set_cons_succ])
          refine wpAnyH_take (i := 5) (v := ?_) rfl (by kernel_rfl) (by kernel_rfl) (by kernel_rfl) (fun _ _ _ h => h) (Or.inl ⟨by rfl, ?_⟩) (by assumption) ?_
          rotate_left
          focus (intro w hSw; (try dsimp only at hSw); go_simp; first | done | with_reducible rfl)
          (try simp only [List.getElem_toArray, List.getElem_cons_zero, List.getElem_cons_succ, Act.put, List.setIfInBounds_toArray, List.set_cons_zero, List.set_cons_succ])
          refine wpAnyH_take (i := 6) (v := undef) rfl (by kernel_rfl) (by kernel_rfl) (by kernel_rfl) (fun _ _ _ h => h) (Or.inr ⟨by rfl, rfl⟩) (by assumption) ?_
          (try simp only [List.getElem_toArray, List.getElem_cons_zero, List.getElem_cons_succ, Act.put, List.setIfInBounds_toArray, List.set_cons_zero, List.set_cons_succ])
          refine wpAnyH_take (i := 7) (v := undef) rfl (by kernel_rfl) (by kernel_rfl) (by kernel_rfl) (fun _ _ _ h => h) (Or.inr ⟨by rfl, rfl⟩) (by assumption) ?_
          (try simp only [List.getElem_toArray, List.getElem_cons_zero, List.getElem_cons_succ, Act.put, List.setIfInBounds_toArray, List.set_cons_zero, List.set_cons_succ])
          refine wpAnyH_take (i := 8) (v := undef) rfl (by kernel_rfl) (by kernel_rfl) (by kernel_rfl) (fun _ _ _ h => h) (Or.inr ⟨by rfl, rfl⟩) (by assumption) ?_
          (try simp only [List.getElem_toArray, List.getElem_cons_zero, List.getElem_cons_succ, Act.put, List.setIfInBounds_toArray, List.set_cons_zero, List.set_cons_succ])
          refine wpAnyH_take (i := 9) (v := undef) rfl (by kernel_rfl) (by kernel_rfl) (by kernel_rfl) (fun _ _ _ h => h) (Or.inr ⟨by rfl, rfl⟩) (by assumption) ?_
          (try simp only [List.getElem_toArray, List.getElem_cons_zero, List.getElem_cons_succ, Act.put, List.setIfInBounds_toArray, List.set_cons_zero, List.set_cons_succ])
          refine wpAnyH_take (i := 10) (v := undef) rfl (by kernel_rfl) (by kernel_rfl) (by kernel_rfl) (fun _ _ _ h => h) (Or.inr ⟨by rfl, rfl⟩) (by assumption) ?_
          (try simp only [List.getElem_toArray, List.getElem_cons_zero, List.getElem_cons_succ, Act.put, List.setIfInBounds_toArray, List.set_cons_zero, List.set_cons_succ])
          refine wpAnyH_take (i := 11) (v := undef) rfl (by kernel_rfl) (by kernel_rfl) (by kernel_rfl) (fun _ _ _ h => h) (Or.inr ⟨by rfl, rfl⟩) (by assumption) ?_
          (try simp only [List.getElem_toArray, List.getElem_cons_zero, List.getElem_cons_succ, Act.put, List.setIfInBounds_toArray, List.set_cons_zero, List.set_cons_succ])
          refine wpAnyH_take (i := 12) (v := undef) rfl (by kernel_rfl) (by kernel_rfl) (by kernel_rfl) (fun _ _ _ h => h) (Or.inr ⟨by rfl, rfl⟩) (by assumption) ?_
          (try simp only [List.getElem_toArray, List.getElem_cons_zero, List.getElem_cons_succ, Act.put, List.setIfInBounds_toArray, List.set_cons_zero, List.set_cons_succ])
          refine wpAnyH_take (i := 13) (v := undef) rfl (by kernel_rfl) (by kernel_rfl) (by kernel_rfl) (fun _ _ _ h => h) (Or.inr ⟨by rfl, rfl⟩) (by assumption) ?_
          (try simp only [List.getElem_toArray, List.getElem_cons_zero, List.getElem_cons_succ, Act.put, List.setIfInBounds_toArray, List.set_cons_zero, List.set_cons_succ])
          refine wpAnyH_take (i := 14) (v := ?_) rfl (by kernel_rfl) (by kernel_rfl) (by kernel_rfl) (fun _ _ _ h => h) (Or.inl ⟨by rfl, ?_⟩) (by assumption) ?_
          rotate_left
          focus (intro w hSw; (try dsimp only at hSw); go_simp; first | done | with_reducible rfl)
          (try simp only [List.getElem_toArray, List.getElem_cons_zero, List.getElem_cons_succ, Act.put, List.setIfInBounds_toArray, List.set_cons_zero, List.set_cons_succ])
          refine wpAnyH_take (i := 15) (v := ?_) rfl (by kernel_rfl) (by kernel_rfl) (by kernel_rfl) (fun _ _ _ h => h) (Or.inl ⟨by rfl, ?_⟩) (by assumption) ?_
          rotate_left
          focus (intro w hSw; (try dsimp only at hSw); go_simp; first | done | with_reducible rfl)
          (try simp only [List.getElem_toArray, List.getElem_cons_zero, List.getElem_cons_succ, Act.put, List.setIfInBounds_toArray, List.set_cons_zero, List.set_cons_succ])
          refine wpAnyH_done (by kernel_rfl) ?_ _
          go_wp2_with fail
          go_meet
          exact ⟨by first | rfl | simp, (by repeat (first | exact Kept.refl _ | assumption | refine Kept.alloc ?_ _ | refine Kept.drew ?_ | refine Kept.drewN ?_ _ | refine Kept.setCell ?_ (by simp; try omega) _ | refine Kept.trans ?_ (by assumption)))⟩
          | true =>
          have HVG := hid (mayB_iff.1 hmg)
          rw [hmg] at HMG HSA
          rw [Bool.true_and] at HSA
          have HOG := hid (fun (u : Value) (w' : World) (k : Sp w' u g) => of_to g u w' k HVG.out _ rfl _ rfl)
          obtain ⟨nBg, hnBg⟩ : ∃ n, (flB g).length = n := ⟨_, rfl⟩
          obtain ⟨nTg, hnTg⟩ : ∃ n, (flT g).length = n := ⟨_, rfl⟩
          rw [hnBg, hnTg] at HOG
          obtain ⟨sG, hgstr⟩ : ∃ sG, bstr (flB g) = sG := ⟨_, rfl⟩
          clear hmg h0 h1 g0 g1 y0 y1 hnBg hnTg
          by_cases he : flB g = flB f
          · have hd : decide (flB g = flB f) = true := decide_eq_true he
            rw [hd] at HSA
            have hss : sG = sB := by rw [← hgstr, ← HSB.out, he]
            have hgstr : bstr (flB g) = sB := by rw [hgstr, hss]
            have heq : (sB.toList == sB.toList) = true := by simp
            clear he hd hss
            refine wp_region_held_drew (S := fun w' => w'.cell? ⟨H, 0, none⟩ = some (.int .i64 sf) ∧ w'.cell? ⟨H, 1, none⟩ = some (.slice A1 nf c1) ∧ w'.cell? ⟨G, 0, none⟩ = some (.int .i64 sg) ∧ w'.cell? ⟨G, 1, none⟩ = some (.slice A2 ng c2) ∧ w'.cell? ⟨Y, 0, none⟩ = some (.slice A7 nB c7) ∧ (convert 25 9 (.slice A7 nB c7)).run Try.prog w' = .ok (.string sB) w') (by kernel_rfl) (HS20.out _ (Kept.refl _).drew) (fun hHeld => ?_)
            refine wpAnyH_take (i := 0) (v := ?_) rfl (by kernel_rfl) (by kernel_rfl) (by kernel_rfl) (fun _ _ _ h => h) (Or.inl ⟨by rfl, ?_⟩) (by assumption) ?_
            rotate_left
            focus (intro w hSw; (try dsimp only at hSw); go_simp; first | done | with_reducible rfl)
            (try simp only [List.getElem_toArray, List.getElem_cons_zero, List.getElem_cons_succ, Act.put, List.setIfInBounds_toArray, List.set_cons_zero, List.set_cons_succ])
            refine wpAnyH_take (i := 1) (v := ?_) rfl (by kernel_rfl) (by kernel_rfl) (by kernel_rfl) (fun _ _ _ h => h) (Or.inl ⟨by rfl, ?_⟩) (by assumption) ?_
            rotate_left
            focus (intro w hSw; (try dsimp only at hSw); go_simp; first | done | with_reducible rfl)
            (try simp only [List.getElem_toArray, List.getElem_cons_zero, List.getElem_cons_succ, Act.put, List.setIfInBounds_toArray, List.set_cons_zero, List.set_cons_succ])
            refine wpAnyH_take (i := 3) (v := ?_) rfl (by kernel_rfl) (by kernel_rfl) (by kernel_rfl) (fun _ _ _ h => h) (Or.inl ⟨by rfl, ?_⟩) (by assumption) ?_
            rotate_left
            focus (intro w hSw; (try dsimp only at hSw); go_simp; first | done | with_reducible rfl)
            (try simp only [List.getElem_toArray, List.getElem_cons_zero, List.getElem_cons_succ, Act.put, List.setIfInBounds_toArray, List.set_cons_zero, List.set_cons_succ])
            refine wpAnyH_ready (rs := [2]) (by kernel_rfl) (by simp) ?_
            refine AllReadyH.cons rfl (fun K hK => ?_) AllReadyH.nil
            go_simp; go_at_call 22; (with_reducible refine (HSA.out _ _ _ ?_ ?_).mono ?_); (focus exact sp_to HSF.out ((K47.out.trans (by repeat (first | exact Kept.refl _ | assumption | refine Kept.alloc ?_ _ | refine Kept.drew ?_ | refine Kept.drewN ?_ _ | refine Kept.setCell ?_ (by simp; try omega) _ | refine Kept.trans ?_ (by assumption)))).pcs PF4.out)); (focus exact sp_to HSG.out ((K47.out.trans (by repeat (first | exact Kept.refl _ | assumption | refine Kept.alloc ?_ _ | refine Kept.drew ?_ | refine Kept.drewN ?_ _ | refine Kept.setCell ?_ (by simp; try omega) _ | refine Kept.trans ?_ (by assumption)))).pcs PG4.out)); rintro e w8 ⟨rfl, k8⟩
            refine hK.out _ _ (HS20.out _ (by repeat (first | exact Kept.refl _ | assumption | refine Kept.alloc ?_ _ | refine Kept.drew ?_ | refine Kept.drewN ?_ _ | refine Kept.setCell ?_ (by simp; try omega) _ | refine Kept.trans ?_ (by assumption)))) (fun hHeld => ?_)
            clear hK K
            (try simp only [List.getElem_toArray, List.getElem_cons_zero, List.getElem_cons_succ, Act.put, List.setIfInBounds_toArray, List.set_cons_zero, List.set_cons_succ])
            refine wpAnyH_ready (rs := [4]) (by kernel_rfl) (by simp) ?_
            refine AllReadyH.cons rfl (fun K hK => ?_) AllReadyH.nil
            go_simp; go_at_call 11; (with_reducible refine (HMG.out _ _ ?_).mono ?_); (focus exact sp_to HSG.out ((K47.out.trans (by repeat (first | exact Kept.refl _ | assumption | refine Kept.alloc ?_ _ | refine Kept.drew ?_ | refine Kept.drewN ?_ _ | refine Kept.setCell ?_ (by simp; try omega) _ | refine Kept.trans ?_ (by assumption)))).pcs PG4.out)); rintro e w9 ⟨rfl, k9⟩
            refine hK.out _ _ (HS20.out _ (by repeat (first | exact Kept.refl _ | assumption | refine Kept.alloc ?_ _ | refine Kept.drew ?_ | refine Kept.drewN ?_ _ | refine Kept.setCell ?_ (by simp; try omega) _ | refine Kept.trans ?_ (by assumption)))) (fun hHeld => ?_)
            clear hK K
            (try simp only [List.getElem_toArray, List.getElem_cons_zero, List.getElem_cons_succ, Act.put, List.setIfInBounds_toArray, List.set_cons_zero, List.set_cons_succ])
            refine wpAnyH_take (i := 5) (v := ?_) rfl (by kernel_rfl) (by kernel_rfl) (by kernel_rfl) (fun _ _ _ h => h) (Or.inl ⟨by rfl, ?_⟩) (by assumption) ?_
            rotate_left
            focus (intro w hSw; (try dsimp only at hSw); go_simp; first | done | with_reducible rfl)
            (try simp only [List.getElem_toArray, List.getElem_cons_zero, List.getElem_cons_succ, Act.put, List.setIfInBounds_toArray, List.set_cons_zero, List.set_cons_succ])
            refine wpAnyH_take (i := 6) (v := ?_) rfl (by kernel_rfl) (by kernel_rfl) (by kernel_rfl) (fun _ _ _ h => h) (Or.inl ⟨by rfl, ?_⟩) (by assumption) ?_
            rotate_left
            focus (intro w hSw; (try dsimp only at hSw); go_simp; first | done | with_reducible rfl)
            (try simp only [List.getElem_toArray, List.getElem_cons_zero, List.getElem_cons_succ, Act.put, List.setIfInBounds_toArray, List.set_cons_zero, List.set_cons_succ])
            refine wpAnyH_take (i := 10) (v := ?_) rfl (by kernel_rfl) (by kernel_rfl) (by kernel_rfl) (fun _ _ _ h => h) (Or.inl ⟨by rfl, ?_⟩) (by assumption) ?_
            rotate_left
            focus (intro w hSw; (try dsimp only at hSw); go_simp; first | done | with_reducible rfl)
            (try simp only [List.getElem_toArray, List.getElem_cons_zero, List.getElem_cons_succ, Act.put, List.setIfInBounds_toArray, List.set_cons_zero, List.set_cons_succ])
            refine wpAnyH_take (i := 11) (v := ?_) rfl (by kernel_rfl) (by kernel_rfl) (by kernel_rfl) (fun _ _ _ h => h) (Or.inl ⟨by rfl, ?_⟩) (by assumption) ?_
            rotate_left
            focus (intro w hSw; (try dsimp only at hSw); go_simp; first | done | with_reducible rfl)
            (try simp only [List.getElem_toArray, List.getElem_cons_zero, List.getElem_cons_succ, Act.put, List.setIfInBounds_toArray, List.set_cons_zero, List.set_cons_succ])
            refine wpAnyH_take (i := 12) (v := ?_) rfl (by kernel_rfl) (by kernel_rfl) (by kernel_rfl) (fun _ _ _ h => h) (Or.inl ⟨by rfl, ?_⟩) (by assumption) ?_
            rotate_left
            focus (intro w hSw; (try dsimp only at hSw); go_simp; first | done | with_reducible rfl)
            (try simp only [List.getElem_toArray, List.getElem_cons_zero, List.getElem_cons_succ, Act.put, List.setIfInBounds_toArray, List.set_cons_zero, List.set_cons_succ])
            refine wpAnyH_ready (rs := [7]) (by kernel_rfl) (by simp) ?_
            refine AllReadyH.cons rfl (fun K hK => ?_) AllReadyH.nil
            go_simp; go_at_call 13; (with_reducible refine (HOG.out _ _ ?_).mono ?_); (focus exact sp_to HSG.out ((K47.out.trans (by repeat (first | exact Kept.refl _ | assumption | refine Kept.alloc ?_ _ | refine Kept.drew ?_ | refine Kept.drewN ?_ _ | refine Kept.setCell ?_ (by simp; try omega) _ | refine Kept.trans ?_ (by assumption)))).pcs PG4.out)); rintro e w10 ⟨A9, c9, A10, c10, rfl, hR, k10⟩
            obtain ⟨vB2, vT2, hv10, hyB2, -⟩ := hR
            simp only [Value.agg.injEq, Array.mk.injEq, List.cons.injEq, and_true] at hv10
            obtain ⟨rfl, rfl⟩ := hv10
            have hfield := field_file A9 nBg c9 A10 nTg c10
            have cvg := conv_byts hyB2
            rw [hgstr] at cvg
            refine hK.out _ _ (HS20.out _ (by repeat (first | exact Kept.refl _ | assumption | refine Kept.alloc ?_ _ | refine Kept.drew ?_ | refine Kept.drewN ?_ _ | refine Kept.setCell ?_ (by simp; try omega) _ | refine Kept.trans ?_ (by assumption)))) (fun hHeld => ?_)
            clear hK K
            (try simp only [List.getElem_toArray, List.getElem_cons_zero, List.getElem_cons_succ, Act.put, List.setIfInBounds_toArray, List.set_cons_zero, List.set_cons_succ])
            refine wpAnyH_take (i := 8) (v := ?_) rfl (by kernel_rfl) (by kernel_rfl) (by kernel_rfl) (fun _ _ _ h => h) (Or.inl ⟨by rfl, ?_⟩) (by assumption) ?_
            rotate_left
            focus (intro w hSw; (try dsimp only at hSw); go_simp; first | done | with_reducible rfl)
            (try simp only [List.getElem_toArray, List.getElem_cons_zero, List.getElem_cons_succ, Act.put, List.setIfInBounds_toArray, List.set_cons_zero, List.set_cons_succ])
            refine wpAnyH_ready (rs := [9]) (by kernel_rfl) (by simp) ?_
            refine AllReadyH.cons rfl (fun K hK => ?_) AllReadyH.nil
            go_simp
            refine hK.out _ _ (HS20.out _ (by repeat (first | exact Kept.refl _ | assumption | refine Kept.alloc ?_ _ | refine Kept.drew ?_ | refine Kept.drewN ?_ _ | refine Kept.setCell ?_ (by simp; try omega) _ | refine Kept.trans ?_ (by assumption)))) (fun hHeld => ?_)
            clear hK K
            (try simp only [List.getElem_toArray, List.getElem_cons_zero, List.getElem_cons_succ, Act.put, List.setIfInBounds_toArray, List.set_cons_zero, List.set_cons_succ])
            refine wpAnyH_take (i := 13) (v := ?_) rfl (by kernel_rfl) (by kernel_rfl) (by kernel_rfl) (fun _ _ _ h => h) (Or.inl ⟨by rfl, ?_⟩) (by assumption) ?_
            rotate_left
            focus (intro w hSw; (try dsimp only at hSw); go_simp; first | done | with_reducible rfl)
            (try simp only [List.getElem_toArray, List.getElem_cons_zero, List.getElem_cons_succ, Act.put, List.setIfInBounds_toArray, List.set_cons_zero, List.set_cons_succ])
            refine wpAnyH_take (i := 14) (v := ?_) rfl (by kernel_rfl) (by kernel_rfl) (by kernel_rfl) (fun _ _ _ h => h) (Or.inl ⟨by rfl, ?_⟩) (by assumption) ?_
            rotate_left
            focus (intro w hSw; (try dsimp only at hSw); go_simp; first | done | with_reducible rfl)
            (try simp only [List.getElem_toArray, List.getElem_cons_zero, List.getElem_cons_succ, Act.put, List.setIfInBounds_toArray, List.set_cons_zero, List.set_cons_succ])
            refine wpAnyH_take (i := 15) (v := ?_) rfl (by kernel_rfl) (by kernel_rfl) (by kernel_rfl) (fun _ _ _ h => h) (Or.inl ⟨by rfl, ?_⟩) (by assumption) ?_
            rotate_left
            focus (intro w hSw; (try dsimp only at hSw); go_simp; first | done | with_reducible rfl)
            (try simp only [List.getElem_toArray, List.getElem_cons_zero, List.getElem_cons_succ, Act.put, List.setIfInBounds_toArray, List.set_cons_zero, List.set_cons_succ])
            refine wpAnyH_done (by kernel_rfl) ?_ _
            go_wp2_with fail
            go_meet
            exact ⟨by first | rfl | simp, (by repeat (first | exact Kept.refl _ | assumption | refine Kept.alloc ?_ _ | refine Kept.drew ?_ | refine Kept.drewN ?_ _ | refine Kept.setCell ?_ (by simp; try omega) _ | refine Kept.trans ?_ (by assumption)))⟩
          · have hd : decide (flB g = flB f) = false := decide_eq_false he
            rw [hd] at HSA
            have heq : (sG.toList == sB.toList) = false := by rw [← hgstr, ← HSB.out]; exact bstr_ne he
            clear he hd
            refine wp_region_held_drew (S := fun w' => w'.cell? ⟨H, 0, none⟩ = some (.int .i64 sf) ∧ w'.cell? ⟨H, 1, none⟩ = some (.slice A1 nf c1) ∧ w'.cell? ⟨G, 0, none⟩ = some (.int .i64 sg) ∧ w'.cell? ⟨G, 1, none⟩ = some (.slice A2 ng c2) ∧ w'.cell? ⟨Y, 0, none⟩ = some (.slice A7 nB c7) ∧ (convert 25 9 (.slice A7 nB c7)).run Try.prog w' = .ok (.string sB) w') (by kernel_rfl) (HS20.out _ (Kept.refl _).drew) (fun hHeld => ?_)
            refine wpAnyH_take (i := 0) (v := ?_) rfl (by kernel_rfl) (by kernel_rfl) (by kernel_rfl) (fun _ _ _ h => h) (Or.inl ⟨by rfl, ?_⟩) (by assumption) ?_
            rotate_left
            focus (intro w hSw; (try dsimp only at hSw); go_simp; first | done | with_reducible rfl)
            (try simp only [List.getElem_toArray, List.getElem_cons_zero, List.getElem_cons_succ, Act.put, List.setIfInBounds_toArray, List.set_cons_zero, List.set_cons_succ])
            refine wpAnyH_take (i := 1) (v := ?_) rfl (by kernel_rfl) (by kernel_rfl) (by kernel_rfl) (fun _ _ _ h => h) (Or.inl ⟨by rfl, ?_⟩) (by assumption) ?_
            rotate_left
            focus (intro w hSw; (try dsimp only at hSw); go_simp; first | done | with_reducible rfl)
            (try simp only [List.getElem_toArray, List.getElem_cons_zero, List.getElem_cons_succ, Act.put, List.setIfInBounds_toArray, List.set_cons_zero, List.set_cons_succ])
            refine wpAnyH_take (i := 3) (v := ?_) rfl (by kernel_rfl) (by kernel_rfl) (by kernel_rfl) (fun _ _ _ h => h) (Or.inl ⟨by rfl, ?_⟩) (by assumption) ?_
            rotate_left
            focus (intro w hSw; (try dsimp only at hSw); go_simp; first | done | with_reducible rfl)
            (try simp only [List.getElem_toArray, List.getElem_cons_zero, List.getElem_cons_succ, Act.put, List.setIfInBounds_toArray, List.set_cons_zero, List.set_cons_succ])
            refine wpAnyH_ready (rs := [2]) (by kernel_rfl) (by simp) ?_
            refine AllReadyH.cons rfl (fun K hK => ?_) AllReadyH.nil
            go_simp; go_at_call 22; (with_reducible refine (HSA.out _ _ _ ?_ ?_).mono ?_); (focus exact sp_to HSF.out ((K47.out.trans (by repeat (first | exact Kept.refl _ | assumption | refine Kept.alloc ?_ _ | refine Kept.drew ?_ | refine Kept.drewN ?_ _ | refine Kept.setCell ?_ (by simp; try omega) _ | refine Kept.trans ?_ (by assumption)))).pcs PF4.out)); (focus exact sp_to HSG.out ((K47.out.trans (by repeat (first | exact Kept.refl _ | assumption | refine Kept.alloc ?_ _ | refine Kept.drew ?_ | refine Kept.drewN ?_ _ | refine Kept.setCell ?_ (by simp; try omega) _ | refine Kept.trans ?_ (by assumption)))).pcs PG4.out)); rintro e w8 ⟨rfl, k8⟩
            refine hK.out _ _ (HS20.out _ (by repeat (first | exact Kept.refl _ | assumption | refine Kept.alloc ?_ _ | refine Kept.drew ?_ | refine Kept.drewN ?_ _ | refine Kept.setCell ?_ (by simp; try omega) _ | refine Kept.trans ?_ (by assumption)))) (fun hHeld => ?_)
            clear hK K
            (try simp only [List.getElem_toArray, List.getElem_cons_zero, List.getElem_cons_succ, Act.put, List.setIfInBounds_toArray, List.set_cons_zero, List.set_cons_succ])
            refine wpAnyH_ready (rs := [4]) (by kernel_rfl) (by simp) ?_
            refine AllReadyH.cons rfl (fun K hK => ?_) AllReadyH.nil
            go_simp; go_at_call 11; (with_reducible refine (HMG.out _ _ ?_).mono ?_); (focus exact sp_to HSG.out ((K47.out.trans (by repeat (first | exact Kept.refl _ | assumption | refine Kept.alloc ?_ _ | refine Kept.drew ?_ | refine Kept.drewN ?_ _ | refine Kept.setCell ?_ (by simp; try omega) _ | refine Kept.trans ?_ (by assumption)))).pcs PG4.out)); rintro e w9 ⟨rfl, k9⟩
            refine hK.out _ _ (HS20.out _ (by repeat (first | exact Kept.refl _ | assumption | refine Kept.alloc ?_ _ | refine Kept.drew ?_ | refine Kept.drewN ?_ _ | refine Kept.setCell ?_ (by simp; try omega) _ | refine Kept.trans ?_ (by assumption)))) (fun hHeld => ?_)
            clear hK K
            (try simp only [List.getElem_toArray, List.getElem_cons_zero, List.getElem_cons_succ, Act.put, List.setIfInBounds_toArray, List.set_cons_zero, List.set_cons_succ])
            refine wpAnyH_take (i := 5) (v := ?_) rfl (by kernel_rfl) (by kernel_rfl) (by kernel_rfl) (fun _ _ _ h => h) (Or.inl ⟨by rfl, ?_⟩) (by assumption) ?_
            rotate_left
            focus (intro w hSw; (try dsimp only at hSw); go_simp; first | done | with_reducible rfl)
            (try simp only [List.getElem_toArray, List.getElem_cons_zero, List.getElem_cons_succ, Act.put, List.setIfInBounds_toArray, List.set_cons_zero, List.set_cons_succ])
            refine wpAnyH_take (i := 6) (v := ?_) rfl (by kernel_rfl) (by kernel_rfl) (by kernel_rfl) (fun _ _ _ h => h) (Or.inl ⟨by rfl, ?_⟩) (by assumption) ?_
            rotate_left
            focus (intro w hSw; (try dsimp only at hSw); go_simp; first | done | with_reducible rfl)
            (try simp only [List.getElem_toArray, List.getElem_cons_zero, List.getElem_cons_succ, Act.put, List.setIfInBounds_toArray, List.set_cons_zero, List.set_cons_succ])
            refine wpAnyH_take (i := 10) (v := ?_) rfl (by kernel_rfl) (by kernel_rfl) (by kernel_rfl) (fun _ _ _ h => h) (Or.inl ⟨by rfl, ?_⟩) (by assumption) ?_
            rotate_left
            focus (intro w hSw; (try dsimp only at hSw); go_simp; first | done | with_reducible rfl)
            (try simp only [List.getElem_toArray, List.getElem_cons_zero, List.getElem_cons_succ, Act.put, List.setIfInBounds_toArray, List.set_cons_zero, List.set_cons_succ])
            refine wpAnyH_take (i := 11) (v := ?_) rfl (by kernel_rfl) (by kernel_rfl) (by kernel_rfl) (fun _ _ _ h => h) (Or.inl ⟨by rfl, ?_⟩) (by assumption) ?_
            rotate_left
            focus (intro w hSw; (try dsimp only at hSw); go_simp; first | done | with_reducible rfl)
            (try simp only [List.getElem_toArray, List.getElem_cons_zero, List.getElem_cons_succ, Act.put, List.setIfInBounds_toArray, List.set_cons_zero, List.set_cons_succ])
            refine wpAnyH_take (i := 12) (v := ?_) rfl (by kernel_rfl) (by kernel_rfl) (by kernel_rfl) (fun _ _ _ h => h) (Or.inl ⟨by rfl, ?_⟩) (by assumption) ?_
            rotate_left
            focus (intro w hSw; (try dsimp only at hSw); go_simp; first | done | with_reducible rfl)
            (try simp only [List.getElem_toArray, List.getElem_cons_zero, List.getElem_cons_succ, Act.put, List.setIfInBounds_toArray, List.set_cons_zero, List.set_cons_succ])
            refine wpAnyH_ready (rs := [7]) (by kernel_rfl) (by simp) ?_
            refine AllReadyH.cons rfl (fun K hK => ?_) AllReadyH.nil
            go_simp; go_at_call 13; (with_reducible refine (HOG.out _ _ ?_).mono ?_); (focus exact sp_to HSG.out ((K47.out.trans (by repeat (first | exact Kept.refl _ | assumption | refine Kept.alloc ?_ _ | refine Kept.drew ?_ | refine Kept.drewN ?_ _ | refine Kept.setCell ?_ (by simp; try omega) _ | refine Kept.trans ?_ (by assumption)))).pcs PG4.out)); rintro e w10 ⟨A9, c9, A10, c10, rfl, hR, k10⟩
            obtain ⟨vB2, vT2, hv10, hyB2, -⟩ := hR
            simp only [Value.agg.injEq, Array.mk.injEq, List.cons.injEq, and_true] at hv10
            obtain ⟨rfl, rfl⟩ := hv10
            have hfield := field_file A9 nBg c9 A10 nTg c10
            have cvg := conv_byts hyB2
            rw [hgstr] at cvg
            refine hK.out _ _ (HS20.out _ (by repeat (first | exact Kept.refl _ | assumption | refine Kept.alloc ?_ _ | refine Kept.drew ?_ | refine Kept.drewN ?_ _ | refine Kept.setCell ?_ (by simp; try omega) _ | refine Kept.trans ?_ (by assumption)))) (fun hHeld => ?_)
            clear hK K
            (try simp only [List.getElem_toArray, List.getElem_cons_zero, List.getElem_cons_succ, Act.put, List.setIfInBounds_toArray, List.set_cons_zero, List.set_cons_succ])
            refine wpAnyH_take (i := 8) (v := ?_) rfl (by kernel_rfl) (by kernel_rfl) (by kernel_rfl) (fun _ _ _ h => h) (Or.inl ⟨by rfl, ?_⟩) (by assumption) ?_
            rotate_left
            focus (intro w hSw; (try dsimp only at hSw); go_simp; first | done | with_reducible rfl)
            (try simp only [List.getElem_toArray, List.getElem_cons_zero, List.getElem_cons_succ, Act.put, List.setIfInBounds_toArray, List.set_cons_zero, List.set_cons_succ])
            refine wpAnyH_ready (rs := [9]) (by kernel_rfl) (by simp) ?_
            refine AllReadyH.cons rfl (fun K hK => ?_) AllReadyH.nil
            go_simp
            refine hK.out _ _ (HS20.out _ (by repeat (first | exact Kept.refl _ | assumption | refine Kept.alloc ?_ _ | refine Kept.drew ?_ | refine Kept.drewN ?_ _ | refine Kept.setCell ?_ (by simp; try omega) _ | refine Kept.trans ?_ (by assumption)))) (fun hHeld => ?_)
            clear hK K
            (try simp only [List.getElem_toArray, List.getElem_cons_zero, List.getElem_cons_succ, Act.put, List.setIfInBounds_toArray, List.set_cons_zero, List.set_cons_succ])
            refine wpAnyH_take (i := 13) (v := ?_) rfl (by kernel_rfl) (by kernel_rfl) (by kernel_rfl) (fun _ _ _ h => h) (Or.inl ⟨by rfl, ?_⟩) (by assumption) ?_
            rotate_left
            focus (intro w hSw; (try dsimp only at hSw); go_simp; first | done | with_reducible rfl)
            (try simp only [List.getElem_toArray, List.getElem_cons_zero, List.getElem_cons_succ, Act.put, List.setIfInBounds_toArray, List.set_cons_zero, List.set_cons_succ])
            refine wpAnyH_take (i := 14) (v := ?_) rfl (by kernel_rfl) (by kernel_rfl) (by kernel_rfl) (fun _ _ _ h => h) (Or.inl ⟨by rfl, ?_⟩) (by assumption) ?_
            rotate_left
            focus (intro w hSw; (try dsimp only at hSw); go_simp; first | done | with_reducible rfl)
            (try simp only [List.getElem_toArray, List.getElem_cons_zero, List.getElem_cons_succ, Act.put, List.setIfInBounds_toArray, List.set_cons_zero, List.set_cons_succ])
            refine wpAnyH_take (i := 15) (v := ?_) rfl (by kernel_rfl) (by kernel_rfl) (by kernel_rfl) (fun _ _ _ h => h) (Or.inl ⟨by rfl, ?_⟩) (by assumption) ?_
            rotate_left
            focus (intro w hSw; (try dsimp only at hSw); go_simp; first | done | with_reducible rfl)
            (try simp only [List.getElem_toArray, List.getElem_cons_zero, List.getElem_cons_succ, Act.put, List.setIfInBounds_toArray, List.set_cons_zero, List.set_cons_succ])
            refine wpAnyH_done (by kernel_rfl) ?_ _
            go_wp2_with fail
            go_meet
            exact ⟨by first | rfl | simp, (by repeat (first | exact Kept.refl _ | assumption | refine Kept.alloc ?_ _ | refine Kept.drew ?_ | refine Kept.drewN ?_ _ | refine Kept.setCell ?_ (by simp; try omega) _ | refine Kept.trans ?_ (by assumption)))⟩
        case rest =>
        obtain ⟨rfl, hk⟩ := hcut
        have KWF := hid (KW4.out.trans (K47.out.trans hk))
        have K2F := hid (K24.out.trans (K47.out.trans hk))
        have YBF := hid (hk.byts YB.out)
        have yc0 := hk.keeps y0
        clear h0 h1 g0 g1 y0 y1 hk HS20 HCV HO HSA HMG
        rcases (by omega : off < 0 ∨ (0 ≤ off ∧ nn < 0) ∨ (0 ≤ off ∧ 0 ≤ nn)) with hb | ⟨hb1, hb2⟩ | ⟨hb1, hb2⟩
        · obtain ⟨rfl, rfl⟩ := HBAD.out (.inl hb)
          go_wp2_with (go_at_call 15; (with_reducible refine (awake_any _).mono ?_); rintro e w20 ⟨rfl, k20⟩)
          go_ret
          exact ⟨rfl, KWF.out.trans k20⟩
        · obtain ⟨rfl, rfl⟩ := HBAD.out (.inr hb2)
          have q0 : decide (off < 0) = false := decide_eq_false (by omega)
          go_wp2_with (go_at_call 15; (with_reducible refine (awake_any _).mono ?_); rintro e w20 ⟨rfl, k20⟩)
          go_ret
          exact ⟨rfl, KWF.out.trans k20⟩
        · obtain ⟨rfl, hbx⟩ := HGOOD.out hb1 hb2
          obtain ⟨o, rfl⟩ : ∃ o : Nat, off = (o : Int) := ⟨off.toNat, by omega⟩
          obtain ⟨m, rfl⟩ : ∃ m : Nat, nn = (m : Int) := ⟨nn.toNat, by omega⟩
          rw [Int.toNat_natCast, Int.toNat_natCast] at hbx
          have BXF := hid (K2F.out.byts hbx)
          obtain ⟨D1, hD1⟩ : ∃ D1, (flB f).drop o = D1 := ⟨_, rfl⟩
          obtain ⟨nD, hnD⟩ : ∃ nD, D1.length = nD := ⟨_, rfl⟩
          have hnD2 : nD = nB - o := by rw [← hnD, ← hD1, List.length_drop, HNB.out]
          rw [hD1] at BXF
          have HD1 := hid hD1
          have q0 : decide ((o : Int) < 0) = false := decide_eq_false (by omega)
          have q1 : decide ((m : Int) < 0) = false := decide_eq_false (by omega)
          clear hbx hb1 hb2 hD1
          go_upto_region 25 with fail
          go_cut [166] (fun t wx => t = .bool (decide (o < nB)) ∧ wc = wx)
          case first => as_aux_lemma =>
            go_wp2_with fail
            go_meet
            exact ⟨by simp, rfl⟩
          case rest =>
          obtain ⟨rfl, rfl⟩ := hcut
          go_upto_if 166 with fail
          go_cut [15] (fun t wx => t = .string (bstr D1) ∧ wc = wx)
          case first => as_aux_lemma =>
            by_cases hlt : o < nB
            · have e1 : decide (o < nB) = true := decide_eq_true hlt
              rw [e1]
              obtain ⟨-, hcB, -, -, -⟩ := YBF.out.open_
              have hct := byts_cut (A := A7) (n := nB) (c := c7) o (by omega)
              have hdr := YBF.out.drop o (by omega)
              rw [HD1.out] at hdr
              have hcv := conv_byts hdr
              clear hdr hlt e1
              go_wp2_with fail
              go_meet
              exact ⟨rfl, rfl⟩
            · have e1 : decide (o < nB) = false := decide_eq_false hlt
              rw [e1]
              have e2 : D1 = [] := List.eq_nil_of_length_eq_zero (by omega)
              clear hlt e1
              go_wp2_with fail
              go_meet
              exact ⟨by rw [e2]; rfl, rfl⟩
          case rest =>
          obtain ⟨rfl, rfl⟩ := hcut
          have hsz : (bstr D1).size = nD := by rw [bstr_size, hnD]
          go_upto_region 27 with fail
          go_cut [175] (fun t wx => t = .bool (decide (m < nD)) ∧ wc = wx)
          case first => as_aux_lemma =>
            generalize bstr D1 = ts at *
            go_wp2_with fail
            go_meet
            exact ⟨by first | (simp; done) | (simp; omega), rfl⟩
          case rest =>
          obtain ⟨rfl, rfl⟩ := hcut
          go_upto_if 175 with fail
          go_cut [15] (fun t wx => t = .string (bstr (D1.take m)) ∧ wc = wx)
          case first => as_aux_lemma =>
            by_cases hlt : m < nD
            · have e1 : decide (m < nD) = true := decide_eq_true hlt
              rw [e1]
              have hsc := str_cut D1 m (by omega)
              clear hlt e1
              generalize bstr (D1.take m) = ts2 at *
              generalize bstr D1 = ts at *
              go_wp2_with fail
              go_meet
              exact ⟨rfl, rfl⟩
            · have e1 : decide (m < nD) = false := decide_eq_false hlt
              rw [e1]
              have e2 : D1.take m = D1 := List.take_of_length_le (by omega)
              clear hlt e1
              go_wp2_with fail
              go_meet
              exact ⟨by rw [e2], rfl⟩
          case rest =>
          obtain ⟨rfl, rfl⟩ := hcut
          have hcv := conv_byts BXF.out
          clear hsz
          generalize bstr (D1.take m) = ts2 at *
          have heq : (ts2.toList == ts2.toList) = true := by simp
          go_wp2_with (go_at_call 15; (with_reducible refine (awake_any _).mono ?_); rintro e w20 ⟨rfl, k20⟩)
          go_ret
          exact ⟨rfl, KWF.out.trans k20⟩
end Go.Proofs.Ytfkmhdnapmicdaa
