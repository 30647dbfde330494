/- sparse.Read. -/
import Derived.Test.YtiiogglflpladaaDoor19N
namespace Go.Proofs.YtiiogglflpladaaDoor
set_option linter.unusedSimpArgs false
set_option linter.unusedVariables false
open Go.RowKit

theorem pcs_cut {A : Option Addr} {n c : Nat} (k : Nat) (hk : k ≤ n) (w : World) : (Instr.sliceAt 24 (.slice A n c) (some (.int .i64 (k : Int))) none none).run Tryd.prog w = .ok (.slice (restA A c k 2) (n - k) (c - k)) w := by
  have h : Tryd.prog.underlying 24 = some (.slice (Tryd.prog.elem 24)) := by rw [elem_pc]; exact Tryd.underlying24
  rw [run_sliceAt_slice (h := h), run_slice_l (ht := h) (h0 := by omega) (h1 := by omega), elem_pc, size_pc]
  rfl
theorem pcs_cutTo {A : Option Addr} {n c : Nat} (k : Nat) (hk : k ≤ n) (hc : n ≤ c) (w : World) : (Instr.sliceAt 24 (.slice A n c) none (some (.int .i64 (k : Int))) none).run Tryd.prog w = .ok (.slice A k c) w := by
  have h : Tryd.prog.underlying 24 = some (.slice (Tryd.prog.elem 24)) := by rw [elem_pc]; exact Tryd.underlying24
  rw [run_sliceAt_slice (h := h), run_slice_h (ht := h) (h0 := by omega) (h2 := by omega), elem_pc, size_pc]
  simp [sliced, Result.andThen]
  intro _
  cases A <;> simp [Addr.add]
theorem own_cut {g N : Nat} (k : Nat) (hk : k < N ∨ k = 0) (w : World) : (Instr.sliceAt 33 (.slice (some ⟨g, 0, none⟩) N N) (some (.int .i64 (k : Int))) none none).run Tryd.prog w = .ok (.slice (some ⟨g, k, none⟩) (N - k) (N - k)) w := by
  rw [byts_cut k (by omega)]
  unfold restA
  split
  · obtain rfl : k = 0 := by omega
    rfl
  · rw [Option.map_some, add_plain, Nat.mul_one, Nat.zero_add]
def ReadPost (f : Fl) (off n : Int) (w : World) (e : Ending) (w' : World) : Prop :=
  Kept w w' ∧ ((mayB f = false ∨ off < 0 ∨ n < 0) → e = .returned (.tuple #[.slice none 0 0, .int .i64 1])) ∧
    (mayB f = true → 0 ≤ off → 0 ≤ n → (f.size ≤ off → e = .returned (.tuple #[.slice none 0 0, .int .i64 0])) ∧
      (off < f.size → ∃ g, e = .returned (.tuple #[.slice (some ⟨g, 0, none⟩) (min n (f.size - off)).toNat (min n (f.size - off)).toNat, .int .i64 0]) ∧ OBlk w' g 5 (rdB f.L off.toNat (min n (f.size - off)).toNat)))
set_option maxHeartbeats 4000000 in
theorem read_any (f : Fl) (off n : Int) (v : Value) (w : World) (h : Sp w v f) (hoff : off ≤ 9223372036854775807) (hn : n ≤ 9223372036854775807) : Calls Tryd.prog 9 #[v, .int .i64 off, .int .i64 n] w (ReadPost f off n w) := by
  have HM := hid (fun (w' : World) (k : Kept w w') => may_any f v w' (k.sp h))
  have HFI := hid (fun (hv : Valid f) (x : Int) (w' : World) (k : Kept w w') => find_any f v x w' (k.sp h) hv.ord (by have := hv.len; omega))
  obtain ⟨vl, rfl, hP⟩ := h
  obtain ⟨A, c, rfl⟩ := hP.shape
  obtain ⟨h0, h1, h2, -, -⟩ := hP.open_
  obtain ⟨s, L⟩ := f
  dsimp only at *
  obtain ⟨m, hm⟩ : ∃ m, L.length = m := ⟨_, rfl⟩
  rw [hm] at hP HM HFI h1 ⊢
  have HP := hid hP; have HML := hid hm
  clear hP h0 hm
  have HNO := hid (show ∀ w', Kept w w' → (mayB ⟨s, L⟩ = false ∨ off < 0 ∨ n < 0) → ReadPost ⟨s, L⟩ off n w (.returned (.tuple #[.slice none 0 0, .int .i64 1])) w' from fun w' k hno => ⟨k, fun _ => rfl, fun a b c => by
    rcases hno with h | h | h
    · rw [a] at h; cases h
    · omega
    · omega⟩)
  cases hmb : mayB ⟨s, L⟩ with
  | false =>
    rw [hmb] at HM HNO
    clear hmb
    go_enter Tryd.func9, Tryd.ntmps9
    go_wp2_with (go_at_call 22; (with_reducible refine (HM.out _ ?_).mono ?_); exact (by repeat (first | exact Kept.refl _ | assumption | refine Kept.alloc ?_ _ | refine Kept.drew ?_ | refine Kept.drewN ?_ _ | refine Kept.setCell ?_ (by simp; try omega) _ | refine Kept.trans ?_ (by assumption))); rintro e w1 ⟨rfl, k1⟩)
    go_ret2
    exact HNO.out _ (by repeat (first | exact Kept.refl _ | assumption | refine Kept.alloc ?_ _ | refine Kept.drew ?_ | refine Kept.drewN ?_ _ | refine Kept.setCell ?_ (by simp; try omega) _ | refine Kept.trans ?_ (by assumption))) (.inl (by trivial))
  | true =>
    have hv := mayB_iff.1 hmb
    rw [hmb] at HM
    have HV := hid hv; have HMB := hid hmb
    clear hmb hv
    by_cases ho : off < 0
    · go_enter Tryd.func9, Tryd.ntmps9
      go_wp2_with (go_at_call 22; (with_reducible refine (HM.out _ ?_).mono ?_); exact (by repeat (first | exact Kept.refl _ | assumption | refine Kept.alloc ?_ _ | refine Kept.drew ?_ | refine Kept.drewN ?_ _ | refine Kept.setCell ?_ (by simp; try omega) _ | refine Kept.trans ?_ (by assumption))); rintro e w1 ⟨rfl, k1⟩)
      go_ret2
      exact HNO.out _ (by repeat (first | exact Kept.refl _ | assumption | refine Kept.alloc ?_ _ | refine Kept.drew ?_ | refine Kept.drewN ?_ _ | refine Kept.setCell ?_ (by simp; try omega) _ | refine Kept.trans ?_ (by assumption))) (.inr (.inl ho))
    by_cases hn0 : n < 0
    · go_enter Tryd.func9, Tryd.ntmps9
      go_wp2_with (go_at_call 22; (with_reducible refine (HM.out _ ?_).mono ?_); exact (by repeat (first | exact Kept.refl _ | assumption | refine Kept.alloc ?_ _ | refine Kept.drew ?_ | refine Kept.drewN ?_ _ | refine Kept.setCell ?_ (by simp; try omega) _ | refine Kept.trans ?_ (by assumption))); rintro e w1 ⟨rfl, k1⟩)
      go_ret2
      exact HNO.out _ (by repeat (first | exact Kept.refl _ | assumption | refine Kept.alloc ?_ _ | refine Kept.drew ?_ | refine Kept.drewN ?_ _ | refine Kept.setCell ?_ (by simp; try omega) _ | refine Kept.trans ?_ (by assumption))) (.inr (.inr hn0))
    by_cases hs : s ≤ off
    · have HOK := hid (show ∀ w', Kept w w' → ReadPost ⟨s, L⟩ off n w (.returned (.tuple #[.slice none 0 0, .int .i64 0])) w' from fun w' k => ⟨k, fun h => by
        rcases h with h | h | h
        · rw [HMB.out] at h; cases h
        · omega
        · omega, fun _ _ _ => ⟨fun _ => rfl, fun h => by dsimp only at h; omega⟩⟩)
      go_enter Tryd.func9, Tryd.ntmps9
      go_wp2_with (go_at_call 22; (with_reducible refine (HM.out _ ?_).mono ?_); exact (by repeat (first | exact Kept.refl _ | assumption | refine Kept.alloc ?_ _ | refine Kept.drew ?_ | refine Kept.drewN ?_ _ | refine Kept.setCell ?_ (by simp; try omega) _ | refine Kept.trans ?_ (by assumption))); rintro e w1 ⟨rfl, k1⟩; have d0 := k1.keeps (b := w.heap.size) (o := 0) (s := none) (v := .int .i64 s) (by simp [go_sem]))
      go_ret2
      exact HOK.out _ (by repeat (first | exact Kept.refl _ | assumption | refine Kept.alloc ?_ _ | refine Kept.drew ?_ | refine Kept.drewN ?_ _ | refine Kept.setCell ?_ (by simp; try omega) _ | refine Kept.trans ?_ (by assumption)))
    obtain ⟨of, rfl⟩ : ∃ k : Nat, off = (k : Int) := ⟨off.toNat, by omega⟩
    obtain ⟨nn, rfl⟩ : ∃ k : Nat, n = (k : Int) := ⟨n.toNat, by omega⟩
    have hs1 := HV.out.s1
    dsimp only at hs1
    obtain ⟨q, hq⟩ : ∃ q : Nat, s - (of : Int) = (q : Int) := ⟨(s - of).toNat, by omega⟩
    have HQ := hid hq
    have HOK := hid (show ∀ w' g ml, ml = min nn q → Kept w w' → OBlk w' g 5 (rdB L of ml) → ReadPost ⟨s, L⟩ of nn w (.returned (.tuple #[.slice (some ⟨g, 0, none⟩) ml ml, .int .i64 0])) w' from fun w' g ml hml k ob => by
      have e1 : (min (nn : Int) (s - (of : Int))).toNat = ml := by omega
      refine ⟨k, fun h => ?_, fun _ _ _ => ⟨fun h => by dsimp only at h; omega, fun _ => ⟨g, ?_, ?_⟩⟩⟩
      · rcases h with h | h | h
        · rw [HMB.out] at h; cases h
        · omega
        · omega
      · dsimp only; rw [e1]
      · dsimp only; rw [e1]; exact ob)
    clear HNO hn0 ho
    have HFX := hid (HFI.out HV.out)
    obtain ⟨ml, hml⟩ : ∃ ml, min nn q = ml := ⟨_, rfl⟩
    have hmin : min (nn : Int) (q : Int) = (ml : Int) := by omega
    have hq1 : ml ≤ 463488 := by omega
    have HMLQ := hid hml
    have i0 : (0 : Int) ≤ (of : Int) := by omega
    have i1 : (0 : Int) ≤ (nn : Int) := by omega
    have i3 : (of : Int) < s := by omega
    have i4 : decide ((of : Int) < 0) = false := by simp
    have i5 : decide ((nn : Int) < 0) = false := by simp
    have i6 : decide (s ≤ (of : Int)) = false := by simp; omega
    clear hml hs
    have hmk := make_bytes ml (by omega)
    have HZ0 := hid (rfl : ml = ml)
    go_enter Tryd.func9, Tryd.ntmps9
    go_wp2_with (go_at_call 22; (with_reducible refine (HM.out _ ?_).mono ?_); exact (by repeat (first | exact Kept.refl _ | assumption | refine Kept.alloc ?_ _ | refine Kept.drew ?_ | refine Kept.drewN ?_ _ | refine Kept.setCell ?_ (by simp; try omega) _ | refine Kept.trans ?_ (by assumption))); rintro e w1 ⟨rfl, k1⟩; have d0 := k1.keeps (b := w.heap.size) (o := 0) (s := none) (v := .int .i64 s) (by simp [go_sem]); have d1 := k1.keeps (b := w.heap.size) (o := 1) (s := none) (v := .slice A m c) (by simp [go_sem]))
    have K1 := hid (((Kept.refl w).alloc (.cells #[.int .i64 s, .slice A m c] 26)).trans k1)
    have D0 := hid d0; have D1 := hid d1
    have hbx : w.heap.size < w1.heap.size := cell_lt d0
    clear hmk k1
    have OB0 := hid (show OBlk (w1.alloc (.cells (bcells (List.replicate ml 0)).toArray 5)) w1.heap.size 5 (List.replicate ml 0) from cb_new _ _ _)
    have e0 : (w1.alloc (.cells (bcells (List.replicate ml 0)).toArray 5)).cell? ⟨w.heap.size, 0, none⟩ = some (.int .i64 s) := ((Kept.refl w1).alloc _).keeps d0
    have e1 : (w1.alloc (.cells (bcells (List.replicate ml 0)).toArray 5)).cell? ⟨w.heap.size, 1, none⟩ = some (.slice A m c) := ((Kept.refl w1).alloc _).keeps d1
    have KA := hid ((Kept.refl w1).alloc (.cells (bcells (List.replicate ml 0)).toArray 5))
    clear d0 d1 D0 D1
    generalize (w1.alloc (.cells (bcells (List.replicate ml 0)).toArray 5)) = W at *
    obtain ⟨fd, hfd⟩ : ∃ fd : Int, (of : Int) / 128 = fd := ⟨_, rfl⟩
    have hfd2 : Int.tdiv (of : Int) 128 = fd := by rw [← hfd]; exact Int.tdiv_eq_ediv_of_nonneg (by omega)
    have HFD := hid hfd
    have HFY := hid (HFX.out fd)
    have hrle : (ltL L fd).length ≤ m := by rw [← HML.out]; exact lt_le L fd
    have HPD := hid (HP.out.drop _ hrle)
    have HSP := hid (split_lt HV.out.ord fd)
    dsimp only at HSP
    have hcut := pcs_cut (A := A) (c := c) _ hrle
    generalize (ltL L fd).length = r at *
    have hml2 : (Pcs w (Value.slice (restA A c r 2) (m - r) (c - r)) (geL L fd)) := by rw [← HSP.out.2]; exact HPD.out
    have HPD := hid hml2
    clear hml2 HSP
    generalize restA A c r 2 = A2 at *
    generalize m - r = m2 at *
    generalize c - r = c2 at *
    have hfb : 0 ≤ fd ∧ fd ≤ 4611686018427387904 := by omega
    have hwf : IntKind.i64.wrap fd = fd := by simp [IntKind.wrap, go_sem]; omega
    go_region_held3 (fun w' => w'.cell? ⟨w.heap.size, 0, none⟩ = some (.int .i64 s) ∧ w'.cell? ⟨w.heap.size, 1, none⟩ = some (.slice A m c))
      (first | exact ⟨e0, e1⟩ | exact ⟨by assumption, by assumption⟩ | (go_split_ands; exact ⟨by assumption, by assumption⟩))
      (first
      | (go_at_call 24; (with_reducible refine (HFY.out _ ?_).mono ?_); (focus exact K1.out.trans KA.out.drew); rintro e w3 ⟨rfl, k3⟩; have f0 := k3.keeps (b := w.heap.size) (o := 0) (s := none) e0; have f1 := k3.keeps (b := w.heap.size) (o := 1) (s := none) e1; have K3 := hid (KA.out.drew.trans k3); have OB3 := hid (k3.oblk (l := List.replicate ml 0) OB0.out); clear k3))
    go_wp2_with fail
    have HSD := hid (show Srt (geL L fd) from srt_filter HV.out.ord _)
    have HDP := hid (show ∀ p ∈ geL L fd, fd ≤ p.n ∧ 0 ≤ p.n ∧ p.n < 3621 ∧ p.b.length = 128 from fun p hp => by
      obtain ⟨m1, m2⟩ := List.mem_filter.1 hp
      obtain ⟨v1, v2, v3, -⟩ := HV.out.pc p m1
      have := HV.out.s1
      simp only [decide_eq_true_eq] at m2
      dsimp only at *
      exact ⟨m2, v1, by omega, v3⟩)
    have HFIN := hid (show ∀ w' cur, Kept w1 w' → OBlk w' w1.heap.size 5 cur → cur.length = ml → (∀ j, j < ml → cur.getD j 0 = octL (geL L fd) (of + j)) → ReadPost ⟨s, L⟩ of nn w (.returned (.tuple #[.slice (some ⟨w1.heap.size, 0, none⟩) ml ml, .int .i64 0])) w' from fun w' cur k ob hl hc => by
      refine HOK.out w' _ ml HMLQ.out.symm (K1.out.trans k) ?_
      rw [show rdB L of ml = cur from ext_getD (by rw [rdB_len, hl]) (fun j hj => by
        rw [rdB_len] at hj
        rw [rdB_at _ _ _ _ hj, hc j hj, octL_ge _ _ _ (by have := HFD.out; omega)])]
      exact ob)
    have KW := hid (show Kept w w1 from K1.out)
    have HOB0 := hid (show (List.replicate ml (0 : UInt8)).length = ml ∧ ∀ j, j < ml → (List.replicate ml (0 : UInt8)).getD j 0 = octL ((geL L fd).take 0) (of + j) from ⟨List.length_replicate, fun j hj => by
      rw [List.getD_eq_getElem?_getD, List.getElem?_replicate, if_pos hj]; rfl⟩)
    have HDL := hid (show (geL L fd).length = m2 from HPD.out.open_.1)
    have hm63 : m2 ≤ 9223372036854775807 := by have := HPD.out.open_; omega
    generalize geL L fd = D at *
    clear f0 f1 e0 e1 hcut HFY HOK HFX HFI HM HP OB0 KA K1 hfd hfd2 hwf HML
    go_loopw [42] (fun t wr => ∃ (k : Nat) (cur : List UInt8), k ≤ m2 ∧ t = .int .i64 k ∧ OBlk wr w1.heap.size 5 cur ∧ cur.length = ml ∧ (∀ j, j < ml → cur.getD j 0 = octL (D.take k) (of + j)) ∧ Kept w1 wr) (fun t _ => m2 - (intOf t).toNat)
    case atStart => exact ⟨0, _, by omega, rfl, OB3.out, HOB0.out.1, HOB0.out.2, K3.out⟩
    case round =>
      obtain ⟨k, cur, hk, rfl, hob, hcl, hcur, hkw⟩ := hrel
      have HOB := hid hob; have HCL := hid hcl; have HCU := hid hcur; have HK := hid hkw
      clear hob hcl hcur hkw
      by_cases hlt : k < m2
      · obtain ⟨b, o, p, rfl, hp, hc1, vb, hc2, hby⟩ := HPD.out.at_ k hlt
        have k0 : (0 : Int) ≤ (k : Int) := by omega
        have k1 : (k : Int) < (m2 : Int) := by omega
        have c1 := (KW.out.trans HK.out).keeps hc1; have c2 := (KW.out.trans HK.out).keeps hc2
        obtain ⟨p1, p2, p3, p4⟩ := HDP.out p (List.mem_of_getElem? hp)
        obtain ⟨A1, c3, rfl⟩ := hby.shape
        have HST := hid (fun x y h1 h2 h3 h4 => read_step HSD.out hp p4 of ml (by have := HFD.out; omega) x y h1 h2 h3 h4 cur HCL.out HCU.out)
        have HSTOP := hid (fun j h => octL_stop HSD.out k p hp (of + j) h)
        have HBY := hid hby
        obtain ⟨pn, pb⟩ := p
        dsimp only at *
        rw [p4] at c2 HBY
        clear hp hc1 hc2 hby p4
        obtain ⟨st, hst⟩ : ∃ st, pn * 128 = st := ⟨_, rfl⟩
        by_cases hbrk : (of : Int) + ml ≤ st
        · go_wp2_with fail
          go_ret2
          exact HFIN.out _ cur (HK.out.trans (by repeat (first | exact Kept.refl _ | assumption | refine Kept.alloc ?_ _ | refine Kept.drew ?_ | refine Kept.drewN ?_ _ | refine Kept.setCell ?_ (by simp; try omega) _ | refine Kept.trans ?_ (by assumption)))) (Kept.oblk (by repeat (first | exact Kept.refl _ | assumption | refine Kept.alloc ?_ _ | refine Kept.drew ?_ | refine Kept.drewN ?_ _ | refine Kept.setCell ?_ (by simp; try omega) _ | refine Kept.trans ?_ (by assumption))) HOB.out) HCL.out (fun j hj => by rw [HSTOP.out j (by omega)]; exact HCU.out j hj)
        · have hyy : (fd : Int) * 128 + 128 > (of : Int) := by have := HFD.out; omega
          obtain ⟨a1, ha1⟩ : ∃ a1, st - (of : Int) = a1 := ⟨_, rfl⟩
          obtain ⟨a2, ha2⟩ : ∃ a2, (of : Int) - st = a2 := ⟨_, rfl⟩
          obtain ⟨x, hx⟩ : ∃ x : Nat, max a1 0 = (x : Int) := ⟨(max a1 0).toNat, by omega⟩
          obtain ⟨y, hy⟩ : ∃ y : Nat, max a2 0 = (y : Int) := ⟨(max a2 0).toNat, by omega⟩
          have hwa1 : IntKind.i64.wrap a1 = a1 := IntWalk.i64_in _ (by omega)
          have hwa2 : IntKind.i64.wrap a2 = a2 := IntWalk.i64_in _ (by omega)
          have hxl : x < ml ∨ x = 0 := by omega
          have hyl : y ≤ 128 := by omega
          have hcx := own_cut (g := w1.heap.size) (N := ml) x hxl
          have hcy := byts_cut (A := A1) (n := 128) (c := c3) y hyl
          have HBD := hid (HBY.out.drop y hyl)
          have HSX := hid (HST.out x y (by omega) (by omega) hyl (by omega))
          generalize hA2 : restA A1 c3 y 1 = A3 at *
          generalize 128 - y = n4 at *
          generalize hc5 : c3 - y = c5 at *
          have HXL := hid hxl; have HST2 := hid hst
          clear hA2 hc5 hxl hyl hyy HST
          go_wp2_with fail
          have HWB := hid ((Kept.refl wr).alloc (.cells #[.int .i64 pn, .slice A1 128 c3] 64))
          have hbx2 : (wr.alloc (.cells #[.int .i64 pn, .slice A1 128 c3] 64)).cell? ⟨wr.heap.size, 1, none⟩ = some (.slice A1 128 c3) := by simp [go_sem]
          have hbne : wr.heap.size ≠ w1.heap.size := by have := HOB.out.lt; omega
          generalize (wr.alloc (.cells #[.int .i64 pn, .slice A1 128 c3] 64)) = wb at *
          refine wp_region_held_drew (S := fun w' => w'.cell? ⟨wr.heap.size, 1, none⟩ = some (.slice A1 128 c3)) (by kernel_rfl) hbx2 (fun hHeld => ?_)
          refine wpAnyH_take (i := 0) (v := ?_) rfl (by kernel_rfl) (by kernel_rfl) (by kernel_rfl) (fun _ _ _ h => h) (Or.inl ⟨by rfl, ?_⟩) (by assumption) ?_
          rotate_left
          focus (intro w hSw; (try dsimp only at hSw); go_simp; first | done | with_reducible rfl)
          (try simp only [List.getElem_toArray, List.getElem_cons_zero, List.getElem_cons_succ, Act.put, List.setIfInBounds_toArray, List.set_cons_zero, List.set_cons_succ])
          refine wpAnyH_take (i := 1) (v := ?_) rfl (by kernel_rfl) (by kernel_rfl) (by kernel_rfl) (fun _ _ _ h => h) (Or.inl ⟨by rfl, ?_⟩) (by assumption) ?_
          rotate_left
          focus (intro w hSw; (try dsimp only at hSw); go_simp; first | done | with_reducible rfl)
          (try simp only [List.getElem_toArray, List.getElem_cons_zero, List.getElem_cons_succ, Act.put, List.setIfInBounds_toArray, List.set_cons_zero, List.set_cons_succ])
          refine wpAnyH_take (i := 2) (v := ?_) rfl (by kernel_rfl) (by kernel_rfl) (by kernel_rfl) (fun _ _ _ h => h) (Or.inl ⟨by rfl, ?_⟩) (by assumption) ?_
          rotate_left
          focus (intro w hSw; (try dsimp only at hSw); go_simp; first | done | with_reducible rfl)
          (try simp only [List.getElem_toArray, List.getElem_cons_zero, List.getElem_cons_succ, Act.put, List.setIfInBounds_toArray, List.set_cons_zero, List.set_cons_succ])
          refine wpAnyH_take (i := 3) (v := ?_) rfl (by kernel_rfl) (by kernel_rfl) (by kernel_rfl) (fun _ _ _ h => h) (Or.inl ⟨by rfl, ?_⟩) (by assumption) ?_
          rotate_left
          focus (intro w hSw; (try dsimp only at hSw); go_simp; first | done | with_reducible rfl)
          (try simp only [List.getElem_toArray, List.getElem_cons_zero, List.getElem_cons_succ, Act.put, List.setIfInBounds_toArray, List.set_cons_zero, List.set_cons_succ])
          refine wpAnyH_take (i := 4) (v := ?_) rfl (by kernel_rfl) (by kernel_rfl) (by kernel_rfl) (fun _ _ _ h => h) (Or.inl ⟨by rfl, ?_⟩) (by assumption) ?_
          rotate_left
          focus (intro w hSw; (try dsimp only at hSw); go_simp; first | done | with_reducible rfl)
          (try simp only [List.getElem_toArray, List.getElem_cons_zero, List.getElem_cons_succ, Act.put, List.setIfInBounds_toArray, List.set_cons_zero, List.set_cons_succ])
          refine wpAnyH_take (i := 5) (v := ?_) rfl (by kernel_rfl) (by kernel_rfl) (by kernel_rfl) (fun _ _ _ h => h) (Or.inl ⟨by rfl, ?_⟩) (by assumption) ?_
          rotate_left
          focus (intro w hSw; (try dsimp only at hSw); go_simp; first | done | with_reducible rfl)
          (try simp only [List.getElem_toArray, List.getElem_cons_zero, List.getElem_cons_succ, Act.put, List.setIfInBounds_toArray, List.set_cons_zero, List.set_cons_succ])
          refine wpAnyH_take (i := 6) (v := ?_) rfl (by kernel_rfl) (by kernel_rfl) (by kernel_rfl) (fun _ _ _ h => h) (Or.inl ⟨by rfl, ?_⟩) (by assumption) ?_
          rotate_left
          focus (intro w hSw; (try dsimp only at hSw); go_simp; first | done | with_reducible rfl)
          (try simp only [List.getElem_toArray, List.getElem_cons_zero, List.getElem_cons_succ, Act.put, List.setIfInBounds_toArray, List.set_cons_zero, List.set_cons_succ])
          refine wpAnyH_take (i := 7) (v := ?_) rfl (by kernel_rfl) (by kernel_rfl) (by kernel_rfl) (fun _ _ _ h => h) (Or.inl ⟨by rfl, ?_⟩) (by assumption) ?_
          rotate_left
          focus (intro w hSw; (try dsimp only at hSw); go_simp; first | done | with_reducible rfl)
          (try simp only [List.getElem_toArray, List.getElem_cons_zero, List.getElem_cons_succ, Act.put, List.setIfInBounds_toArray, List.set_cons_zero, List.set_cons_succ])
          refine wpAnyH_take (i := 8) (v := ?_) rfl (by kernel_rfl) (by kernel_rfl) (by kernel_rfl) (fun _ _ _ h => h) (Or.inl ⟨by rfl, ?_⟩) (by assumption) ?_
          rotate_left
          focus (intro w hSw; (try dsimp only at hSw); go_simp; first | done | with_reducible rfl)
          (try simp only [List.getElem_toArray, List.getElem_cons_zero, List.getElem_cons_succ, Act.put, List.setIfInBounds_toArray, List.set_cons_zero, List.set_cons_succ])
          refine wpAnyH_take (i := 9) (v := ?_) rfl (by kernel_rfl) (by kernel_rfl) (by kernel_rfl) (fun _ _ _ h => h) (Or.inl ⟨by rfl, ?_⟩) (by assumption) ?_
          rotate_left
          focus (intro w hSw; (try dsimp only at hSw); go_simp; first | done | with_reducible rfl)
          (try simp only [List.getElem_toArray, List.getElem_cons_zero, List.getElem_cons_succ, Act.put, List.setIfInBounds_toArray, List.set_cons_zero, List.set_cons_succ])
          refine wpAnyH_take (i := 10) (v := ?_) rfl (by kernel_rfl) (by kernel_rfl) (by kernel_rfl) (fun _ _ _ h => h) (Or.inl ⟨by rfl, ?_⟩) (by assumption) ?_
          rotate_left
          focus (intro w hSw; (try dsimp only at hSw); go_simp; first | done | with_reducible rfl)
          (try simp only [List.getElem_toArray, List.getElem_cons_zero, List.getElem_cons_succ, Act.put, List.setIfInBounds_toArray, List.set_cons_zero, List.set_cons_succ])
          refine wpAnyH_take (i := 11) (v := ?_) rfl (by kernel_rfl) (by kernel_rfl) (by kernel_rfl) (fun _ _ _ h => h) (Or.inl ⟨by rfl, ?_⟩) (by assumption) ?_
          rotate_left
          focus (intro w hSw; (try dsimp only at hSw); go_simp; first | done | with_reducible rfl)
          (try simp only [List.getElem_toArray, List.getElem_cons_zero, List.getElem_cons_succ, Act.put, List.setIfInBounds_toArray, List.set_cons_zero, List.set_cons_succ])
          refine wpAnyH_take (i := 12) (v := ?_) rfl (by kernel_rfl) (by kernel_rfl) (by kernel_rfl) (fun _ _ _ h => h) (Or.inl ⟨by rfl, ?_⟩) (by assumption) ?_
          rotate_left
          focus (intro w hSw; (try dsimp only at hSw); go_simp; first | done | with_reducible rfl)
          (try simp only [List.getElem_toArray, List.getElem_cons_zero, List.getElem_cons_succ, Act.put, List.setIfInBounds_toArray, List.set_cons_zero, List.set_cons_succ])
          refine wpAnyH_ready (rs := [13]) (by kernel_rfl) (by simp) ?_
          refine AllReadyH.cons rfl (fun K hK => ?_) AllReadyH.nil
          refine step_copyB rfl (.tmp 60) (.tmp 67) rfl w1.heap.size x (ml - x) (ml - x) n4 c5 A3 cur (pb.drop y) (by rfl) (by rfl) (CB.drew (HWB.out.oblk HOB.out)) (by have := HXL.out; have := HCL.out; omega) (Kept.byts (KW.out.trans (HK.out.trans HWB.out.drew)) HBD.out) ?_
          intro w5 x5 ob5 bt5
          refine hK.out _ _ (bt5.keeps (show wb.drew.cell? _ = _ from hbx2) hbne) (fun hHeld => ?_)
          clear hK K
          (try simp only [List.getElem_toArray, List.getElem_cons_zero, List.getElem_cons_succ, Act.put, List.setIfInBounds_toArray, List.set_cons_zero, List.set_cons_succ])
          refine wpAnyH_done (by kernel_rfl) ?_ _
          go_wp2_with fail
          go_roundw
          case rel => exact ⟨k + 1, _, by omega, by go_num, ob5, HSX.out.1, HSX.out.2, Kept.turned (HK.out.trans HWB.out.drew) bt5 (Nat.le_refl _)⟩
          case measure => simp [intOf]; omega
      · have hk2 : k = m2 := by omega
        have hlt2 : ¬ (k : Int) < (m2 : Int) := by omega
        go_wp2_with fail
        go_ret2
        exact HFIN.out _ cur HK.out HOB.out HCL.out (fun j hj => by rw [HCU.out j hj, List.take_of_length_le (by rw [HDL.out]; omega)])
end Go.Proofs.YtiiogglflpladaaDoor
