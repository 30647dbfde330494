/- The device: execute, as far as a crash says. -/
import Derived.Test.Ytpbmkokjjcdhfaa4J
namespace Go.Proofs.Ytpbmkokjjcdhfaa
set_option linter.unusedSimpArgs false
set_option linter.unusedVariables false
open Go.RowKit

/-- the numbers of a crash, boxed, in blocks that are not the device's -/
def FarAt (h : DH) (w : World) (bx : Nat) (L : List Int) : Prop :=
  ∃ A c, w.cell? ⟨bx, 0, none⟩ = some (.slice A L.length c) ∧ Out h w bx ∧ L.length ≤ c ∧ c ≤ 9223372036854775807 ∧ (0 < L.length → ∃ b o, A = some ⟨b, o, none⟩ ∧ Out h w b ∧ ∀ i, i < L.length → w.cell? ⟨b, o + i, none⟩ = some (.int .i64 (L.getD i 0)))
theorem Step.far {h h' : DH} {w w' : World} (s : Step h h' w w') {bx : Nat} {L : List Int} (f : FarAt h w bx L) : FarAt h' w' bx L := by
  obtain ⟨A, c, h1, h2, h3, h4, h5⟩ := f
  refine ⟨A, c, s.keeps h2 h1, s.outs h2, h3, h4, fun h0 => ?_⟩
  obtain ⟨b, o, hA, ho, hc⟩ := h5 h0
  exact ⟨b, o, hA, s.outs ho, fun i hi => s.keeps ho (hc i hi)⟩
theorem crash1 (k : Nat) (L : List Int) (bx : Nat) (h : DH) (w : World) (f : FarAt h w bx L) (hk : k ≤ 9223372036854775807) : Calls Try.prog 36 #[.int .i64 (k : Int), .pointer (some ⟨bx, 0, none⟩)] w fun e w' => e = .returned (.int .i64 (L.getD k 0)) ∧ w = w' := by
  obtain ⟨A, c, h1, h2, h3, h4, h5⟩ := f
  by_cases hlt : k < L.length
  · obtain ⟨b, o, rfl, -, hc⟩ := h5 (by omega)
    have hck := hc k hlt
    have hk0 : (0 : Int) ≤ (k : Int) := by omega
    have hk1 : (k : Int) < (L.length : Int) := by omega
    clear hc h5 h2
    generalize L.getD k 0 = x at *
    generalize L.length = n at *
    go_enter Try.func36, Try.ntmps36
    go_wp2
    go_ret
    exact ⟨rfl, rfl⟩
  · have e : L.getD k 0 = 0 := by rw [List.getD_eq_getElem?_getD, List.getElem?_eq_none (by omega)]; rfl
    rw [e]
    have hd : decide ((k : Int) < (L.length : Int)) = false := decide_eq_false (by omega)
    clear h5 h2 e
    generalize L.length = n at *
    go_enter Try.func36, Try.ntmps36
    go_wp2
    go_ret
    exact ⟨rfl, rfl⟩
section
variable {w : World} {B : Nat} {h : DH} {S : DS}
set_option maxRecDepth 100000 in
set_option maxHeartbeats 4000000 in
theorem exec_crash (bx : Nat) (L : List Int) (w : World) (d : DevAt w B h S) (hf : FarAt h w bx L) :
    Calls Try.prog 34 #[.pointer (some ⟨h.P, 0, none⟩), .func (.func 36) #[] #[.pointer (some ⟨bx, 0, none⟩)]] w (DPost (.tuple #[]) { S with blk := exB S.blk S.pend (fun k => L.getD k 0) S.pend.length, pend := [] } B h w) := by
  have HPN := hid (show S.pend.length ≤ 9223372036854775807 from by
    rcases d.hp.2 with ⟨_, h0⟩ | ⟨g, cap, cur, _, _, _, hnc, hm, _⟩
    · omega
    · unfold maxLen at hm; omega)
  obtain ⟨Av, cv, hvp⟩ := ownsRow_shape d.hp
  have c1 := d.c1
  have hvl : S.pend.length ≤ cv := by
    rcases d.hp.2 with ⟨hv, h0⟩ | ⟨g, cap, cur, hv, _, _, hnc, _⟩
    · rw [hvp] at hv; injection hv with _ _ e; omega
    · rw [hvp] at hv; injection hv with _ _ e; omega
  rw [hvp] at c1
  have HD := hid d
  have HVP := hid hvp
  obtain ⟨np, hnp⟩ : ∃ np, np = S.pend.length := ⟨_, rfl⟩
  rw [← hnp] at c1 hvl HPN ⊢
  have hpn := HPN.out
  have HNP := hid hnp
  have HFL := hid hf
  clear hf
  clear hnp d hvp
  obtain ⟨P, hP⟩ : ∃ P, P = h.P := ⟨_, rfl⟩
  rw [← hP] at c1 ⊢
  have HPh := hid hP
  clear hP
  go_enter Try.func34, Try.ntmps34
  go_wp2
  go_loopw [12] (fun t wr => ∃ k : Nat, k ≤ np ∧ t = .int .i64 k ∧ DevAt wr B h { S with blk := exB S.blk S.pend (fun k => L.getD k 0) k } ∧ Step h h w wr) (fun t _ => np - (intOf t).toNat)
  case atStart => exact ⟨0, by omega, rfl, HD.out, Step.refl _ _⟩
  case round =>
    obtain ⟨k, hk, rfl, hdk, hsk⟩ := hrel
    have HDK := hid hdk; have HSK := hid hsk
    clear hdk hsk
    by_cases hlt : k < np
    · have hkl : k < S.pend.length := by rw [← HNP.out]; exact hlt
      obtain ⟨g, cw, hg1, hg2, hg3, hgr⟩ := HDK.out.pendW k hkl
      dsimp only at hg1 hg2
      rw [HVP.out, ← HNP.out] at hg1
      injection hg1 with eA _ ec
      subst eA; subst ec
      have hps := HD.out.ok.pend _ (List.getElem_mem hkl)
      have HEX := hid (exB_succ S.blk S.pend (fun k => L.getD k 0) k hkl)
      have HGR := hid hgr
      generalize hpk : S.pend[k] = pk at *
      obtain ⟨at', l⟩ := pk
      dsimp only at hps HEX HGR
      clear hpk hgr hg2 hg3
      obtain ⟨hat, hll⟩ := hps
      have hn8 := HD.out.ok.n2
      obtain ⟨WB, hWB⟩ : ∃ WB : World, WB = wr.alloc (.cells (wcells (at' : Int) l).toArray 67) := ⟨_, rfl⟩
      have KB : Kept wr WB := by rw [hWB]; exact (Kept.refl wr).alloc _
      have hHb : WB.heap[wr.heap.size]? = some (.cells (wcells (at' : Int) l).toArray 67 (0, 0)) := by rw [hWB]; exact heap_alloc_new wr _
      have hwl := wcells_len (at' : Int) l hll
      have b0 : WB.cell? ⟨wr.heap.size, 0, none⟩ = some (.int .i64 at') := by
        rw [cell_of_row _ _ _ _ _ _ hHb]; simp [wcells]
      have b1 : WB.rangeAt wr.heap.size 1 (bcells l) := by
        intro j u hu
        rw [cell_of_row _ _ _ _ _ _ hHb, ← hu, show 1 + j = j + 1 by omega]; simp [wcells]
      have dB := KB.dev HDK.out
      have p0 := dB.c0
      have p1 := dB.c1
      rw [← HPh.out] at p0 p1
      dsimp only at p0 p1
      have HDB := hid dB
      have HKB := hid KB
      have hOut : Out h WB wr.heap.size := ⟨by rw [hWB]; simp, HDK.out.new_out (Nat.le_refl _)⟩
      have HOut := hid hOut
      have hq0 : (0 : Int) ≤ (k : Int) := by omega
      have hq1 : (k : Int) < (np : Int) := by omega
      have HWB := hid hWB
      have HFW := hid (crash1 k L bx h (wr.alloc (.cells (wcells (at' : Int) l).toArray 67)) (((Kept.refl wr).alloc _).step h |>.far (HSK.out.far HFL.out)) (by omega))
      have hcl := cl_int (L.getD k 0)
      have hnn := cl_le (L.getD k 0)
      generalize L.getD k 0 = x at *
      generalize cl x = nn at *
      have hcase : (x < 0 ∧ nn = 0) ∨ (x = (nn : Int) ∧ nn ≤ 128) ∨ (128 < x ∧ nn = 128) := by omega
      clear hcl
      clear dB KB hHb hOut
      generalize hBlk : exB S.blk S.pend (fun k => L.getD k 0) k = bk at *
      have HBK := hid hBlk
      clear hBlk
      rcases hcase with ⟨hx, rfl⟩ | ⟨rfl, hx1⟩ | ⟨hx, rfl⟩
      · have hx2 : ¬ 0 ≤ x := by omega
        have hx3 : ¬ 0 < x := by omega
        have hx4 : x ≤ 0 := by omega
        go_wp2_with (first
          | ((with_reducible refine wpList_loadW ?_ (.tmp 15) ?_ g (k * 129) ?_ (at' : Int) l hll HGR.out ?_); (focus rfl); (focus rfl); (focus rfl))
          | ((with_reducible refine wpList_boxW ?_ ?_ ?_ ?_ (.tmp 14) ?_ (.tmp 5) (.tmp 16) ?_ (.int .i64 (k : Int)) ?_ ?_ (at' : Int) l hll ?_ ?_); (focus rfl); (focus rfl); (focus rfl); (focus rfl); (focus rfl); (focus rfl); (focus rfl); (focus rfl); (focus rfl))
          | (go_at_call 36; refine HFW.out.mono ?_; rintro e w2 ⟨rfl, rfl⟩))
        rw [← HWB.out]
        have hPg : P ≠ h.gB := by rw [HPh.out]; exact HDB.out.apart.PB
        have hHg : wr.heap.size ≠ h.gB := fun e => HOut.out.2 (.inr (.inl e))
        have hat0 : (0 : Int) ≤ (at' : Int) := by omega
        have hat1 : (at' : Int) < (S.n : Int) := by omega
        have HWR := hid (fun (l2 : List UInt8) (h2 : l2.length ≤ 128) => HDB.out.drew.written at' hat l2 h2)
        dsimp only at HWR
        have HTH := hid (HDB.out.hB.there (at' * 128) 128 (by dsimp only; omega))
        obtain ⟨gB, hgB⟩ : ∃ gB, gB = h.gB := ⟨_, rfl⟩
        rw [← hgB] at p0 hPg hHg HWR HTH
        have HGB := hid hgB
        clear hgB
        generalize wr.heap.size = H at *
        have hq0 : ∀ vs : List Value, (WB.drew.setCells gB (at' * 128) vs).cell? ⟨P, 0, none⟩ = some (.slice (some ⟨gB, 0, none⟩) S.n S.n) := fun vs => (World.cell?_of_block (w := WB) (a := ⟨P, 0, none⟩) (heap_setCells_ne vs WB.drew gB _ P hPg)).trans p0
        have hq1 : ∀ vs : List Value, (WB.drew.setCells gB (at' * 128) vs).cell? ⟨H, 0, none⟩ = some (.int .i64 at') := fun vs => (World.cell?_of_block (w := WB) (a := ⟨H, 0, none⟩) (heap_setCells_ne vs WB.drew gB _ H hHg)).trans b0
        have HB1 := hid b1
        clear b1
        go_region_held3 (fun w' => w'.cell? ⟨P, 0, none⟩ = some (.slice (some ⟨gB, 0, none⟩) S.n S.n) ∧ w'.cell? ⟨H, 0, none⟩ = some (.int .i64 at'))
          (first | exact ⟨p0, b0⟩ | exact ⟨hq0 _, hq1 _⟩)
          ((refine step_copy (by rfl) (.tmp 30) (.tmp 33) (by rfl) gB (at' * 128) H 1 0 _ _ (by rfl) (by rfl) (l.take 0) (by rw [List.length_take]; omega) ?_ ?_ ?_; (focus (rw [bcells_take]; exact fun j u hu => HB1.out j u (by rw [List.getElem?_take] at hu; split at hu; exact hu; cases hu))); (focus exact fun j hj => HTH.out j (by omega))))
        all_goals (
          have hlen : (l.take 0).length = 0 := by rw [List.length_take]; omega
          have DW := HWR.out (l.take 0) (by omega)
          rw [hlen] at DW
          have hE : exB S.blk S.pend (fun k => L.getD k 0) (k + 1) = upd bk at' (l.take 0 ++ (bk at').drop 0) := HEX.out
          have HDW := hid DW
          have HE := hid hE
          clear DW hE hlen
          go_wp2_with fail
          go_roundw
          case rel => exact ⟨k + 1, by omega, by go_num, by rw [HE.out, ← HWB.out]; exact HDW.out.1, by rw [← HWB.out]; exact HSK.out.trans (((HKB.out.drew).step h).trans HDW.out.2)⟩
          case measure => simp [intOf]; omega)
      · have hx2 : (0 : Int) ≤ (nn : Int) := by omega
        have hx3 : (nn : Int) ≤ 128 := by omega
        go_wp2_with (first
          | ((with_reducible refine wpList_loadW ?_ (.tmp 15) ?_ g (k * 129) ?_ (at' : Int) l hll HGR.out ?_); (focus rfl); (focus rfl); (focus rfl))
          | ((with_reducible refine wpList_boxW ?_ ?_ ?_ ?_ (.tmp 14) ?_ (.tmp 5) (.tmp 16) ?_ (.int .i64 (k : Int)) ?_ ?_ (at' : Int) l hll ?_ ?_); (focus rfl); (focus rfl); (focus rfl); (focus rfl); (focus rfl); (focus rfl); (focus rfl); (focus rfl); (focus rfl))
          | (go_at_call 36; refine HFW.out.mono ?_; rintro e w2 ⟨rfl, rfl⟩))
        rw [← HWB.out]
        have hPg : P ≠ h.gB := by rw [HPh.out]; exact HDB.out.apart.PB
        have hHg : wr.heap.size ≠ h.gB := fun e => HOut.out.2 (.inr (.inl e))
        have hat0 : (0 : Int) ≤ (at' : Int) := by omega
        have hat1 : (at' : Int) < (S.n : Int) := by omega
        have HWR := hid (fun (l2 : List UInt8) (h2 : l2.length ≤ 128) => HDB.out.drew.written at' hat l2 h2)
        dsimp only at HWR
        have HTH := hid (HDB.out.hB.there (at' * 128) 128 (by dsimp only; omega))
        obtain ⟨gB, hgB⟩ : ∃ gB, gB = h.gB := ⟨_, rfl⟩
        rw [← hgB] at p0 hPg hHg HWR HTH
        have HGB := hid hgB
        clear hgB
        generalize wr.heap.size = H at *
        have hq0 : ∀ vs : List Value, (WB.drew.setCells gB (at' * 128) vs).cell? ⟨P, 0, none⟩ = some (.slice (some ⟨gB, 0, none⟩) S.n S.n) := fun vs => (World.cell?_of_block (w := WB) (a := ⟨P, 0, none⟩) (heap_setCells_ne vs WB.drew gB _ P hPg)).trans p0
        have hq1 : ∀ vs : List Value, (WB.drew.setCells gB (at' * 128) vs).cell? ⟨H, 0, none⟩ = some (.int .i64 at') := fun vs => (World.cell?_of_block (w := WB) (a := ⟨H, 0, none⟩) (heap_setCells_ne vs WB.drew gB _ H hHg)).trans b0
        have HB1 := hid b1
        clear b1
        go_region_held3 (fun w' => w'.cell? ⟨P, 0, none⟩ = some (.slice (some ⟨gB, 0, none⟩) S.n S.n) ∧ w'.cell? ⟨H, 0, none⟩ = some (.int .i64 at'))
          (first | exact ⟨p0, b0⟩ | exact ⟨hq0 _, hq1 _⟩)
          ((refine step_copy (by rfl) (.tmp 30) (.tmp 33) (by rfl) gB (at' * 128) H 1 nn _ _ (by rfl) (by rfl) (l.take nn) (by rw [List.length_take]; omega) ?_ ?_ ?_; (focus (rw [bcells_take]; exact fun j u hu => HB1.out j u (by rw [List.getElem?_take] at hu; split at hu; exact hu; cases hu))); (focus exact fun j hj => HTH.out j (by omega))))
        all_goals (
          have hlen : (l.take nn).length = nn := by rw [List.length_take]; omega
          have DW := HWR.out (l.take nn) (by omega)
          rw [hlen] at DW
          have hE : exB S.blk S.pend (fun k => L.getD k 0) (k + 1) = upd bk at' (l.take nn ++ (bk at').drop nn) := HEX.out
          have HDW := hid DW
          have HE := hid hE
          clear DW hE hlen
          go_wp2_with fail
          go_roundw
          case rel => exact ⟨k + 1, by omega, by go_num, by rw [HE.out, ← HWB.out]; exact HDW.out.1, by rw [← HWB.out]; exact HSK.out.trans (((HKB.out.drew).step h).trans HDW.out.2)⟩
          case measure => simp [intOf]; omega)
      · have hx2 : 0 ≤ x := by omega
        have hx3 : ¬ x < 0 := by omega
        have hx4 : 128 ≤ x := by omega
        have hx5 : ¬ x ≤ 128 := by omega
        have hx6 : ¬ x < 128 := by omega
        have hx7 : 0 < x := by omega
        go_wp2_with (first
          | ((with_reducible refine wpList_loadW ?_ (.tmp 15) ?_ g (k * 129) ?_ (at' : Int) l hll HGR.out ?_); (focus rfl); (focus rfl); (focus rfl))
          | ((with_reducible refine wpList_boxW ?_ ?_ ?_ ?_ (.tmp 14) ?_ (.tmp 5) (.tmp 16) ?_ (.int .i64 (k : Int)) ?_ ?_ (at' : Int) l hll ?_ ?_); (focus rfl); (focus rfl); (focus rfl); (focus rfl); (focus rfl); (focus rfl); (focus rfl); (focus rfl); (focus rfl))
          | (go_at_call 36; refine HFW.out.mono ?_; rintro e w2 ⟨rfl, rfl⟩))
        rw [← HWB.out]
        have hPg : P ≠ h.gB := by rw [HPh.out]; exact HDB.out.apart.PB
        have hHg : wr.heap.size ≠ h.gB := fun e => HOut.out.2 (.inr (.inl e))
        have hat0 : (0 : Int) ≤ (at' : Int) := by omega
        have hat1 : (at' : Int) < (S.n : Int) := by omega
        have HWR := hid (fun (l2 : List UInt8) (h2 : l2.length ≤ 128) => HDB.out.drew.written at' hat l2 h2)
        dsimp only at HWR
        have HTH := hid (HDB.out.hB.there (at' * 128) 128 (by dsimp only; omega))
        obtain ⟨gB, hgB⟩ : ∃ gB, gB = h.gB := ⟨_, rfl⟩
        rw [← hgB] at p0 hPg hHg HWR HTH
        have HGB := hid hgB
        clear hgB
        generalize wr.heap.size = H at *
        have hq0 : ∀ vs : List Value, (WB.drew.setCells gB (at' * 128) vs).cell? ⟨P, 0, none⟩ = some (.slice (some ⟨gB, 0, none⟩) S.n S.n) := fun vs => (World.cell?_of_block (w := WB) (a := ⟨P, 0, none⟩) (heap_setCells_ne vs WB.drew gB _ P hPg)).trans p0
        have hq1 : ∀ vs : List Value, (WB.drew.setCells gB (at' * 128) vs).cell? ⟨H, 0, none⟩ = some (.int .i64 at') := fun vs => (World.cell?_of_block (w := WB) (a := ⟨H, 0, none⟩) (heap_setCells_ne vs WB.drew gB _ H hHg)).trans b0
        have HB1 := hid b1
        clear b1
        go_region_held3 (fun w' => w'.cell? ⟨P, 0, none⟩ = some (.slice (some ⟨gB, 0, none⟩) S.n S.n) ∧ w'.cell? ⟨H, 0, none⟩ = some (.int .i64 at'))
          (first | exact ⟨p0, b0⟩ | exact ⟨hq0 _, hq1 _⟩)
          ((refine step_copy (by rfl) (.tmp 30) (.tmp 33) (by rfl) gB (at' * 128) H 1 128 _ _ (by rfl) (by rfl) (l.take 128) (by rw [List.length_take]; omega) ?_ ?_ ?_; (focus (rw [bcells_take]; exact fun j u hu => HB1.out j u (by rw [List.getElem?_take] at hu; split at hu; exact hu; cases hu))); (focus exact fun j hj => HTH.out j (by omega))))
        all_goals (
          have hlen : (l.take 128).length = 128 := by rw [List.length_take]; omega
          have DW := HWR.out (l.take 128) (by omega)
          rw [hlen] at DW
          have hE : exB S.blk S.pend (fun k => L.getD k 0) (k + 1) = upd bk at' (l.take 128 ++ (bk at').drop 128) := HEX.out
          have HDW := hid DW
          have HE := hid hE
          clear DW hE hlen
          go_wp2_with fail
          go_roundw
          case rel => exact ⟨k + 1, by omega, by go_num, by rw [HE.out, ← HWB.out]; exact HDW.out.1, by rw [← HWB.out]; exact HSK.out.trans (((HKB.out.drew).step h).trans HDW.out.2)⟩
          case measure => simp [intOf]; omega)
    · obtain rfl : k = np := by omega
      have hF := hid (forget_any wr HDK.out)
      rw [← HPh.out] at hF
      go_wp2_with (go_at_call 37; refine hF.out.mono ?_; rintro e w2 ⟨rfl, h', hd, hs⟩)
      go_end0
      exact ⟨rfl, _, hd, HSK.out.trans hs⟩
end
end Go.Proofs.Ytpbmkokjjcdhfaa
