/- Sparse: arguments that came in by value, opened. -/
import Derived.Test.Ytfkmhdnapmicdaa19AA
import Derived.Lib.SmallJoins
import Derived.Below
import Derived.ChangeOld
import Derived.Deep.SlicePairs
namespace Go.Proofs.Ytfkmhdnapmicdaa
set_option linter.unusedSimpArgs false
set_option linter.unusedVariables false
open Go.ChangeShapes Go.WideShapes Go.ChangeAt Go.RowKit Go.Joins

theorem cellsI : Try.prog.cellsOf 3 = 1 := by kernel_rfl
theorem cellsW : Try.prog.cellsOf 46 = 1 := by kernel_rfl
theorem cellsU : Try.prog.cellsOf 5 = 1 := by kernel_rfl
theorem cellsBs : Try.prog.cellsOf 25 = 1 := by kernel_rfl
theorem cellsPs : Try.prog.cellsOf 22 = 1 := by kernel_rfl
theorem cellsPc : Try.prog.cellsOf 62 = 2 := by kernel_rfl
theorem cellsSp : Try.prog.cellsOf 24 = 2 := by kernel_rfl
theorem cellsRd : Try.prog.cellsOf 57 = 6 := by kernel_rfl
theorem cellsBk : Try.prog.cellsOf 48 = 5 := by kernel_rfl
theorem cellsTw : Try.prog.cellsOf 53 = 6 := by kernel_rfl
section
variable {H : Type} {enc : TypeId × Value → H} {W : World} {base : Nat} {held : Bool} {fuel : Nat}
theorem int_cells {c : Value} {x : DataW H × List MemPlace}
    (h : DataW.trod enc Try.prog W base (fun _ => true) held fuel 3 [c] = some x) : ∃ a : Int, c = .int .i64 a ∧ -9223372036854775808 ≤ a ∧ a ≤ 9223372036854775807 := by
  obtain ⟨a0, ea0, -, hw⟩ := DataW.trod_int Try.underlying3 h
  simp only [List.cons.injEq, and_true] at ea0
  simp only [Lit.wf, Bool.and_eq_true, decide_eq_true_eq] at hw
  exact ⟨a0, ea0, hw⟩
theorem u16_cells {c : Value} {x : DataW H × List MemPlace}
    (h : DataW.trod enc Try.prog W base (fun _ => true) held fuel 46 [c] = some x) : ∃ a : Nat, c = .int .u16 (a : Int) ∧ a ≤ 65535 := by
  obtain ⟨a0, ea0, -, hw⟩ := DataW.trod_int Try.underlying46 h
  simp only [List.cons.injEq, and_true] at ea0
  simp only [Lit.wf, Bool.and_eq_true, decide_eq_true_eq] at hw
  have hw : 0 ≤ a0 ∧ a0 ≤ 65535 := hw
  exact ⟨a0.toNat, by rw [ea0]; congr 1; omega, by omega⟩
theorem u8_back {z : Int} (h0 : 0 ≤ z) (h1 : z ≤ 255) : ((UInt8.ofNat z.toNat).toNat : Int) = z := by
  have : (UInt8.ofNat z.toNat).toNat = z.toNat % 256 := by simp
  rw [this]; omega
theorem bytes_cells {c : Value} {x : DataW H × List MemPlace}
    (h : DataW.trod enc Try.prog W base (fun _ => true) held fuel 25 [c] = some x) : ∃ l, Byts W c l := by
  rcases open_ints Try.underlying25 Try.underlying5 (by kernel_rfl) h with ⟨hcs, _⟩ | ⟨a, l, c0, zs, hcs, _, hl, hm, hz, _, hcell, hwz⟩
  · simp only [List.cons.injEq, and_true] at hcs
    subst hcs
    exact ⟨[], byts_nil _⟩
  · simp only [List.cons.injEq, and_true] at hcs
    subst hcs
    have hz : zs.length = c0 := by simpa using hz
    have hlen : ((zs.take l).map (fun z => UInt8.ofNat z.toNat)).length = l := by simp; omega
    refine ⟨(zs.take l).map (fun z => UInt8.ofNat z.toNat), ?_⟩
    obtain ⟨b, o, s⟩ := a
    refine ⟨_, c0, by rw [hlen], by omega, by unfold maxLen at hm; omega, by simp, fun h0 => ?_⟩
    rw [hlen] at h0
    have h1 := hcell 0 (by omega)
    have hs : s = none := by simpa [Addr.add] using World.cell?_spot h1
    subst hs
    refine ⟨b, o, rfl, fun j v hv => ?_⟩
    have hj := (List.getElem?_eq_some_iff.1 hv).1
    rw [bcells_len, hlen] at hj
    have h2 := hcell j (by omega)
    rw [add_plain] at h2
    rw [h2, ← hv, bcells_at _ _ (by rw [hlen]; exact hj)]
    have hjz : j < zs.length := by omega
    have hw := hwz (zs.getD j 0) (by rw [List.getD_eq_getElem?_getD, List.getElem?_eq_getElem hjz]; exact List.getElem_mem hjz)
    simp only [Lit.wf, Bool.and_eq_true, decide_eq_true_eq] at hw
    have hw : 0 ≤ zs.getD j 0 ∧ zs.getD j 0 ≤ 255 := hw
    have e : ((zs.take l).map (fun z => UInt8.ofNat z.toNat)).getD j 0 = UInt8.ofNat (zs.getD j 0).toNat := by
      rw [List.getD_eq_getElem?_getD, List.getElem?_map, List.getElem?_take, if_pos hj, List.getD_eq_getElem?_getD, List.getElem?_eq_getElem hjz]; rfl
    rw [e, u8_back hw.1 hw.2]
theorem pcs_cells {c : Value} {x : DataW H × List MemPlace}
    (h : DataW.trod enc Try.prog W base (fun _ => true) held fuel 22 [c] = some x) : ∃ L, Pcs W c L := by
  rcases Go.Deep.open_slice_pairs Try.underlying22 Try.underlying62 cellsPc rfl rfl cellsI cellsBs h with ⟨hcs, _⟩ | ⟨a, len, cap, m, n, V0, V1, D0, D1, P0, P1, hcs, _, hl, hm, hmm, _, hi⟩
  · simp only [List.cons.injEq, and_true] at hcs
    subst hcs
    exact ⟨[], pcs_nil _⟩
  · simp only [List.cons.injEq, and_true] at hcs
    subst hcs
    have hnm : len ≤ m := by rw [hmm]; split <;> omega
    obtain ⟨b, o, s⟩ := a
    have hsp : 0 < len → s = none := fun h0 => by
      obtain ⟨h1, -⟩ := hi 0 (by omega)
      simpa [Addr.add] using World.cell?_spot h1
    have hall : ∀ i, ∃ p : Pc, i < len → PcAt W b (o + i * 2) p := by
      intro i
      by_cases hin : i < len
      · obtain ⟨h0, h1, h2, h3⟩ := hi i (by omega)
        obtain rfl := hsp (by omega)
        obtain ⟨a0, e0, -⟩ := int_cells (h2 : DataW.trod enc Try.prog W base (fun _ => true) held n 3 [V0 i] = _)
        obtain ⟨l, hB⟩ := bytes_cells (h3 : DataW.trod enc Try.prog W base (fun _ => true) held n 25 [V1 i] = _)
        rw [add_plain] at h0 h1
        rw [e0] at h0
        exact ⟨⟨a0, l⟩, fun _ => ⟨h0, _, h1, hB⟩⟩
      · exact ⟨⟨0, []⟩, fun h => absurd h hin⟩
    obtain ⟨f, hf⟩ := Classical.skolem.1 hall
    have hlen : ((List.range len).map f).length = len := by simp
    refine ⟨(List.range len).map f, _, cap, by rw [hlen], by omega, by unfold maxLen at hm; omega, by simp, fun h0 => ?_⟩
    rw [hlen] at h0
    refine ⟨b, o, by rw [hsp h0], fun i p hp => ?_⟩
    have hi2 := (List.getElem?_eq_some_iff.1 hp).1
    rw [hlen] at hi2
    rw [List.getElem?_map, List.getElem?_range hi2] at hp
    simp only [Option.map_some, Option.some.injEq] at hp
    subst hp
    exact hf i hi2
theorem sp_cells {cs : List Value} {x : DataW H × List MemPlace}
    (h : DataW.trod enc Try.prog W base (fun _ => true) held fuel 24 cs = some x) : ∃ (s : Int) (vl : Value) (L : List Pc), cs = [.int .i64 s, vl] ∧ Pcs W vl L ∧ -9223372036854775808 ≤ s ∧ s ≤ 9223372036854775807 := by
  obtain ⟨xs, n, _, _, hlen, hxl, hf⟩ := DataW.trod_struct Try.underlying24 h
  rw [cellsSp] at hlen
  match cs, hlen with
  | [c0, c1], _ =>
    have h0 := hf 0 _ rfl
    have h1 := hf 1 _ rfl
    change DataW.trod enc Try.prog W base (fun _ => true) held n 3 (List.take (Try.prog.cellsOf 3) (List.drop 0 [c0, c1])) = xs[0]? at h0
    change DataW.trod enc Try.prog W base (fun _ => true) held n 22 (List.take (Try.prog.cellsOf 22) (List.drop 1 [c0, c1])) = xs[1]? at h1
    rw [cellsI] at h0
    rw [cellsPs] at h1
    have hxl : xs.length = 2 := hxl
    have g0 : (xs[0]? ).isSome = true := by simp; omega
    have g1 : (xs[1]? ).isSome = true := by simp; omega
    obtain ⟨y0, e0⟩ := Option.isSome_iff_exists.1 g0
    obtain ⟨y1, e1⟩ := Option.isSome_iff_exists.1 g1
    rw [e0] at h0
    rw [e1] at h1
    obtain ⟨a0, rfl, ha⟩ := int_cells h0
    obtain ⟨L, hL⟩ := pcs_cells h1
    exact ⟨a0, c1, L, rfl, hL, ha⟩
end
section
variable {H : Type} {enc : TypeId × Value → H} {W : World} {base b0 : Nat} {held : Bool} {r : Reach} {v : Value} {dd : DataW H} {p : List MemPlace}
theorem sparse_open (hv : Value.okWide Try.prog W r b0 24 v) (h : DataW.Trod enc Try.prog W base (fun _ => true) held 24 v dd p) : ∃ f, Sp W v f := by
  obtain ⟨cs, rfl, hsz⟩ := okWide_struct Try.underlying24 hv
  obtain ⟨fuel, hf⟩ := h
  obtain ⟨s, vl, L, e, hL, -⟩ := sp_cells hf
  obtain ⟨l⟩ := cs
  have e : l = [.int .i64 s, vl] := e
  subst e
  exact ⟨⟨s, L⟩, vl, rfl, hL⟩
theorem bytes_open {A : Option Addr} {n c : Nat} (h : DataW.Trod enc Try.prog W base (fun _ => true) held 25 (.slice A n c) dd p) : ∃ l, Byts W (.slice A n c) l := by
  obtain ⟨fuel, hf⟩ := h
  exact bytes_cells hf
theorem reads_open (hv : Value.okWide Try.prog W r b0 57 v) (h : DataW.Trod enc Try.prog W base (fun _ => true) held 57 v dd p) :
    ∃ (s1 : Int) (v1 : Value) (L1 : List Pc) (s2 : Int) (v2 : Value) (L2 : List Pc) (a b : Int), v = .agg #[.int .i64 s1, v1, .int .i64 s2, v2, .int .i64 a, .int .i64 b] ∧ Pcs W v1 L1 ∧ Pcs W v2 L2 ∧ a ≤ 9223372036854775807 ∧ b ≤ 9223372036854775807 ∧ -9223372036854775808 ≤ a ∧ -9223372036854775808 ≤ b := by
  obtain ⟨cs, rfl, hsz⟩ := okWide_struct Try.underlying57 hv
  rw [cellsRd] at hsz
  obtain ⟨l⟩ := cs
  match l, hsz with
  | [c0, c1, c2, c3, c4, c5], _ =>
    obtain ⟨fuel, hf⟩ := h
    obtain ⟨xs, n, _, _, hlen, hxl, hf⟩ := DataW.trod_struct Try.underlying57 hf
    have hxl : xs.length = 4 := hxl
    have h0 := hf 0 _ rfl
    change DataW.trod enc Try.prog W base (fun _ => true) held n 24 (List.take (Try.prog.cellsOf 24) (List.drop 0 [c0, c1, c2, c3, c4, c5])) = xs[0]? at h0
    rw [cellsSp] at h0
    have g0 : (xs[0]? ).isSome = true := by simp; omega
    obtain ⟨y0, e0⟩ := Option.isSome_iff_exists.1 g0
    rw [e0] at h0
    have h1 := hf 1 _ rfl
    change DataW.trod enc Try.prog W base (fun _ => true) held n 24 (List.take (Try.prog.cellsOf 24) (List.drop 2 [c0, c1, c2, c3, c4, c5])) = xs[1]? at h1
    rw [cellsSp] at h1
    have g1 : (xs[1]? ).isSome = true := by simp; omega
    obtain ⟨y1, e1⟩ := Option.isSome_iff_exists.1 g1
    rw [e1] at h1
    have h2 := hf 2 _ rfl
    change DataW.trod enc Try.prog W base (fun _ => true) held n 3 (List.take (Try.prog.cellsOf 3) (List.drop 4 [c0, c1, c2, c3, c4, c5])) = xs[2]? at h2
    rw [cellsI] at h2
    have g2 : (xs[2]? ).isSome = true := by simp; omega
    obtain ⟨y2, e2⟩ := Option.isSome_iff_exists.1 g2
    rw [e2] at h2
    have h3 := hf 3 _ rfl
    change DataW.trod enc Try.prog W base (fun _ => true) held n 3 (List.take (Try.prog.cellsOf 3) (List.drop 5 [c0, c1, c2, c3, c4, c5])) = xs[3]? at h3
    rw [cellsI] at h3
    have g3 : (xs[3]? ).isSome = true := by simp; omega
    obtain ⟨y3, e3⟩ := Option.isSome_iff_exists.1 g3
    rw [e3] at h3
    obtain ⟨s0, vl0, L0, hs0, hL0, -⟩ := sp_cells h0
    simp only [List.drop_zero, List.drop_succ_cons, List.take_succ_cons, List.take_zero, List.cons.injEq, and_true] at hs0
    obtain ⟨rfl, rfl⟩ := hs0
    obtain ⟨s1, vl1, L1, hs1, hL1, -⟩ := sp_cells h1
    simp only [List.drop_zero, List.drop_succ_cons, List.take_succ_cons, List.take_zero, List.cons.injEq, and_true] at hs1
    obtain ⟨rfl, rfl⟩ := hs1
    obtain ⟨a, rfl, ha⟩ := int_cells (c := c4) h2
    obtain ⟨b, rfl, hb⟩ := int_cells (c := c5) h3
    exact ⟨s0, _, L0, s1, _, L1, a, b, rfl, hL0, hL1, ha.2, hb.2, ha.1, hb.1⟩
theorem back_open (hv : Value.okWide Try.prog W r b0 48 v) (h : DataW.Trod enc Try.prog W base (fun _ => true) held 48 v dd p) :
    ∃ (s : Int) (vl : Value) (L : List Pc) (a : Nat) (vb : Value) (l : List UInt8) (b : Nat), v = .agg #[.int .i64 s, vl, .int .u16 (a : Int), vb, .int .u16 (b : Int)] ∧ Pcs W vl L ∧ Byts W vb l ∧ a ≤ 65535 ∧ b ≤ 65535 := by
  obtain ⟨cs, rfl, hsz⟩ := okWide_struct Try.underlying48 hv
  rw [cellsBk] at hsz
  obtain ⟨l⟩ := cs
  match l, hsz with
  | [c0, c1, c2, c3, c4], _ =>
    obtain ⟨fuel, hf⟩ := h
    obtain ⟨xs, n, _, _, hlen, hxl, hf⟩ := DataW.trod_struct Try.underlying48 hf
    have hxl : xs.length = 4 := hxl
    have h0 := hf 0 _ rfl
    change DataW.trod enc Try.prog W base (fun _ => true) held n 24 (List.take (Try.prog.cellsOf 24) (List.drop 0 [c0, c1, c2, c3, c4])) = xs[0]? at h0
    rw [cellsSp] at h0
    have g0 : (xs[0]? ).isSome = true := by simp; omega
    obtain ⟨y0, e0⟩ := Option.isSome_iff_exists.1 g0
    rw [e0] at h0
    have h1 := hf 1 _ rfl
    change DataW.trod enc Try.prog W base (fun _ => true) held n 46 (List.take (Try.prog.cellsOf 46) (List.drop 2 [c0, c1, c2, c3, c4])) = xs[1]? at h1
    rw [cellsW] at h1
    have g1 : (xs[1]? ).isSome = true := by simp; omega
    obtain ⟨y1, e1⟩ := Option.isSome_iff_exists.1 g1
    rw [e1] at h1
    have h2 := hf 2 _ rfl
    change DataW.trod enc Try.prog W base (fun _ => true) held n 25 (List.take (Try.prog.cellsOf 25) (List.drop 3 [c0, c1, c2, c3, c4])) = xs[2]? at h2
    rw [cellsBs] at h2
    have g2 : (xs[2]? ).isSome = true := by simp; omega
    obtain ⟨y2, e2⟩ := Option.isSome_iff_exists.1 g2
    rw [e2] at h2
    have h3 := hf 3 _ rfl
    change DataW.trod enc Try.prog W base (fun _ => true) held n 46 (List.take (Try.prog.cellsOf 46) (List.drop 4 [c0, c1, c2, c3, c4])) = xs[3]? at h3
    rw [cellsW] at h3
    have g3 : (xs[3]? ).isSome = true := by simp; omega
    obtain ⟨y3, e3⟩ := Option.isSome_iff_exists.1 g3
    rw [e3] at h3
    obtain ⟨s0, vl0, L0, hs0, hL0, -⟩ := sp_cells h0
    simp only [List.drop_zero, List.drop_succ_cons, List.take_succ_cons, List.take_zero, List.cons.injEq, and_true] at hs0
    obtain ⟨rfl, rfl⟩ := hs0
    obtain ⟨a, rfl, ha⟩ := u16_cells (c := c2) h1
    obtain ⟨l, hl⟩ := bytes_cells (c := c3) h2
    obtain ⟨b, rfl, hb⟩ := u16_cells (c := c4) h3
    exact ⟨s0, _, L0, a, _, l, b, rfl, hL0, hl, ha, hb⟩
theorem twice_open (hv : Value.okWide Try.prog W r b0 53 v) (h : DataW.Trod enc Try.prog W base (fun _ => true) held 53 v dd p) :
    ∃ (s : Int) (vl : Value) (L : List Pc) (a b : Nat) (va : Value) (l : List UInt8) (vb : Value) (m : List UInt8), v = .agg #[.int .i64 s, vl, .int .u16 (a : Int), .int .u16 (b : Int), va, vb] ∧ Pcs W vl L ∧ Byts W va l ∧ Byts W vb m ∧ a ≤ 65535 ∧ b ≤ 65535 := by
  obtain ⟨cs, rfl, hsz⟩ := okWide_struct Try.underlying53 hv
  rw [cellsTw] at hsz
  obtain ⟨l⟩ := cs
  match l, hsz with
  | [c0, c1, c2, c3, c4, c5], _ =>
    obtain ⟨fuel, hf⟩ := h
    obtain ⟨xs, n, _, _, hlen, hxl, hf⟩ := DataW.trod_struct Try.underlying53 hf
    have hxl : xs.length = 5 := hxl
    have h0 := hf 0 _ rfl
    change DataW.trod enc Try.prog W base (fun _ => true) held n 24 (List.take (Try.prog.cellsOf 24) (List.drop 0 [c0, c1, c2, c3, c4, c5])) = xs[0]? at h0
    rw [cellsSp] at h0
    have g0 : (xs[0]? ).isSome = true := by simp; omega
    obtain ⟨y0, e0⟩ := Option.isSome_iff_exists.1 g0
    rw [e0] at h0
    have h1 := hf 1 _ rfl
    change DataW.trod enc Try.prog W base (fun _ => true) held n 46 (List.take (Try.prog.cellsOf 46) (List.drop 2 [c0, c1, c2, c3, c4, c5])) = xs[1]? at h1
    rw [cellsW] at h1
    have g1 : (xs[1]? ).isSome = true := by simp; omega
    obtain ⟨y1, e1⟩ := Option.isSome_iff_exists.1 g1
    rw [e1] at h1
    have h2 := hf 2 _ rfl
    change DataW.trod enc Try.prog W base (fun _ => true) held n 46 (List.take (Try.prog.cellsOf 46) (List.drop 3 [c0, c1, c2, c3, c4, c5])) = xs[2]? at h2
    rw [cellsW] at h2
    have g2 : (xs[2]? ).isSome = true := by simp; omega
    obtain ⟨y2, e2⟩ := Option.isSome_iff_exists.1 g2
    rw [e2] at h2
    have h3 := hf 3 _ rfl
    change DataW.trod enc Try.prog W base (fun _ => true) held n 25 (List.take (Try.prog.cellsOf 25) (List.drop 4 [c0, c1, c2, c3, c4, c5])) = xs[3]? at h3
    rw [cellsBs] at h3
    have g3 : (xs[3]? ).isSome = true := by simp; omega
    obtain ⟨y3, e3⟩ := Option.isSome_iff_exists.1 g3
    rw [e3] at h3
    have h4 := hf 4 _ rfl
    change DataW.trod enc Try.prog W base (fun _ => true) held n 25 (List.take (Try.prog.cellsOf 25) (List.drop 5 [c0, c1, c2, c3, c4, c5])) = xs[4]? at h4
    rw [cellsBs] at h4
    have g4 : (xs[4]? ).isSome = true := by simp; omega
    obtain ⟨y4, e4⟩ := Option.isSome_iff_exists.1 g4
    rw [e4] at h4
    obtain ⟨s0, vl0, L0, hs0, hL0, -⟩ := sp_cells h0
    simp only [List.drop_zero, List.drop_succ_cons, List.take_succ_cons, List.take_zero, List.cons.injEq, and_true] at hs0
    obtain ⟨rfl, rfl⟩ := hs0
    obtain ⟨a, rfl, ha⟩ := u16_cells (c := c2) h1
    obtain ⟨b, rfl, hb⟩ := u16_cells (c := c3) h2
    obtain ⟨l, hl⟩ := bytes_cells (c := c4) h3
    obtain ⟨m, hm⟩ := bytes_cells (c := c5) h4
    exact ⟨s0, _, L0, a, b, _, l, _, m, rfl, hL0, hl, hm, ha, hb⟩
end
end Go.Proofs.Ytfkmhdnapmicdaa
