/- The law HaymowNodes, whatever the input: the call returns true, and what came in reads as it did; the table that it reads is tied to the text. No other condition. -/
import Derived.Test.YtepljgondmkljaaDoorCards
import Derived.Test.YtepljgondmkljaaDoorTie
import Derived.WalkKit
import Derived.ProofKit
import Derived.OpenShut
import Derived.ChangeOld
import Derived.Below
import Derived.Deep.DeepHandedRow
import Derived.Lib.LaidTab
import Derived.Test.YtepljgondmkljaaDoorNL
namespace Go.Proofs.YtepljgondmkljaaDoor.haymowNodes
open Go.ChangeShapes Go.WideShapes Go.ChangeAt Go.RowKit
set_option linter.unusedVariables false

theorem intsK_open {k : IntKind} {hi : Int} {W : World} {x : Addr} {n c : Nat} {zs : List Int} (hz : zs.length = c) (hl : n ≤ c) (hm : c ≤ maxLen) (hcell : ∀ i, i < zs.length → W.cell? (x.add i) = some (.int k (zs.getD i 0))) (hr : ∀ z ∈ zs, 0 ≤ z ∧ z ≤ hi) :
    IntsK k hi W (.slice (some x) n c) n (fun i => zs.getD i 0) := by
  refine ⟨_, _, rfl, hl, by unfold maxLen at hm; omega, fun hn => ?_⟩
  obtain ⟨b, o, s⟩ := x
  have h0 := hcell 0 (by omega)
  have hs : s = none := by simpa [Addr.add] using World.cell?_spot h0
  subst hs
  refine ⟨b, o, rfl, fun i hi => ?_⟩
  have h1 := hcell i (by omega)
  have h2 := hr _ (List.getElem_mem (show i < zs.length by omega))
  have e : zs.getD i 0 = zs[i]'(by omega) := by rw [List.getD_eq_getElem?_getD, List.getElem?_eq_getElem (by omega)]; rfl
  rw [add_plain] at h1
  exact ⟨h1, by show 0 ≤ zs.getD i 0; rw [e]; exact h2.1, by show zs.getD i 0 ≤ _; rw [e]; exact h2.2⟩
theorem nodes_card {W : World} {v1 v2 : Value} {n1 n2 : Nat} {f1 f2 : Nat → Int} (h1 : IntsK .u16 65535 W v1 n1 f1) (h2 : IntsK .u32 4294967295 W v2 n2 f2) (o : Int) (ho : 0 ≤ o ∧ o ≤ 65535) {w : World} (hw : w = W) (ht : Tab w) (hT : HTab w) :
    Calls Tryd.prog 3 #[v1, v2, .int .u16 o] W fun e w' => e = .returned (.bool true) ∧ Kept W w' := by
  subst hw
  exact nodes_walk ht hT v1 v2 n1 n2 f1 f2 h1 h2 o ho
theorem tabIs_of_vars {P : Program} {W : World} {name : String} {k : IntKind} {zs : List Int} {rest : List (String × DataW Unit)} {g : Nat} {t e : TypeId} {n : Nat} {ps : List MemPlace}
    (hg : P.globalNamed name = some g) (hty : (P.globals[g]?).map (·.type) = some t) (ht : P.underlying t = some (.array n e)) (he : P.underlying e = some (.int k)) (hce : P.cellsOf e = 1) (hct : P.cellsOf t = n)
    (h : DataW.LaidVars P W ((name, Lib.tabData k zs) :: rest) ps) : Lib.TabIs P W name k zs := by
  obtain ⟨g', t', cs, fuel, p, q, hg', ht', hvar, hd, _, _⟩ := h
  obtain rfl := Option.some.inj (hg.symm.trans hg')
  obtain rfl := Option.some.inj (hty.symm.trans ht')
  unfold Lib.TabIs
  rw [hvar, ← Lib.cells_of_tab ht he hce hct hd]
theorem gTabH : Tryd.prog.globalNamed "haymow/crc.halves" = some 1 := by kernel_rfl
theorem gTabTypeH : (Tryd.prog.globals[1]?).map (·.type) = some 67 := by kernel_rfl
theorem cellsAH : Tryd.prog.cellsOf 67 = 16 := by kernel_rfl
theorem cellsIH : Tryd.prog.cellsOf 27 = 1 := by kernel_rfl
theorem own : ownKnob Tryd.prog.godebug = none := by kernel_rfl
theorem laidOut : laidOutB Tryd.prog = true := by kernel_rfl
theorem gTab : Tryd.prog.globalNamed "haymow/reach.reaches" = some 0 := by kernel_rfl
theorem gTabType : (Tryd.prog.globals[0]?).map (·.type) = some 49 := by kernel_rfl
theorem cellsA : Tryd.prog.cellsOf 49 = 9 := by kernel_rfl
theorem cellsI : Tryd.prog.cellsOf 3 = 1 := by kernel_rfl

theorem tableH {W : World} (h : laidMetH Tryd.prog Rows.haymowNodesRow.laid W) : Lib.TabIs Tryd.prog W "haymow/crc.halves" .u32 [0, 274646895, 549293790, 820201905, 1098587580, 1361435347, 1640403810, 1905808397, 2197175160, 2460548119, 2722870694, 2987750089, 3280807620, 3553878443, 3811616794, 4084100981] :=
  Lib.tabIs_of_head (rest := [("haymow/reach.reaches", Rows.laid_haymow_reach_reaches)]) gTabH gTabTypeH Tryd.underlying67 Tryd.underlying27 cellsIH cellsAH h
theorem table {W : World} (h : laidMetH Tryd.prog Rows.haymowNodesRow.laid W) : Lib.TabIs Tryd.prog W "haymow/reach.reaches" .i64 [1, 1, 1, 1, 1, 1, 15, 225, 3375] := by
  have h' : laidMet Tryd.prog [("haymow/crc.halves", Rows.laid_haymow_crc_halves), ("haymow/reach.reaches", Rows.laid_haymow_reach_reaches)] W := h
  obtain ⟨ps, ⟨g', t', cs, fuel, p, q, hg', ht', hvar, hd, hrest, _⟩, _⟩ := h'
  exact tabIs_of_vars (rest := []) gTab gTabType Tryd.underlying49 Tryd.underlying3 cellsI cellsA hrest
theorem htab {W : World} (h : laidMetH Tryd.prog Rows.haymowNodesRow.laid W) : HTab W := fun k hk => (tableH h).cell gTabH k hk
theorem tab {W : World} (h : laidMetH Tryd.prog Rows.haymowNodesRow.laid W) : Tab W :=
  ⟨(table h).cell gTab 0 (by decide), (table h).cell gTab 1 (by decide), (table h).cell gTab 2 (by decide), (table h).cell gTab 3 (by decide), (table h).cell gTab 4 (by decide),
    (table h).cell gTab 5 (by decide), (table h).cell gTab 6 (by decide), (table h).cell gTab 7 (by decide), (table h).cell gTab 8 (by decide)⟩

theorem contract (H : Type) (enc : TypeId × Value → H) (W : World) (base : Nat) (args : Array Value) (ds gs : List (DataW H)) (before : List MemPlace)
    (hval0 : ∀ (j : Nat) t v, Tryd.f3.params[j]? = some t → args[j]? = some v → Value.okWide Tryd.prog W .any base t v)
    (hW : DataW.Whole enc Tryd.prog Tryd.f3.params.toList Rows.haymowNodesSpec.vars false W args.toList ds gs before) (hL : laidMetH Tryd.prog Rows.haymowNodesRow.laid W) :
    Calls Tryd.prog 3 args W fun e W' => ∃ v, e = .returned v ∧ Rows.haymowNodesSpec.post enc Tryd.prog Tryd.f3 false true false false W args v W' := by
  have hval := hval0
  have hW' := hW
  obtain ⟨p, q, hA0, hV, rfl, hfz, hnd⟩ := hW
  have hA : DataW.TrodAll enc Tryd.prog W 0 (fun _ => true) true Tryd.f3.params.toList args.toList ds p := hA0
  rw [Tryd.params3] at hA hval
  obtain ⟨v0, vs0, d0, ds0, p0, q0, hargs, rfl, rfl, h0, r0⟩ := trodAll_cons hA
  obtain ⟨v1, vs1, d1, ds1, p1, q1, rfl, rfl, rfl, h1, r1⟩ := trodAll_cons r0
  obtain ⟨v2, vs2, d2, ds2, p2, q2, rfl, rfl, rfl, h2, r2⟩ := trodAll_cons r1
  obtain ⟨rfl, rfl, rfl⟩ := trodAll_nil r2
  obtain rfl : args = #[v0, v1, v2] := by cases args; simp_all
  obtain ⟨rfl, rfl⟩ := trodVars_none hV
  have k0 := h0
  have lt0 : ∀ x ∈ p0, x.block < W.heap.size := by obtain ⟨m, hm⟩ := k0; exact DataW.trod_lt m _ _ _ hm
  have k1 := h1
  have lt1 : ∀ x ∈ p1, x.block < W.heap.size := by obtain ⟨m, hm⟩ := k1; exact DataW.trod_lt m _ _ _ hm
  have k2 := h2
  have lt2 : ∀ x ∈ p2, x.block < W.heap.size := by obtain ⟨m, hm⟩ := k2; exact DataW.trod_lt m _ _ _ hm
  obtain ⟨n0, F0, I0⟩ : ∃ n f, IntsK .u16 65535 W v0 n f := by
    obtain ⟨A, n, c, rfl⟩ := okWide_slice Tryd.underlying22 (hval 0 22 v0 rfl rfl)
    obtain ⟨fuel, hf⟩ := h0
    rcases open_ints Tryd.underlying22 Tryd.underlying24 (by kernel_rfl) hf with ⟨hcs, _⟩ | ⟨x, l, c, zs, hcs, _, hl, hm, hz, _, hcell, hwz⟩
    · simp [Value.cells] at hcs
      obtain ⟨rfl, rfl, rfl⟩ := hcs
      exact ⟨0, fun _ => 0, none, 0, rfl, by omega, by omega, fun h => by omega⟩
    · simp [Value.cells] at hcs
      obtain ⟨rfl, rfl, rfl⟩ := hcs
      exact ⟨_, _, intsK_open (by simpa using hz) hl hm hcell (fun z hz => by have h := hwz z hz; simp only [Lit.wf, Bool.and_eq_true, decide_eq_true_eq] at h; exact h)⟩
  obtain ⟨n1, F1, I1⟩ : ∃ n f, IntsK .u32 4294967295 W v1 n f := by
    obtain ⟨A, n, c, rfl⟩ := okWide_slice Tryd.underlying23 (hval 1 23 v1 rfl rfl)
    obtain ⟨fuel, hf⟩ := h1
    rcases open_ints Tryd.underlying23 Tryd.underlying27 (by kernel_rfl) hf with ⟨hcs, _⟩ | ⟨x, l, c, zs, hcs, _, hl, hm, hz, _, hcell, hwz⟩
    · simp [Value.cells] at hcs
      obtain ⟨rfl, rfl, rfl⟩ := hcs
      exact ⟨0, fun _ => 0, none, 0, rfl, by omega, by omega, fun h => by omega⟩
    · simp [Value.cells] at hcs
      obtain ⟨rfl, rfl, rfl⟩ := hcs
      exact ⟨_, _, intsK_open (by simpa using hz) hl hm hcell (fun z hz => by have h := hwz z hz; simp only [Lit.wf, Bool.and_eq_true, decide_eq_true_eq] at h; exact h)⟩
  obtain ⟨a2, rfl, rfl, rfl, wf2⟩ := open_int Tryd.underlying24 (hval 2 24 v2 rfl rfl) h2
  have rg2 : 0 ≤ a2 ∧ a2 ≤ 65535 := by have h := wf2; simp only [Lit.wf, Bool.and_eq_true, decide_eq_true_eq] at h; exact h
  clear hA0 hval0
  refine (nodes_card I0 I1 a2 rg2 rfl (tab hL) (htab hL)).mono fun e W' ⟨he, bel⟩ => ?_
  subst he
  exact ⟨_, rfl, _, _, _, [], _, [], hW', trodAll_mk1 (shut_bool Tryd.underlying4 _), (trodAll_cons_mk (Below.trod laidOut (by kernel_rfl) (of_decide_eq_true (by kernel_rfl)) k0 bel lt0) (trodAll_cons_mk (Below.trod laidOut (by kernel_rfl) (of_decide_eq_true (by kernel_rfl)) k1 bel lt1) (trodAll_cons_mk (Below.trod laidOut (by kernel_rfl) (of_decide_eq_true (by kernel_rfl)) k2 bel lt2) trodAll_mk0))), rfl, bel.below.frame _, fun h => by cases h⟩

def layR : Obj → Obj
  | .cells _ t frozen => .cells #[.int .i64 1, .int .i64 1, .int .i64 1, .int .i64 1, .int .i64 1, .int .i64 1, .int .i64 15, .int .i64 225, .int .i64 3375] t frozen
  | o => o
def layH : Obj → Obj
  | .cells _ t frozen => .cells #[.int .u32 0, .int .u32 274646895, .int .u32 549293790, .int .u32 820201905, .int .u32 1098587580, .int .u32 1361435347, .int .u32 1640403810, .int .u32 1905808397, .int .u32 2197175160, .int .u32 2460548119, .int .u32 2722870694, .int .u32 2987750089, .int .u32 3280807620, .int .u32 3553878443, .int .u32 3811616794, .int .u32 4084100981] t frozen
  | o => o
noncomputable def laidWorld (os : Os) : World :=
  { World.holding Tryd.prog os ⟨#[], #[], []⟩ with heap := ((World.holding Tryd.prog os ⟨#[], #[], []⟩).heap.modify 0 layR).modify 1 layH }
theorem laid_met (os : Os) : laidMet Tryd.prog Rows.haymowNodesRow.laid ((laidWorld os).forCall (fun _ _ => 0) ⟨#[], #[.slice none 0 0, .slice none 0 0, .int .u16 0], []⟩).memory :=
  laidMet_of_run' 8 (by kernel_rfl) (by kernel_rfl)
theorem reads (os : Os) {H : Type} (enc : TypeId × Value → H) : ∃ places, DataW.whole enc Tryd.prog ((laidWorld os).forCall (fun _ _ => 0) ⟨#[], #[.slice none 0 0, .slice none 0 0, .int .u16 0], []⟩).memory Tryd.f3.params.toList Rows.haymowNodesSpec.vars false (#[.slice none 0 0, .slice none 0 0, .int .u16 0] : Array Value).toList 8 = some ([.nil, .nil, .lit (.int .u16 0)], [], places) :=
  ⟨[], by kernel_rfl⟩

set_option maxRecDepth 100000 in
theorem lifted (os : Os) (started : os.Started) (H : Type) (enc : TypeId × Value → H) (F : Stop.Interp) :
    ReturnsInHanded {} Tryd.checked os 3 .any ((OpenSpec.ofChange Rows.haymowNodesSpec).preRow enc Tryd.prog Tryd.f3 Rows.haymowNodesRow.domain false Rows.haymowNodesRow.laid) (((OpenSpec.ofChange Rows.haymowNodesSpec).at F).post enc Tryd.prog Tryd.f3 false true false false) := by
  obtain ⟨places, hx⟩ := reads os enc
  refine returnsInHanded_of_row (C := Tryd.checked) (s := OpenSpec.ofChange Rows.haymowNodesSpec) own started (by kernel_rfl) Tryd.func3
    (witness_row_at (enc := enc) (C := Tryd.checked) false (laidWorld os) #[.slice none 0 0, .slice none 0 0, .int .u16 0] rfl (by kernel_rfl) (by kernel_rfl) (by kernel_rfl)
      (OpenSpec.preRow_of_cond 8 hx (by kernel_rfl) (fun k hk => by cases hk) (by kernel_rfl) (laid_met os))) ?_
  intro W base args ds gs before hval hW _ _ _ hL _ _
  exact contract H enc W base args ds gs before hval hW hL

theorem said : Rows.HaymowNodesSaid :=
  OpenClaim.holds_of_cond 3 Tryd.f3 rfl rfl rfl rfl rfl rfl rfl ⟨rfl, rfl, rfl, rfl, rfl⟩ rfl rfl rfl rfl rfl (by kernel_rfl) Tryd.func3 (by kernel_rfl)
    (of_decide_eq_true (by kernel_rfl)) (by unfold Func.isWrapper; rw [if_neg (of_decide_eq_false (by kernel_rfl))]; exact ⟨rfl, rfl⟩)
    (fun os started H enc _ F => by rw [OpenClaim.pre_eq_preRow]; exact lifted os started H enc F)

theorem plain (f : FuncId) (fn : Func) (hf : Tryd.pinned.checked.prog.funcNamed "haymow/haymowtop.HaymowNodes" = some f) (hfn : Tryd.pinned.checked.prog.funcs[f]? = some fn) :
    false = Tryd.pinned.checked.prog.looks [] ∧ ∀ (j : Nat) t, fn.params[j]? = some t → Tryd.pinned.checked.prog.wantsStandIn t = false := by
  obtain rfl : f = 3 := Option.some.inj ((show Tryd.prog.funcNamed "haymow/haymowtop.HaymowNodes" = some 3 by kernel_rfl).symm.trans hf) |>.symm
  obtain rfl : fn = Tryd.f3 := (Option.some.inj (Tryd.func3.symm.trans hfn)).symm
  refine ⟨by kernel_rfl, fun j t ht => ?_⟩
  rw [Tryd.params3] at ht
  have hm := Array.mem_of_getElem? ht
  simp at hm
  rcases hm with rfl | rfl | rfl
  · exact (show Tryd.prog.wantsStandIn 22 = false by kernel_rfl)
  · exact (show Tryd.prog.wantsStandIn 23 = false by kernel_rfl)
  · exact (show Tryd.prog.wantsStandIn 24 = false by kernel_rfl)

theorem proved : Rows.HaymowNodesCardSaid :=
  Claim7.holds_tied_plain_at .later [] _ _ _ _ said (fun _ h => by cases h) (by kernel_rfl) (fun _ h => by cases h) haymowNodes_row_tie rfl ⟨rfl, rfl⟩ (by kernel_rfl) rfl plain (by kernel_rfl)
#print axioms proved
end Go.Proofs.YtepljgondmkljaaDoor.haymowNodes
