/- The law HaymowNames, whatever the input: the call returns true, and what came in reads as it did; the table that it reads is tied to the text. No other condition. -/
import Derived.Test.YtiiogglflpladaaDoorCards
import Derived.Test.YtiiogglflpladaaDoorTie
import Derived.WalkKit
import Derived.ProofKit
import Derived.OpenShut
import Derived.ChangeOld
import Derived.Below
import Derived.Deep.DeepHandedRow
import Derived.Lib.LaidTab
import Derived.SliceStrings
import Derived.Test.YtiiogglflpladaaDoorMR
namespace Go.Proofs.YtiiogglflpladaaDoor.haymowNames
open Go.ChangeShapes Go.WideShapes Go.ChangeAt Go.RowKit
set_option linter.unusedVariables false

theorem texts_open {W : World} {x : Addr} {n c : Nat} {ss : List ByteArray} (hz : ss.length = c) (hl : n ≤ c) (hcell : ∀ i, i < ss.length → W.cell? (x.add i) = some (.string (ss.getD i ByteArray.empty))) :
    Texts W (some x) n ((ss.take n).map fun s => s.data.toList) := by
  refine ⟨by simp; omega, fun hn => ?_⟩
  obtain ⟨b, o, s⟩ := x
  have h0 := hcell 0 (by omega)
  have hs : s = none := by simpa [Addr.add] using World.cell?_spot h0
  subst hs
  refine ⟨b, o, rfl, fun i l hi => ?_⟩
  rw [List.getElem?_map] at hi
  obtain ⟨u, hu, rfl⟩ := Option.map_eq_some_iff.1 hi
  rw [List.getElem?_take] at hu
  split at hu
  · have hlt := (List.getElem?_eq_some_iff.1 hu).1
    have h1 := hcell i hlt
    rw [add_plain] at h1
    rw [h1, List.getD_eq_getElem?_getD, hu]
    rfl
  · cases hu
theorem names_card {W : World} (A : Option Addr) (n c : Nat) (T : List (List UInt8)) (hX : Texts W A n T) {w : World} (hw : w = W) (ht : Tab w) (hT : HTab w) :
    Calls Tryd.prog 3 #[.slice A n c] W fun e w' => e = .returned (.bool true) ∧ Kept W w' := by
  subst hw
  exact names_walk ht hT A n c T hX
theorem tabIs_of_vars {P : Program} {W : World} {name : String} {k : IntKind} {zs : List Int} {rest : List (String × DataW Unit)} {g : Nat} {t e : TypeId} {n : Nat} {ps : List MemPlace}
    (hg : P.globalNamed name = some g) (hty : (P.globals[g]?).map (·.type) = some t) (ht : P.underlying t = some (.array n e)) (he : P.underlying e = some (.int k)) (hce : P.cellsOf e = 1) (hct : P.cellsOf t = n)
    (h : DataW.LaidVars P W ((name, Lib.tabData k zs) :: rest) ps) : Lib.TabIs P W name k zs := by
  obtain ⟨g', t', cs, fuel, p, q, hg', ht', hvar, hd, _, _⟩ := h
  obtain rfl := Option.some.inj (hg.symm.trans hg')
  obtain rfl := Option.some.inj (hty.symm.trans ht')
  unfold Lib.TabIs
  rw [hvar, ← Lib.cells_of_tab ht he hce hct hd]
theorem gTabH : Tryd.prog.globalNamed "haymow/crc.halves" = some 1 := by kernel_rfl
theorem gTabTypeH : (Tryd.prog.globals[1]?).map (·.type) = some 107 := by kernel_rfl
theorem cellsAH : Tryd.prog.cellsOf 107 = 16 := by kernel_rfl
theorem cellsIH : Tryd.prog.cellsOf 97 = 1 := by kernel_rfl
theorem own : ownKnob Tryd.prog.godebug = none := by kernel_rfl
theorem laidOut : laidOutB Tryd.prog = true := by kernel_rfl
theorem gTab : Tryd.prog.globalNamed "haymow/reach.reaches" = some 0 := by kernel_rfl
theorem gTabType : (Tryd.prog.globals[0]?).map (·.type) = some 94 := by kernel_rfl
theorem cellsA : Tryd.prog.cellsOf 94 = 9 := by kernel_rfl
theorem cellsI : Tryd.prog.cellsOf 3 = 1 := by kernel_rfl

theorem tableH {W : World} (h : laidMetH Tryd.prog Rows.haymowNamesRow.laid W) : Lib.TabIs Tryd.prog W "haymow/crc.halves" .u32 [0, 274646895, 549293790, 820201905, 1098587580, 1361435347, 1640403810, 1905808397, 2197175160, 2460548119, 2722870694, 2987750089, 3280807620, 3553878443, 3811616794, 4084100981] :=
  Lib.tabIs_of_head (rest := [("haymow/reach.reaches", Rows.laid_haymow_reach_reaches)]) gTabH gTabTypeH Tryd.underlying107 Tryd.underlying97 cellsIH cellsAH h
set_option maxRecDepth 100000 in
theorem table {W : World} (h : laidMetH Tryd.prog Rows.haymowNamesRow.laid W) : Lib.TabIs Tryd.prog W "haymow/reach.reaches" .i64 [1, 1, 1, 1, 1, 1, 15, 225, 3375] := by
  have h' : laidMet Tryd.prog [("haymow/crc.halves", Rows.laid_haymow_crc_halves), ("haymow/reach.reaches", Rows.laid_haymow_reach_reaches)] W := h
  obtain ⟨ps, ⟨g', t', cs, fuel, p, q, hg', ht', hvar, hd, hrest, _⟩, _⟩ := h'
  exact tabIs_of_vars (rest := []) gTab gTabType Tryd.underlying94 Tryd.underlying3 cellsI cellsA hrest
theorem htab {W : World} (h : laidMetH Tryd.prog Rows.haymowNamesRow.laid W) : HTab W := fun k hk => (tableH h).cell gTabH k hk
theorem tab {W : World} (h : laidMetH Tryd.prog Rows.haymowNamesRow.laid W) : Tab W :=
  ⟨(table h).cell gTab 0 (by decide), (table h).cell gTab 1 (by decide), (table h).cell gTab 2 (by decide), (table h).cell gTab 3 (by decide), (table h).cell gTab 4 (by decide),
    (table h).cell gTab 5 (by decide), (table h).cell gTab 6 (by decide), (table h).cell gTab 7 (by decide), (table h).cell gTab 8 (by decide)⟩

set_option maxRecDepth 100000 in
theorem contract (H : Type) (enc : TypeId × Value → H) (W : World) (base : Nat) (args : Array Value) (ds gs : List (DataW H)) (before : List MemPlace)
    (hval0 : ∀ (j : Nat) t v, Tryd.f3.params[j]? = some t → args[j]? = some v → Value.okWide Tryd.prog W .any base t v)
    (hW : DataW.Whole enc Tryd.prog Tryd.f3.params.toList Rows.haymowNamesSpec.vars false W args.toList ds gs before) (hL : laidMetH Tryd.prog Rows.haymowNamesRow.laid W) :
    Calls Tryd.prog 3 args W fun e W' => ∃ v, e = .returned v ∧ Rows.haymowNamesSpec.post enc Tryd.prog Tryd.f3 false true false false W args v W' := by
  have hval := hval0
  have hW' := hW
  obtain ⟨p, q, hA0, hV, rfl, hfz, hnd⟩ := hW
  have hA : DataW.TrodAll enc Tryd.prog W 0 (fun _ => true) true Tryd.f3.params.toList args.toList ds p := hA0
  rw [Tryd.params3] at hA hval
  obtain ⟨v0, vs0, d0, ds0, p0, q0, hargs, rfl, rfl, h0, r0⟩ := trodAll_cons hA
  obtain ⟨rfl, rfl, rfl⟩ := trodAll_nil r0
  obtain rfl : args = #[v0] := by cases args; simp_all
  obtain ⟨rfl, rfl⟩ := trodVars_none hV
  have k0 := h0
  have lt0 : ∀ x ∈ p0, x.block < W.heap.size := by obtain ⟨m, hm⟩ := k0; exact DataW.trod_lt m _ _ _ hm
  obtain ⟨A, n, c, rfl⟩ := okWide_slice Tryd.underlying22 (hval 0 22 v0 rfl rfl)
  obtain ⟨T, I0⟩ : ∃ T, Texts W A n T := by
    obtain ⟨fuel, hf⟩ := h0
    rcases open_strings Tryd.underlying22 Tryd.underlying9 (by kernel_rfl) hf with ⟨hcs, _⟩ | ⟨x, l, c, ss, hcs, _, hl, hm, hz, _, hcell, hwz⟩
    · simp [Value.cells] at hcs
      obtain ⟨rfl, rfl, rfl⟩ := hcs
      exact ⟨[], rfl, fun h => by omega⟩
    · simp [Value.cells] at hcs
      obtain ⟨rfl, rfl, rfl⟩ := hcs
      exact ⟨_, texts_open (by simpa using hz) hl hcell⟩
  clear hA0 hval0
  refine (names_card A n c T I0 rfl (tab hL) (htab hL)).mono fun e W' ⟨he, bel⟩ => ?_
  subst he
  exact ⟨_, rfl, _, _, _, [], _, [], hW', trodAll_mk1 (shut_bool Tryd.underlying4 _), (trodAll_cons_mk (Below.trod laidOut (by kernel_rfl) (of_decide_eq_true (by kernel_rfl)) k0 bel lt0) trodAll_mk0), rfl, bel.below.frame _, fun h => by cases h⟩

def layR : Obj → Obj
  | .cells _ t frozen => .cells #[.int .i64 1, .int .i64 1, .int .i64 1, .int .i64 1, .int .i64 1, .int .i64 1, .int .i64 15, .int .i64 225, .int .i64 3375] t frozen
  | o => o
def layH : Obj → Obj
  | .cells _ t frozen => .cells #[.int .u32 0, .int .u32 274646895, .int .u32 549293790, .int .u32 820201905, .int .u32 1098587580, .int .u32 1361435347, .int .u32 1640403810, .int .u32 1905808397, .int .u32 2197175160, .int .u32 2460548119, .int .u32 2722870694, .int .u32 2987750089, .int .u32 3280807620, .int .u32 3553878443, .int .u32 3811616794, .int .u32 4084100981] t frozen
  | o => o
noncomputable def laidWorld (os : Os) : World :=
  { World.holding Tryd.prog os ⟨#[], #[], []⟩ with heap := ((World.holding Tryd.prog os ⟨#[], #[], []⟩).heap.modify 0 layR).modify 1 layH }
theorem laid_met (os : Os) : laidMet Tryd.prog Rows.haymowNamesRow.laid ((laidWorld os).forCall (fun _ _ => 0) ⟨#[], #[.slice none 0 0], []⟩).memory :=
  laidMet_of_run' 8 (by kernel_rfl) (by kernel_rfl)
theorem reads (os : Os) {H : Type} (enc : TypeId × Value → H) : ∃ places, DataW.whole enc Tryd.prog ((laidWorld os).forCall (fun _ _ => 0) ⟨#[], #[.slice none 0 0], []⟩).memory Tryd.f3.params.toList Rows.haymowNamesSpec.vars false (#[.slice none 0 0] : Array Value).toList 8 = some ([.nil], [], places) :=
  ⟨[], by kernel_rfl⟩

set_option maxRecDepth 100000 in
theorem lifted (os : Os) (started : os.Started) (H : Type) (enc : TypeId × Value → H) (F : Stop.Interp) :
    ReturnsInHanded {} Tryd.checked os 3 .any ((OpenSpec.ofChange Rows.haymowNamesSpec).preRow enc Tryd.prog Tryd.f3 Rows.haymowNamesRow.domain false Rows.haymowNamesRow.laid) (((OpenSpec.ofChange Rows.haymowNamesSpec).at F).post enc Tryd.prog Tryd.f3 false true false false) := by
  obtain ⟨places, hx⟩ := reads os enc
  refine returnsInHanded_of_row (C := Tryd.checked) (s := OpenSpec.ofChange Rows.haymowNamesSpec) own started (by kernel_rfl) Tryd.func3
    (witness_row_at (enc := enc) (C := Tryd.checked) false (laidWorld os) #[.slice none 0 0] rfl (by kernel_rfl) (by kernel_rfl) (by kernel_rfl)
      (OpenSpec.preRow_of_cond 8 hx (by kernel_rfl) (fun k hk => by cases hk) (by kernel_rfl) (laid_met os))) ?_
  intro W base args ds gs before hval hW _ _ _ hL _ _
  exact contract H enc W base args ds gs before hval hW hL

theorem said : Rows.HaymowNamesSaid :=
  OpenClaim.holds_of_cond 3 Tryd.f3 rfl rfl rfl rfl rfl rfl rfl ⟨rfl, rfl, rfl, rfl, rfl⟩ rfl rfl rfl rfl rfl (by kernel_rfl) Tryd.func3 (by kernel_rfl)
    (of_decide_eq_true (by kernel_rfl)) (by unfold Func.isWrapper; rw [if_neg (of_decide_eq_false (by kernel_rfl))]; exact ⟨rfl, rfl⟩)
    (fun os started H enc _ F => by rw [OpenClaim.pre_eq_preRow]; exact lifted os started H enc F)

theorem plain (f : FuncId) (fn : Func) (hf : Tryd.pinned.checked.prog.funcNamed "haymow/haymowtop.HaymowNames" = some f) (hfn : Tryd.pinned.checked.prog.funcs[f]? = some fn) :
    false = Tryd.pinned.checked.prog.looks [] ∧ ∀ (j : Nat) t, fn.params[j]? = some t → Tryd.pinned.checked.prog.wantsStandIn t = false := by
  obtain rfl : f = 3 := Option.some.inj ((show Tryd.prog.funcNamed "haymow/haymowtop.HaymowNames" = some 3 by kernel_rfl).symm.trans hf) |>.symm
  obtain rfl : fn = Tryd.f3 := (Option.some.inj (Tryd.func3.symm.trans hfn)).symm
  refine ⟨by kernel_rfl, fun j t ht => ?_⟩
  rw [Tryd.params3] at ht
  have hm := Array.mem_of_getElem? ht
  simp at hm
  subst hm
  exact (show Tryd.prog.wantsStandIn 22 = false by kernel_rfl)

theorem proved : Rows.HaymowNamesCardSaid :=
  Claim7.holds_tied_plain_at .later [] _ _ _ _ said (fun _ h => by cases h) (by kernel_rfl) (fun _ h => by cases h) haymowNames_row_tie rfl ⟨rfl, rfl⟩ (by kernel_rfl) rfl plain (by kernel_rfl)
#print axioms proved
end Go.Proofs.YtiiogglflpladaaDoor.haymowNames
