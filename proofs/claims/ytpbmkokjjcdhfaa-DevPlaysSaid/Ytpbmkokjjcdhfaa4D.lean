/- The device: forget, On, New, Fault. -/
import Derived.Test.Ytpbmkokjjcdhfaa4C
namespace Go.Proofs.Ytpbmkokjjcdhfaa
set_option linter.unusedSimpArgs false
set_option linter.unusedVariables false
open Go.RowKit

section
variable {w : World} {B : Nat} {h : DH} {S : DS}

/-- one of its maps has turned -/
theorem Step.mapT {w' : World} {h : DH} {g : Nat} (ht : w.mapTurned w' g) (hg : g = h.gN ∨ g = h.gF) : Step h h w w' := by
  have k := ht.grown
  refine ⟨k.os, k.tape, k.output, k.size, fun q hq hf => k.block q hq (fun e => hf ?_), fun _ _ h => h, rfl⟩
  cases e
  rcases hg with rfl | rfl
  · exact .inr (.inr (.inl rfl))
  · exact .inr (.inr (.inr (.inl rfl)))
theorem DevAt.flt' {w' : World} {fn : Nat} {f : Int → Option Int} (d : DevAt w B h S) (ht : w.mapTurned w' h.gF) (hm : IMap w' h.gF fn f) (hf : ∀ i v, f i = some v → 0 ≤ v ∧ v ≤ 3) : DevAt w' B h { S with flt := f, fn := fn } := by
  have a := d.apart
  have k := ht.grown
  have e : ∀ q, q < w.heap.size → q ≠ h.gF → w'.heap[q]? = w.heap[q]? := fun q hq hne => k.block q hq (by simpa using hne)
  exact ⟨(e _ (Array.getElem?_eq_some_iff.1 d.hP).1 a.PF).trans d.hP, d.hB.of_heap (e _ d.hB.lt a.BF), d.hp.kept k (.inr a.vF), d.hN.of_heap (e _ d.hN.lt a.NF), hm, d.lo, d.ne, ⟨d.ok.n1, d.ok.n2, d.ok.blk, d.ok.pend, d.ok.bud, hf⟩⟩
theorem DevAt.forgot (d : DevAt w B h S) {w' : World} (ht : (w.setCell ⟨h.P, 1, none⟩ (.slice none 0 0)).mapTurned w' h.gN) (hm : IMap w' h.gN 0 (fun _ => none)) :
    DevAt w' B { h with vp := .slice none 0 0 } { S with pend := [] } ∧ Step h { h with vp := .slice none 0 0 } w w' := by
  have a := d.apart
  have k := ht.grown
  have hs1 : (w.setCell ⟨h.P, 1, none⟩ (.slice none 0 0)).heap.size = w.heap.size := by simp [World.setCell]
  have e : ∀ q, q < w.heap.size → q ≠ h.gN → q ≠ h.P → w'.heap[q]? = w.heap[q]? := fun q hq hne hnP => (k.block q (by rw [hs1]; exact hq) (by simpa using hne)).trans (Below.heap_setCell _ _ _ _ hnP)
  refine ⟨⟨?_, d.hB.of_heap (e _ d.hB.lt a.BN a.PB.symm), World.ownsRow_nil _ _ _ _, hm, d.hF.of_heap (e _ d.hF.lt a.NF.symm a.PF.symm), d.lo, d.ne, ⟨d.ok.n1, d.ok.n2, d.ok.blk, by simp, d.ok.bud, d.ok.flt⟩⟩, ?_⟩
  · refine (k.block h.P (by rw [hs1]; exact (Array.getElem?_eq_some_iff.1 d.hP).1) (by simpa using a.PN)).trans ?_
    rw [heap_field d.hP]
    rfl
  · refine ⟨k.os, k.tape, k.output, by have := k.size; omega, fun q hq hf => e q hq (fun e => hf (.inr (.inr (.inl e)))) (fun e => hf (.inl e)), fun q hq hf hf' => hf ?_, rfl⟩
    rcases hf' with e | e | e | e | e
    · exact .inl e
    · exact .inr (.inl e)
    · exact .inr (.inr (.inl e))
    · exact .inr (.inr (.inr (.inl e)))
    · simp [Value.ownBlock] at e

theorem forget_any (w : World) (d : DevAt w B h S) : Calls Try.prog 37 #[.pointer (some ⟨h.P, 0, none⟩)] w (DPost (.tuple #[]) { S with pend := [] } B h w) := by
  have c1 := d.c1
  have c2 := d.c2
  have f1 := d.fz 1
  have hm1 : IMap (w.setCell ⟨h.P, 1, none⟩ (.slice none 0 0)) h.gN S.pend.length (nmF S.pend) := d.hN.of_heap (Below.heap_setCell _ _ _ _ d.apart.PN.symm)
  obtain ⟨w', hrun, hm, ht⟩ := hm1.clear
  have HF := hid (d.forgot ht hm)
  clear d hm1 ht hm
  obtain ⟨P, hP⟩ : ∃ P, P = h.P := ⟨_, rfl⟩
  obtain ⟨gN, hgN⟩ : ∃ gN, gN = h.gN := ⟨_, rfl⟩
  obtain ⟨vp, hvp⟩ : ∃ vp, vp = h.vp := ⟨_, rfl⟩
  rw [← hP] at c1 c2 f1 hrun ⊢
  rw [← hgN] at c2 hrun
  rw [← hvp] at c1
  clear hP hgN hvp
  go_enter Try.func37, Try.ntmps37
  go_wp2_with (simp only [hrun])
  go_end0
  exact ⟨rfl, _, HF.out.1, HF.out.2⟩

theorem on_any (w : World) (d : DevAt w B h S) : Calls Try.prog 14 #[.pointer (some ⟨h.P, 0, none⟩)] w (DPost (.tuple #[]) { S with pow := true, bud := -1, pend := [] } B h w) := by
  have c4 := d.c4
  have c5 := d.c5
  have f4 := d.fz 4
  have f5 := d.fz 5
  have d1 := d.field 5 (.bool true) { S with pow := true } rfl rfl rfl rfl rfl rfl ⟨d.ok.n1, d.ok.n2, d.ok.blk, d.ok.pend, d.ok.bud, d.ok.flt⟩
  have d2 := d1.field 4 (.int .i64 (-1)) { S with pow := true, bud := -1 } rfl rfl rfl rfl rfl rfl ⟨d.ok.n1, d.ok.n2, d.ok.blk, d.ok.pend, by dsimp only; omega, d.ok.flt⟩
  have HC := hid (forget_any _ d2)
  have HS := hid ((Step.field d 5 (.bool true)).trans (Step.field d1 4 (.int .i64 (-1))))
  clear d d1 d2
  generalize S.bud = b0 at c4
  generalize S.pow = b1 at c5
  obtain ⟨P, hP⟩ : ∃ P, P = h.P := ⟨_, rfl⟩
  rw [← hP] at c4 c5 f4 f5 HC HS ⊢
  clear hP
  go_enter Try.func14, Try.ntmps14
  go_wp2_with (go_at_call 37; refine HC.out.mono ?_; rintro e w2 ⟨rfl, h', hd, hs⟩)
  go_end0
  exact ⟨rfl, _, hd, HS.out.trans hs⟩

def fltS (S : DS) (i k : Int) : DS := if k = 0 then { S with flt := fun j => if j = i then none else S.flt j } else { S with flt := fun j => if j = i then some k else S.flt j, fn := S.fn + 1 }
def fltE (S : DS) (i k : Int) : Int := if isB S.n i = false then 4 else if k < 0 ∨ 3 < k then 1 else 0
theorem fault_any (i k : Int) (w : World) (d : DevAt w B h S) (hfn : S.fn ≤ 1000) : Calls Try.prog 16 #[.pointer (some ⟨h.P, 0, none⟩), .int .i64 i, .int .i64 k] w
    (DPost (.int .i64 (fltE S i k)) (if fltE S i k = 0 then fltS S i k else S) B h w) := by
  have HT := hid (there_any i w d)
  have HD := hid d
  have c3 := d.c3
  have hn := d.ok.n2
  cases hb : isB S.n i with
  | false =>
    have HE := hid (show fltE S i k = 4 by simp [fltE, hb])
    rw [HE.out, if_neg (by decide)]
    rw [hb] at HT
    clear d HE c3 hb
    go_enter Try.func16, Try.ntmps16
    go_wp2_with (go_at_call 32; refine HT.out.mono ?_; rintro e w2 ⟨rfl, rfl⟩)
    go_ret
    exact ⟨rfl, _, HD.out, Step.refl _ _⟩
  | true =>
    obtain ⟨hi0, hi1⟩ := isB_t hb
    rw [hb] at HT
    by_cases hk0 : k < 0
    · have HE := hid (show fltE S i k = 1 by simp [fltE, hb, hk0])
      rw [HE.out, if_neg (by decide)]
      clear d HE c3 hb
      go_enter Try.func16, Try.ntmps16
      go_wp2_with (go_at_call 32; refine HT.out.mono ?_; rintro e w2 ⟨rfl, rfl⟩)
      go_ret
      exact ⟨rfl, _, HD.out, Step.refl _ _⟩
    · by_cases hk3 : 3 < k
      · have HE := hid (show fltE S i k = 1 by simp [fltE, hb, hk3])
        rw [HE.out, if_neg (by decide)]
        have hd : decide (k < 0) = false := decide_eq_false hk0
        clear d HE c3 hb
        go_enter Try.func16, Try.ntmps16
        go_wp2_with (go_at_call 32; refine HT.out.mono ?_; rintro e w2 ⟨rfl, rfl⟩)
        go_ret
        exact ⟨rfl, _, HD.out, Step.refl _ _⟩
      · have HE := hid (show fltE S i k = 0 by simp [fltE, hb, hk0, hk3])
        rw [HE.out, if_pos rfl]
        have hd : decide (k < 0) = false := decide_eq_false hk0
        have hd3 : decide (3 < k) = false := decide_eq_false hk3
        by_cases hkz : k = 0
        · subst hkz
          obtain ⟨w', hrun, hm, ht⟩ := d.hF.del i (by omega) (by omega)
          have HN := hid (d.flt' ht hm (fun j v hv => by
            split at hv
            · cases hv
            · exact d.ok.flt j v hv))
          have HS := hid (Step.mapT (h := h) ht (.inr rfl))
          have HF := hid (show fltS S i 0 = { S with flt := fun j => if j = i then none else S.flt j, fn := S.fn } by rw [fltS, if_pos rfl])
          rw [HF.out]
          clear d HE hb hm ht HF
          obtain ⟨P, hP⟩ : ∃ P, P = h.P := ⟨_, rfl⟩
          obtain ⟨gF, hgF⟩ : ∃ gF, gF = h.gF := ⟨_, rfl⟩
          rw [← hP] at c3 HT ⊢
          rw [← hgF] at c3 hrun
          clear hP hgF
          go_enter Try.func16, Try.ntmps16
          go_wp2_with (first | (go_at_call 32; refine HT.out.mono ?_; rintro e w2 ⟨rfl, rfl⟩) | simp only [hrun])
          go_ret
          exact ⟨rfl, _, HN.out, HS.out⟩
        · obtain ⟨w', hrun, hm, ht⟩ := d.hF.put (by omega) i k (by omega) (by omega) (by omega) (by omega)
          have HN := hid (d.flt' ht hm (fun j v hv => by
            split at hv
            · cases hv; omega
            · exact d.ok.flt j v hv))
          have HS := hid (Step.mapT (h := h) ht (.inr rfl))
          have HF := hid (show fltS S i k = { S with flt := fun j => if j = i then some k else S.flt j, fn := S.fn + 1 } by rw [fltS, if_neg hkz])
          rw [HF.out]
          have hne : (k == 0) = false := by simpa using hkz
          clear d HE hb hm ht HF
          obtain ⟨P, hP⟩ : ∃ P, P = h.P := ⟨_, rfl⟩
          obtain ⟨gF, hgF⟩ : ∃ gF, gF = h.gF := ⟨_, rfl⟩
          rw [← hP] at c3 HT ⊢
          rw [← hgF] at c3 hrun
          clear hP hgF
          go_enter Try.func16, Try.ntmps16
          go_wp2_with (first | (go_at_call 32; refine HT.out.mono ?_; rintro e w2 ⟨rfl, rfl⟩) | simp only [hrun])
          go_ret
          exact ⟨rfl, _, HN.out, HS.out⟩
end

def newS (n : Nat) : DS := ⟨n, fun _ => List.replicate 128 0, [], fun _ => none, 0, -1, true, true⟩
def zeroB : Array Value := Array.replicate 128 (.int .u8 0)
def zeroBs (n : Nat) : Array Value := madeCells zeroB (n * 128)
theorem info_block : (Try.prog.info? 65).map (fun i => (i.zero, i.size, i.bytes)) = some (some (.agg zeroB), 128, 128) := by kernel_rfl
theorem make_blocks (N : Nat) (hN : N ≤ 8192) (w : World) : (Instr.makeSlice 58 (.int .i64 (N : Int)) (.int .i64 (N : Int))).run Try.prog w =
    .ok (.slice (some ⟨w.heap.size, 0, none⟩) N N) (w.alloc (.cells (zeroBs N) 65)) := by
  obtain ⟨i, hi, hz, hsize, hbytes⟩ := info_parts info_block
  have := run_makeSlice (P := Try.prog) w 58 65 i _ Try.underlying58 hi hz .i64 .i64 (N : Int) (N : Int) (by omega) (by omega) (by rw [hsize]; simp; omega) (by rw [hbytes]; omega) (by omega)
  rw [this, hsize]
  simp [Value.cells, zeroBs]
theorem madeCells_at (z : Array Value) (n j : Nat) (u : Value) (h : ∀ i, i < z.size → z[i]! = u) (hz : 0 < z.size) (hj : j < n) : (madeCells z n)[j]? = some u := by
  have hl : j % z.size < z.size := Nat.mod_lt _ hz
  have e := h _ hl
  simp [madeCells, hj]
  first | exact e | (rw [← e]; simp)
theorem new_blk (w : World) (n : Nat) : BlkT (w.alloc (.cells (zeroBs n) 65)) w.heap.size 65 (n * 128) (devF (newS n).blk) := by
  refine ⟨_, heap_alloc_new w _, size_madeCells _ _, fun j hj => ?_⟩
  rw [zeroBs, madeCells_at zeroB _ _ (.int .u8 0) (fun i hi => by
    have hi' : i < 128 := by simpa [zeroB] using hi
    simp [zeroB, Array.getElem!_eq_getD, Array.getD_eq_getD_getElem?, hi']) (by simp [zeroB]) hj]
  have : (List.replicate 128 (0 : UInt8)).getD (j % 128) 0 = 0 := by
    rw [List.getD_eq_getElem?_getD, List.getElem?_replicate]; split <;> rfl
  simp only [newS, devF, this]; rfl

def NewPost (n : Nat) (w : World) (e : Ending) (w' : World) : Prop := ∃ h, e = .returned (.tuple #[.pointer (some ⟨h.P, 0, none⟩), .int .i64 0]) ∧ DevAt w' w.heap.size h (newS n) ∧ Kept w w'
theorem new_any (n : Nat) (h1 : 1 ≤ n) (h2 : n ≤ 8192) (w : World) : Calls Try.prog 8 #[.int .i64 (n : Int)] w (NewPost n w) := by
  have hmk := make_blocks n h2
  have hmm := @run_makeMap Try.prog
  have hc1 : decide ((n : Int) < 1) = false := decide_eq_false (by omega)
  have hc2 : decide (8192 < (n : Int)) = false := decide_eq_false (by omega)
  have HB := hid new_blk
  generalize hz : zeroBs n = Z at *
  have HZ := hid hz
  clear hz
  go_enter Try.func8, Try.ntmps8
  go_wp2
  go_ret2
  refine ⟨⟨w.heap.size + 1 + 1 + 1, w.heap.size, w.heap.size + 1, w.heap.size + 1 + 1, .slice none 0 0⟩, rfl, ⟨?_, ?_, World.ownsRow_nil _ _ _ _, ?_, ?_, ⟨by dsimp only; omega, by dsimp only; omega, by dsimp only; omega, by dsimp only; omega⟩, by dsimp only; omega, ⟨h1, h2, fun i _ => List.length_replicate, by simp [newS], by simp only [newS]; omega, by simp [newS]⟩⟩, (by repeat (first | exact Kept.refl _ | assumption | refine Kept.alloc ?_ _ | refine Kept.drew ?_ | refine Kept.drewN ?_ _ | refine Kept.setCell ?_ (by simp; try omega) _ | refine Kept.trans ?_ (by assumption)))⟩
  · have := heap_alloc_new (((w.alloc (.cells Z 65)).alloc (.map #[] 0)).alloc (.map #[] 0)) (.cells #[Value.slice (some { block := w.heap.size, off := 0 }) n n, Value.slice none 0 0, Value.map (some (w.heap.size + 1)), Value.map (some (w.heap.size + 1 + 1)), Value.int IntKind.i64 (-1), Value.bool true, Value.bool true] 62)
    rw [World.size_alloc, World.size_alloc, World.size_alloc] at this
    exact this
  · have hb := HB.out w n
    rw [HZ.out] at hb
    have k : Kept (w.alloc (.cells Z 65)) ((((w.alloc (.cells Z 65)).alloc (.map #[] 0)).alloc (.map #[] 0)).alloc (.cells #[Value.slice (some { block := w.heap.size, off := 0 }) n n, Value.slice none 0 0, Value.map (some (w.heap.size + 1)), Value.map (some (w.heap.size + 1 + 1)), Value.int IntKind.i64 (-1), Value.bool true, Value.bool true] 62)) := (by repeat (first | exact Kept.refl _ | assumption | refine Kept.alloc ?_ _ | refine Kept.drew ?_ | refine Kept.drewN ?_ _ | refine Kept.setCell ?_ (by simp; try omega) _ | refine Kept.trans ?_ (by assumption)))
    exact hb.of_heap (k.block _ hb.lt)
  · have hm := imap_new (w.alloc (.cells Z 65))
    rw [World.size_alloc] at hm
    have k : Kept ((w.alloc (.cells Z 65)).alloc (.map #[] 0)) ((((w.alloc (.cells Z 65)).alloc (.map #[] 0)).alloc (.map #[] 0)).alloc (.cells #[Value.slice (some { block := w.heap.size, off := 0 }) n n, Value.slice none 0 0, Value.map (some (w.heap.size + 1)), Value.map (some (w.heap.size + 1 + 1)), Value.int IntKind.i64 (-1), Value.bool true, Value.bool true] 62)) := (by repeat (first | exact Kept.refl _ | assumption | refine Kept.alloc ?_ _ | refine Kept.drew ?_ | refine Kept.drewN ?_ _ | refine Kept.setCell ?_ (by simp; try omega) _ | refine Kept.trans ?_ (by assumption)))
    exact hm.of_heap (k.block _ hm.lt)
  · have hm := imap_new ((w.alloc (.cells Z 65)).alloc (.map #[] 0))
    rw [World.size_alloc, World.size_alloc] at hm
    have k : Kept (((w.alloc (.cells Z 65)).alloc (.map #[] 0)).alloc (.map #[] 0)) ((((w.alloc (.cells Z 65)).alloc (.map #[] 0)).alloc (.map #[] 0)).alloc (.cells #[Value.slice (some { block := w.heap.size, off := 0 }) n n, Value.slice none 0 0, Value.map (some (w.heap.size + 1)), Value.map (some (w.heap.size + 1 + 1)), Value.int IntKind.i64 (-1), Value.bool true, Value.bool true] 62)) := (by repeat (first | exact Kept.refl _ | assumption | refine Kept.alloc ?_ _ | refine Kept.drew ?_ | refine Kept.drewN ?_ _ | refine Kept.setCell ?_ (by simp; try omega) _ | refine Kept.trans ?_ (by assumption)))
    exact hm.of_heap (k.block _ hm.lt)
end Go.Proofs.Ytpbmkokjjcdhfaa
