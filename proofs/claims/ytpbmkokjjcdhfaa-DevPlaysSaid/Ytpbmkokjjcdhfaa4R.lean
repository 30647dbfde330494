/- The device: Erase. -/
import Derived.Test.Ytpbmkokjjcdhfaa4Q
import Derived.Lib.SliceRun
namespace Go.Proofs.Ytpbmkokjjcdhfaa
set_option linter.unusedSimpArgs false
set_option linter.unusedVariables false
open Go.RowKit

theorem run_clear_wide {P : Program} (w : World) (t e ty : TypeId) (z : Value) (L : List Value) (ht : P.underlying t = some (.slice e)) (hv : ∀ w, (zeroValue e).run P w = .ok z w) (b n c : Nat) (hn : 0 < n)
    (hL : (Builtin.zeroCells z.cells n).toList = L) (h1 : ∀ v ∈ L, v.oneCell' = true)
    (hc : ∀ j, j < L.length → (w.cell? ⟨b, j, none⟩).isSome = true) (hf : ∀ j, j < L.length → w.frozen? ⟨b, j, none⟩ = false) :
    (Builtin.clear_ #[t] ty #[.slice (some ⟨b, 0, none⟩) n c]).run P w = .ok (.tuple #[]) (w.setCells b 0 L) := by
  have hst := run_storeCells_cells (P := P) b 0 L 0 w (by simpa using hc) (by simpa using hf) h1
  simp only [Nat.add_zero] at hst
  obtain ⟨m, rfl⟩ : ∃ m, n = m + 1 := ⟨n - 1, by omega⟩
  simp [Builtin.clear_, run_underlying ht, hv, hL, hst]
theorem zeroB_cells (n : Nat) : (Builtin.zeroCells (Value.agg zeroB).cells n).toList = bcells (List.replicate (n * 128) 0) := by
  have hs : (Value.agg zeroB).cells = zeroB := rfl
  have hz : zeroB.size = 128 := by simp [zeroB]
  rw [hs, Builtin.zeroCells, hz]
  apply List.ext_getElem?
  intro j
  by_cases hj : j < n * 128
  · have hm : j % 128 < 128 := Nat.mod_lt _ (by omega)
    have h0 : (List.replicate (n * 128) (0 : UInt8)).getD j 0 = 0 := by rw [List.getD_eq_getElem?_getD, List.getElem?_replicate, if_pos hj]; rfl
    rw [bcells_at _ _ (by simpa using hj), h0]
    simp [hj, zeroB, Array.getElem!_eq_getD, Array.getD_eq_getD_getElem?, hm]
  · rw [List.getElem?_eq_none (by simp; omega), List.getElem?_eq_none (by rw [bcells_len]; simp; omega)]

section
variable {w : World} {B : Nat} {h : DH} {S : DS}
theorem DevAt.wiped (d : DevAt w B h S) : DevAt (w.setCells h.gB 0 (bcells (List.replicate (S.n * 128) 0))) B h { S with blk := zB } ∧ Step h h w (w.setCells h.gB 0 (bcells (List.replicate (S.n * 128) 0))) := by
  have a := d.apart
  generalize hl : bcells (List.replicate (S.n * 128) 0) = l
  have e : ∀ q, q ≠ h.gB → (w.setCells h.gB 0 l).heap[q]? = w.heap[q]? := fun q hq => heap_setCells_ne _ _ _ _ _ hq
  obtain ⟨o1, o2, o3⟩ := setCells_os l w h.gB 0
  refine ⟨⟨(e _ a.PB).trans d.hP, ?_, ?_, d.hN.of_heap (e _ a.BN.symm), d.hF.of_heap (e _ a.BF.symm), d.lo, d.ne, ⟨d.ok.n1, d.ok.n2, fun i hi => ?_, d.ok.pend, d.ok.bud, d.ok.flt⟩⟩, ⟨o1, o2, o3, by rw [size_setCells]; exact Nat.le_refl _, fun q _ hf => e q (fun e => hf (.inr (.inl e))), fun _ _ h => h, rfl⟩⟩
  · have hll : l.length = S.n * 128 := by rw [← hl, bcells_len, List.length_replicate]
    refine (d.hB.setCells 0 l (by omega)).congr fun j hj => ?_
    rw [if_pos (by omega), List.getD_eq_getElem?_getD, Nat.sub_zero, ← hl, bcells_at _ _ (by simpa using hj)]
    have h1 : (List.replicate (S.n * 128) (0 : UInt8)).getD j 0 = 0 := by rw [List.getD_eq_getElem?_getD, List.getElem?_replicate, if_pos hj]; rfl
    have h2 : (zB (j / 128)).getD (j % 128) 0 = 0 := by
      rw [zB, List.getD_eq_getElem?_getD, List.getElem?_replicate]; split <;> rfl
    rw [h1, devF, h2]; rfl
  · refine ⟨d.hp.1, ?_⟩
    rcases d.hp.2 with h0 | ⟨g, cap, cur, hv, hg, hh, r⟩
    · exact .inl h0
    · exact .inr ⟨g, cap, cur, hv, hg, (e g (fun e => a.vB (by rw [hv, ← e]; rfl))).trans hh, r⟩
  · exact List.length_replicate
def eraS (S : DS) : DS := if spendE S = 0 then { spendS S with blk := zB, pend := [] } else spendS S
set_option maxHeartbeats 1000000 in
theorem erase_any (w : World) (d : DevAt w B h S) : Calls Try.prog 20 #[.pointer (some ⟨h.P, 0, none⟩)] w (DPost (.int .i64 (spendE S)) (eraS S) B h w) := by
  have HSP := hid (spend_any w d)
  have HPh : Hid (h.P = h.P) := hid rfl
  by_cases hse : spendE S = 0
  · rw [hse] at HSP ⊢
    have HFS := hid (show eraS S = { spendS S with blk := zB, pend := [] } by rw [eraS, if_pos hse])
    rw [HFS.out]
    generalize spendS S = T at *
    have HW := hid (fun (w' : World) (h' : DH) (d' : DevAt w' B h' T) => (⟨d'.c0, fun ty => run_clear_wide (P := Try.prog) w' 58 65 ty _ _ Try.underlying58 zero_block h'.gB T.n T.n d'.ok.n1 (zeroB_cells T.n) (bcells_one _)
      (fun j hj => by
        rw [bcells_len, List.length_replicate] at hj
        rw [d'.hB.cell j hj]; rfl)
      (fun j hj => d'.hB.frozen j), d'.wiped.1, d'.wiped.2⟩ :
      w'.cell? ⟨h'.P, 0, none⟩ = some (.slice (some ⟨h'.gB, 0, none⟩) T.n T.n) ∧ (∀ ty, (Builtin.clear_ #[58] ty #[.slice (some ⟨h'.gB, 0, none⟩) T.n T.n]).run Try.prog w' = .ok (.tuple #[]) (w'.setCells h'.gB 0 (bcells (List.replicate (T.n * 128) 0)))) ∧
      DevAt (w'.setCells h'.gB 0 (bcells (List.replicate (T.n * 128) 0))) B h' { T with blk := zB } ∧ Step h' h' w' (w'.setCells h'.gB 0 (bcells (List.replicate (T.n * 128) 0)))))
    have HFG := hid (fun (w' : World) (h' : DH) (d' : DevAt w' B h' { T with blk := zB }) => forget_any w' d')
    generalize bcells (List.replicate (T.n * 128) 0) = zs at *
    clear hse HFS d
    go_enter Try.func20, Try.ntmps20
    go_wp2_with (first
      | (go_at_call 33; refine HSP.out.mono ?_; rintro e w1 ⟨rfl, h1, d1, s1⟩; obtain ⟨c0, hcl, dw, sw⟩ := HW.out w1 h1 d1; have HX := hid (HFG.out _ h1 dw); rw [s1.P] at HX c0; have S1 := hid (s1.trans sw); clear d1 s1 dw sw)
      | (go_at_call 37; refine HX.out.mono ?_; rintro e w2 ⟨rfl, h2, d2, s2⟩; have D2 := hid d2; have S2 := hid s2; clear d2 s2)
      | (simp only [hcl]))
    go_ret
    exact ⟨rfl, _, D2.out, S1.out.trans S2.out⟩
  · have HFS := hid (show eraS S = spendS S by rw [eraS, if_neg hse])
    rw [HFS.out]
    have hse2 : (spendE S != 0) = true := by simpa using hse
    generalize spendS S = T at *
    generalize spendE S = se at *
    clear hse HFS d
    go_enter Try.func20, Try.ntmps20
    go_wp2_with (go_at_call 33; refine HSP.out.mono ?_; rintro e w1 ⟨rfl, h1, d1, s1⟩; have D1 := hid d1; have S1 := hid s1; clear d1 s1)
    go_ret
    exact ⟨rfl, _, D1.out, S1.out⟩
end
end Go.Proofs.Ytpbmkokjjcdhfaa
