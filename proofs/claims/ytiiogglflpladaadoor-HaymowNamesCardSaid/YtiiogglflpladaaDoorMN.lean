/- HaymowNames: the document's Same of entries. -/
import Derived.Test.YtiiogglflpladaaDoorMM
namespace Go.Proofs.YtiiogglflpladaaDoor
set_option linter.unusedSimpArgs false
set_option linter.unusedVariables false
open Go.RowKit

set_option maxHeartbeats 8000000 in
set_option maxRecDepth 100000 in
theorem esame_any (v v2 : Value) (L : List En) (w : World) (h : Ents w v L) (h2 : Ents w v2 L) (hl : L.length ≤ 30) :
    Calls Tryd.prog 11 #[v, v2] w fun e w' => e = .returned (.bool true) ∧ ∃ m, w' = w.drewN m := by
  obtain ⟨A, c, rfl⟩ := h.shape
  obtain ⟨A2, c2, rfl⟩ := h2.shape
  obtain ⟨n, hn⟩ : ∃ n, L.length = n := ⟨_, rfl⟩
  rw [hn] at h h2 hl ⊢
  have HE := hid h; have HE2 := hid h2
  have HN := hid hn
  clear h h2 hn
  go_enter Tryd.func11, Tryd.ntmps11
  go_wp2
  go_loopw [5] (fun t wr => ∃ k : Nat, k ≤ n ∧ t = .int .i64 k ∧ ∃ m, wr = w.drewN m) (fun t _ => n - (intOf t).toNat)
  case atStart => exact ⟨0, by omega, rfl, 0, rfl⟩
  case round =>
    obtain ⟨k, hk, rfl, md, hwd⟩ := hrel
    have HK := hid (show Kept w wr by rw [hwd]; exact (Kept.refl w).drewN md)
    have HW := hid hwd
    clear hwd
    by_cases hlt : k < n
    · obtain ⟨b, o, e, rfl, he, hc⟩ := HE.out.at_ k hlt
      obtain ⟨b2, o2, e2, rfl, he2, hc2⟩ := HE2.out.at_ k hlt
      obtain rfl : e2 = e := by rw [he] at he2; exact (Option.some.inj he2).symm
      obtain ⟨p1, p2, p3⟩ := HK.out.enAt hc
      obtain ⟨q1, q2, q3⟩ := HK.out.enAt hc2
      have hk0 : (0 : Int) ≤ (k : Int) := by omega
      have hk1 : (k : Int) < (n : Int) := by omega
      generalize bstr e2.name = s at *
      generalize e2.ino = x at *
      clear hc hc2 he he2
      go_wp2_with fail
      go_quiet (fail)
      go_wp2_with fail
      go_roundw
      case rel => exact ⟨k + 1, by omega, by go_num, md + nq, by rw [HW.out]; simp [World.drewN, Nat.add_assoc]⟩
      case measure => simp [intOf]; omega
    · obtain rfl : k = n := by omega
      go_wp2
      go_ret
      exact ⟨rfl, md, HW.out⟩
end Go.Proofs.YtiiogglflpladaaDoor
