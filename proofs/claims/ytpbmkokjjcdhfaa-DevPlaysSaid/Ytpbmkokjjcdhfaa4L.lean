/- The device: Flush, Crash; the law's All. -/
import Derived.Test.Ytpbmkokjjcdhfaa4K
namespace Go.Proofs.Ytpbmkokjjcdhfaa
set_option linter.unusedSimpArgs false
set_option linter.unusedVariables false
open Go.RowKit

section
variable {w : World} {B : Nat} {h : DH} {S : DS}
def flS (S : DS) : DS := if spendE S = 0 then { spendS S with blk := exB S.blk S.pend (fun _ => 128) S.pend.length, pend := [] } else spendS S
set_option maxHeartbeats 1000000 in
theorem flush_any (w : World) (d : DevAt w B h S) : Calls Try.prog 11 #[.pointer (some ⟨h.P, 0, none⟩)] w (DPost (.int .i64 (spendE S)) (flS S) B h w) := by
  have HSP := hid (spend_any w d)
  have HPh : Hid (h.P = h.P) := hid rfl
  by_cases hse : spendE S = 0
  · rw [hse] at HSP ⊢
    have HFS := hid (show flS S = { spendS S with blk := exB (spendS S).blk (spendS S).pend (fun _ => 128) (spendS S).pend.length, pend := [] } by rw [flS, if_pos hse]; rfl)
    rw [HFS.out]
    generalize spendS S = T at *
    have HEX := hid (fun (w' : World) (h' : DH) (d' : DevAt w' B h' T) => exec_flush w' d')
    clear hse HFS d
    go_enter Try.func11, Try.ntmps11
    go_wp2_with (first
      | (go_at_call 33; refine HSP.out.mono ?_; rintro e w1 ⟨rfl, h1, d1, s1⟩; have HX := hid (HEX.out w1 h1 d1); rw [s1.P] at HX; have S1 := hid s1; clear d1 s1)
      | (go_at_call 34; refine HX.out.mono ?_; rintro e w2 ⟨rfl, h2, d2, s2⟩; have D2 := hid d2; have S2 := hid s2; clear d2 s2))
    go_ret
    exact ⟨rfl, _, D2.out, S1.out.trans S2.out⟩
  · have HFS := hid (show flS S = spendS S by rw [flS, if_neg hse])
    rw [HFS.out]
    have hse2 : (spendE S != 0) = true := by simpa using hse
    generalize spendS S = T at *
    generalize spendE S = se at *
    clear hse HFS d
    go_enter Try.func11, Try.ntmps11
    go_wp2_with (go_at_call 33; refine HSP.out.mono ?_; rintro e w1 ⟨rfl, h1, d1, s1⟩; have D1 := hid d1; have S1 := hid s1; clear d1 s1)
    go_ret
    exact ⟨rfl, _, D1.out, S1.out⟩

/-- a slice of numbers that is handed to a crash -/
def NIn (h : DH) (w : World) (v : Value) (L : List Int) : Prop :=
  ∃ A c, v = .slice A L.length c ∧ L.length ≤ c ∧ c ≤ 9223372036854775807 ∧ (0 < L.length → ∃ b o, A = some ⟨b, o, none⟩ ∧ Out h w b ∧ ∀ i, i < L.length → w.cell? ⟨b, o + i, none⟩ = some (.int .i64 (L.getD i 0)))
theorem Step.nin {h h' : DH} {w w' : World} (s : Step h h' w w') {v : Value} {L : List Int} (f : NIn h w v L) : NIn h' w' v L := by
  obtain ⟨A, c, h1, h3, h4, h5⟩ := f
  refine ⟨A, c, h1, h3, h4, fun h0 => ?_⟩
  obtain ⟨b, o, hA, ho, hc⟩ := h5 h0
  exact ⟨b, o, hA, s.outs ho, fun i hi => s.keeps ho (hc i hi)⟩
def crS (S : DS) (L : List Int) : DS := { S with blk := exB S.blk S.pend (fun k => L.getD k 0) S.pend.length, pend := [], pow := false }
set_option maxHeartbeats 1000000 in
theorem crash_any (v : Value) (L : List Int) (w : World) (d : DevAt w B h S) (hL : NIn h w v L) : Calls Try.prog 13 #[.pointer (some ⟨h.P, 0, none⟩), v] w (DPost (.tuple #[]) (crS S L) B h w) := by
  obtain ⟨A, c, rfl, h3, h4, h5⟩ := hL
  obtain ⟨W1, hW1⟩ : ∃ W1 : World, W1 = w.alloc (.cells #[.slice A L.length c] 23) := ⟨_, rfl⟩
  have k1 : Kept w W1 := by rw [hW1]; exact (Kept.refl w).alloc _
  have d1 := k1.dev d
  have hf : FarAt h W1 w.heap.size L := by
    refine ⟨A, c, by rw [hW1]; simp [go_sem], ⟨by rw [hW1]; simp, d.new_out (Nat.le_refl _)⟩, h3, h4, fun h0 => ?_⟩
    obtain ⟨b, o, hA, ho, hc⟩ := h5 h0
    exact ⟨b, o, hA, (k1.step h).outs ho, fun i hi => (k1.step h).keeps ho (hc i hi)⟩
  have HEX := hid (exec_crash w.heap.size L W1 d1 hf)
  have HK := hid k1
  have HFT := hid (fun (w' : World) (h' : DH) (d' : DevAt w' B h' { S with blk := exB S.blk S.pend (fun k => L.getD k 0) S.pend.length, pend := [] }) => (⟨d'.c5, d'.fz 5, d'.field 5 (.bool false) (crS S L) rfl rfl rfl rfl rfl rfl ⟨d'.ok.n1, d'.ok.n2, d'.ok.blk, d'.ok.pend, d'.ok.bud, d'.ok.flt⟩, Step.field d' 5 (.bool false)⟩ :
    w'.cell? ⟨h'.P, 5, none⟩ = some (.bool S.pow) ∧ w'.frozen? ⟨h'.P, 5, none⟩ = false ∧ DevAt (w'.setCell ⟨h'.P, 5, none⟩ (.bool false)) B h' (crS S L) ∧ Step h' h' w' (w'.setCell ⟨h'.P, 5, none⟩ (.bool false))))
  clear d k1 d1 hf h5
  generalize S.pow = pw at *
  go_enter Try.func13, Try.ntmps13
  go_wp2_with (go_at_call 34; rw [← hW1]; refine HEX.out.mono ?_; rintro e w2 ⟨rfl, h2, d2, s2⟩; obtain ⟨c5, f5, hd, hs⟩ := HFT.out w2 h2 d2; rw [s2.P] at c5 f5 hd hs; have HD := hid hd; have HS := hid hs; have S2 := hid s2; clear d2 s2 hd hs)
  go_end0
  exact ⟨rfl, _, HD.out, ((HK.out.step h).trans S2.out).trans HS.out⟩
end

/-- a row of octets of the law's own -/
theorem BlkT.set1 {w : World} {g n : Nat} {t : TypeId} {F : Nat → Value} (hb : BlkT w g t n F) (k : Nat) (hk : k < n) (v : Value) : BlkT (w.setCell ⟨g, k, none⟩ v) g t n (fun j => if j = k then v else F j) := by
  have := hb.setCells k [v] (by simp; omega)
  refine this.congr fun j hj => ?_
  by_cases e : j = k
  · subst e; simp
  · rw [if_neg (by simp; omega), if_neg e]
theorem BlkT.oblk {w : World} {g : Nat} {t : TypeId} {l : List UInt8} {F : Nat → Value} (hb : BlkT w g t l.length F) (hF : ∀ j, j < l.length → F j = .int .u8 ((l.getD j 0).toNat : Int)) : OBlk w g t l := by
  obtain ⟨cs, hg, hs, hc⟩ := hb
  have : cs = (bcells l).toArray := by
    apply Array.ext_getElem?
    intro j
    by_cases hj : j < l.length
    · rw [hc j hj, hF j hj]; simp only [List.getElem?_toArray]; rw [bcells_at _ _ hj]
    · rw [Array.getElem?_eq_none (by omega)]
      simp only [List.getElem?_toArray]
      rw [List.getElem?_eq_none (by rw [bcells_len]; omega)]
  rw [OBlk, hg, this]
theorem OBlk.blk {w : World} {g : Nat} {t : TypeId} {l : List UInt8} (hb : OBlk w g t l) : BlkT w g t l.length (fun j => .int .u8 ((l.getD j 0).toNat : Int)) :=
  ⟨_, hb, by simp [bcells_len], fun j hj => by simp only [List.getElem?_toArray]; exact bcells_at _ _ hj⟩
theorem OBlk.range {w : World} {g : Nat} {t : TypeId} {l : List UInt8} (hb : OBlk w g t l) : w.rangeAt g 0 (bcells l) := fun j v hv => by
  rw [Nat.zero_add, cell_of_row _ _ _ _ _ _ hb]
  simpa using hv
theorem OBlk.cell {w : World} {g : Nat} {t : TypeId} {l : List UInt8} (hb : OBlk w g t l) (j : Nat) (hj : j < l.length) : w.cell? ⟨g, j, none⟩ = some (.int .u8 ((l.getD j 0).toNat : Int)) := hb.blk.cell j hj
theorem OBlk.of_heap {w w' : World} {g : Nat} {t : TypeId} {l : List UInt8} (hb : OBlk w g t l) (e : w'.heap[g]? = w.heap[g]?) : OBlk w' g t l := e.trans hb
theorem OBlk.lt {w : World} {g : Nat} {t : TypeId} {l : List UInt8} (hb : OBlk w g t l) : g < w.heap.size := hb.blk.lt
theorem OBlk.bin {w : World} {h : DH} {g : Nat} {t : TypeId} {l : List UInt8} (hb : OBlk w g t l) (ho : Out h w g) (hl : l.length = 128) : BIn h w (.slice (some ⟨g, 0, none⟩) 128 128) l :=
  ⟨_, 128, by rw [hl], by omega, by omega, fun _ => ⟨g, 0, rfl, hb.range, ho⟩⟩

def AllPost (c : UInt8) (w : World) (e : Ending) (w' : World) : Prop := ∃ g, e = .returned (.slice (some ⟨g, 0, none⟩) 128 128) ∧ OBlk w' g 5 (List.replicate 128 c) ∧ w.heap.size ≤ g ∧ Kept w w'
set_option maxHeartbeats 1000000 in
theorem all_any (c : UInt8) (w : World) : Calls Try.prog 10 #[.int .u8 (c.toNat : Int)] w (AllPost c w) := by
  have hmk : ∀ w, (Instr.makeSlice 31 (.int .i64 128) (.int .i64 128)).run Try.prog w = .ok (.slice (some ⟨w.heap.size, 0, none⟩) 128 128) (w.alloc (.cells zeroB 5)) := fun _ => by kernel_rfl
  have HZ := hid (show zeroB = (bcells (List.replicate 128 0)).toArray by rfl)
  have HC := hid (rfl : c = c)
  generalize hx : (c.toNat : Int) = x
  have HX := hid hx
  clear hx
  generalize zeroB = Z at *
  go_enter Try.func10, Try.ntmps10
  go_wp2
  go_loopw [4] (fun t wr => ∃ k : Nat, k ≤ 128 ∧ t = .int .i64 k ∧ BlkT wr w.heap.size 5 128 (fun j => if j < k then .int .u8 x else .int .u8 0) ∧ Kept w wr) (fun t _ => 128 - (intOf t).toNat)
  case atStart =>
    refine ⟨0, by omega, rfl, ?_, (Kept.refl w).alloc _⟩
    have hb : OBlk (w.alloc (.cells Z 5)) w.heap.size 5 (List.replicate 128 0) := by rw [HZ.out]; exact oblk_new w _ _
    refine BlkT.congr (n := 128) hb.blk fun j hj => ?_
    rw [if_neg (by omega)]
    have : (List.replicate 128 (0 : UInt8)).getD j 0 = 0 := by
      rw [List.getD_eq_getElem?_getD, List.getElem?_replicate]; split <;> rfl
    rw [this]; rfl
  case round =>
    obtain ⟨k, hk, rfl, hb, hkr⟩ := hrel
    have HB := hid hb; have HK := hid hkr
    clear hb hkr
    by_cases hlt : k < 128
    · have hc := HB.out.cell k hlt
      rw [if_neg (by omega)] at hc
      have hf := HB.out.frozen k
      have hk0 : (0 : Int) ≤ (k : Int) := by omega
      have hk1 : (k : Int) < 128 := by omega
      go_wp2
      go_roundw
      case rel =>
        refine ⟨k + 1, by omega, by go_num, (HB.out.set1 k hlt _).congr fun j hj => ?_, HK.out.setCell (Nat.le_refl _) _⟩
        by_cases e : j = k
        · subst e; rw [if_pos rfl, if_pos (by omega)]
        · rw [if_neg e]
          by_cases e2 : j < k
          · rw [if_pos e2, if_pos (by omega)]
          · rw [if_neg e2, if_neg (by omega)]
      case measure => simp [intOf]; omega
    · obtain rfl : k = 128 := by omega
      go_wp2
      go_ret
      refine ⟨_, rfl, BlkT.oblk (l := List.replicate 128 c) (by rw [List.length_replicate]; exact HB.out) (fun j hj => ?_), Nat.le_refl _, HK.out⟩
      rw [List.length_replicate] at hj
      rw [if_pos hj, ← HX.out, List.getD_eq_getElem?_getD, List.getElem?_replicate, if_pos hj]; rfl
end Go.Proofs.Ytpbmkokjjcdhfaa
