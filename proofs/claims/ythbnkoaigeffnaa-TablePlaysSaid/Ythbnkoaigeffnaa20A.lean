/- A table of descriptors: what it is, by plain numbers, and how it lies in memory. -/
import Derived.Test.YthbnkoaigeffnaaBut
namespace Go.Proofs.Ythbnkoaigeffnaa
set_option linter.unusedSimpArgs false
set_option linter.unusedVariables false
open Go.RowKit

def NextPost (L : List Int) (w : World) (e : Ending) (w' : World) : Prop := ∃ v, e = .returned v ∧ Ints w' v L ∧ Kept w w'

inductive Sl where
  | shut
  | file (i m p : Int)
  | dir (i : Int)
def Sl.up : Sl → Bool
  | .shut => false
  | _ => true
def Sl.ino : Sl → Int
  | .shut => 0
  | .file i _ _ => i
  | .dir i => i
def Sl.mode : Sl → Int
  | .shut => 0
  | .file _ m _ => m
  | .dir _ => 8
def Sl.pos : Sl → Int
  | .file _ _ p => p
  | _ => 0
def Sl.val : Sl → Value
  | .shut => .nilIface
  | .file i m p => .iface 64 (.agg #[.int .i64 i, .int .i64 m, .int .i64 p])
  | .dir i => .iface 62 (.agg #[.int .i64 i])
def Sl.isDir : Sl → Bool
  | .dir _ => true
  | _ => false
/-- what a descriptor may stand for -/
def Sl.ok : Sl → Prop
  | .shut => True
  | .file i m p => 1 ≤ i ∧ i ≤ 39 ∧ (m = 1 ∨ m = 2 ∨ m = 3 ∨ m = 6 ∨ m = 7) ∧ 0 ≤ p
  | .dir i => 1 ≤ i ∧ i ≤ 39
theorem Sl.ok_ino {s : Sl} (h : s.ok) : (s.ino = 0 ↔ s.up = false) ∧ 0 ≤ s.ino ∧ s.ino ≤ 39 := by
  cases s <;> simp [Sl.ok, Sl.ino, Sl.up] at * <;> omega
theorem Sl.ok_mode {s : Sl} (h : s.ok) (hu : s.up = true) : (s.mode = 8 ↔ s.isDir = true) ∧ (s.mode = 1 ∨ s.mode = 2 ∨ s.mode = 3 ∨ s.mode = 6 ∨ s.mode = 7 ∨ s.mode = 8) := by
  cases s <;> simp [Sl.ok, Sl.mode, Sl.up, Sl.isDir] at * <;> omega
abbrev Tb := Nat → Sl
def Ok (S : Tb) : Prop := ∀ j, j < 8 → (S j).ok
def upd (S : Tb) (k : Nat) (s : Sl) : Tb := fun j => if j = k then s else S j
theorem Ok.upd {S : Tb} (h : Ok S) (k : Nat) {s : Sl} (hs : s.ok) : Ok (upd S k s) := by
  intro j hj
  unfold Go.Proofs.Ythbnkoaigeffnaa.upd
  split
  · exact hs
  · exact h j hj
/-- the program's table -/
def TabP (w : World) (a : Nat) (S : Tb) : Prop := Blk w a 8 fun j => (S j).val
/-- the document's table -/
def refV (S : Tb) (j : Nat) : Value := if j % 3 = 0 then .int .i64 (S (j / 3)).ino else if j % 3 = 1 then .int .i64 (S (j / 3)).mode else .int .i64 (S (j / 3)).pos
def TabR (w : World) (b : Nat) (S : Tb) : Prop := Blk w b 24 (refV S)
theorem TabR.ino {w : World} {b : Nat} {S : Tb} (h : TabR w b S) (k : Nat) (hk : k < 8) : w.cell? ⟨b, k * 3, none⟩ = some (.int .i64 (S k).ino) := by
  have := Blk.cell h (k * 3) (by omega)
  rw [this, refV, if_pos (by omega), show k * 3 / 3 = k by omega]
theorem TabR.mode {w : World} {b : Nat} {S : Tb} (h : TabR w b S) (k : Nat) (hk : k < 8) : w.cell? ⟨b, k * 3 + 1, none⟩ = some (.int .i64 (S k).mode) := by
  have := Blk.cell h (k * 3 + 1) (by omega)
  rw [this, refV, if_neg (by omega), if_pos (by omega), show (k * 3 + 1) / 3 = k by omega]
theorem TabR.pos {w : World} {b : Nat} {S : Tb} (h : TabR w b S) (k : Nat) (hk : k < 8) : w.cell? ⟨b, k * 3 + 2, none⟩ = some (.int .i64 (S k).pos) := by
  have := Blk.cell h (k * 3 + 2) (by omega)
  rw [this, refV, if_neg (by omega), if_neg (by omega), show (k * 3 + 2) / 3 = k by omega]

/-- the least descriptor that is not open; 8: none -/
def lst (S : Tb) : Nat := ((List.range 8).find? fun j => !(S j).up).getD 8
theorem lst_spec (S : Tb) : (lst S < 8 ∧ (S (lst S)).up = false ∧ ∀ j, j < lst S → (S j).up = true) ∨ (lst S = 8 ∧ ∀ j, j < 8 → (S j).up = true) := by
  unfold lst
  cases h : (List.range 8).find? fun j => !(S j).up with
  | none =>
    rw [List.find?_eq_none] at h
    exact .inr ⟨rfl, fun j hj => by simpa using h j (List.mem_range.2 hj)⟩
  | some k =>
    rw [List.find?_range_eq_some] at h
    obtain ⟨h1, h2, h3⟩ := h
    refine .inl ⟨by simpa using h2, by simpa using h1, fun j hj => ?_⟩
    simpa using h3 j (by simpa using hj)
theorem lst_eq {S : Tb} {k : Nat} (hk : k < 8) (h : ∀ j, j < k → (S j).up = true) (hs : (S k).up = false) : lst S = k := by
  rcases lst_spec S with ⟨h1, h2, h3⟩ | ⟨h1, h2⟩
  · rcases Nat.lt_trichotomy (lst S) k with h4 | h4 | h4
    · have := h _ h4; rw [h2] at this; cases this
    · exact h4
    · have := h3 _ h4; rw [hs] at this; cases this
  · have := h2 k hk; rw [hs] at this; cases this
theorem lst_full {S : Tb} (h : ∀ j, j < 8 → (S j).up = true) : lst S = 8 := by
  rcases lst_spec S with ⟨h1, h2, h3⟩ | ⟨h1, h2⟩
  · have := h _ h1; rw [h2] at this; cases this
  · exact h1
/-- what is done, and what is told of it -/
def modeB (m : Int) : Bool := decide (m = 1 ∨ m = 2 ∨ m = 3 ∨ m = 6 ∨ m = 7 ∨ m = 8)
def okO (i m : Int) : Bool := modeB m && decide (1 ≤ i) && decide (i ≤ 39)
def oF (S : Tb) (i m : Int) : Int := if okO i m = true ∧ lst S < 8 then lst S else 0
def oE (S : Tb) (i m : Int) : Int := if okO i m = false then 1 else if lst S < 8 then 0 else 8
def oS (S : Tb) (i m : Int) : Tb := if okO i m = true ∧ lst S < 8 then upd S (lst S) (if m = 8 then .dir i else .file i m 0) else S
def has (S : Tb) (fd : Int) : Bool := decide (0 ≤ fd) && decide (fd < 8) && (S fd.toNat).up
def gI (S : Tb) (fd : Int) : Int := if has S fd then (S fd.toNat).ino else 0
def gM (S : Tb) (fd : Int) : Int := if has S fd then (S fd.toNat).mode else 0
def gP (S : Tb) (fd : Int) : Int := if has S fd then (S fd.toNat).pos else 0
def gE (S : Tb) (fd : Int) : Int := if has S fd then 0 else 15
/-- may a descriptor of a file be used so? -/
def uses (x m : Int) : Bool := (decide (m = 1) && decide (x % 2 = 1)) || (decide (m = 2) && decide (2 ≤ x))
def fE (S : Tb) (fd m : Int) : Int := if has S fd = true ∧ (m = 1 ∨ m = 2) then (if (S fd.toNat).isDir then 12 else if uses (S fd.toNat).mode m then 0 else 15) else 15
def fI (S : Tb) (fd m : Int) : Int := if fE S fd m = 0 then (S fd.toNat).ino else 0
def fM (S : Tb) (fd m : Int) : Int := if fE S fd m = 0 then (S fd.toNat).mode else 0
def fP (S : Tb) (fd m : Int) : Int := if fE S fd m = 0 then (S fd.toNat).pos else 0
def sE (S : Tb) (fd p : Int) : Int := if has S fd then (if (S fd.toNat).isDir then 12 else if p < 0 then 1 else 0) else 15
def Sl.put (p : Int) : Sl → Sl
  | .file i m _ => .file i m p
  | s => s
def sS (S : Tb) (fd p : Int) : Tb := if sE S fd p = 0 then upd S fd.toNat ((S fd.toNat).put p) else S
def cE (S : Tb) (fd : Int) : Int := if has S fd then 0 else 15
def cS (S : Tb) (fd : Int) : Tb := if has S fd then upd S fd.toNat .shut else S
def upsTo (S : Tb) (k : Nat) : List Int := ((List.range k).filter fun j => (S j).up).map Int.ofNat
def cntTo (S : Tb) (i : Int) (k : Nat) : Nat := ((List.range k).filter fun j => (S j).up && decide ((S j).ino = i)).length
theorem ups_t (S : Tb) (k : Nat) (h : (S k).up = true) : upsTo S (k + 1) = upsTo S k ++ [(k : Int)] := by simp [upsTo, List.range_succ, h]
theorem ups_f (S : Tb) (k : Nat) (h : (S k).up = false) : upsTo S (k + 1) = upsTo S k := by simp [upsTo, List.range_succ, h]
theorem ups_len (S : Tb) (k : Nat) : (upsTo S k).length ≤ k := by
  unfold upsTo
  rw [List.length_map]
  exact Nat.le_trans (List.length_filter_le _ _) (by simp)
theorem cnt_t (S : Tb) (i : Int) (k : Nat) (h : (S k).up = true) (h' : (S k).ino = i) : cntTo S i (k + 1) = cntTo S i k + 1 := by simp [cntTo, List.range_succ, h, h']
theorem cnt_f (S : Tb) (i : Int) (k : Nat) (h : (S k).up = false ∨ (S k).ino ≠ i) : cntTo S i (k + 1) = cntTo S i k := by
  rcases h with h | h <;> simp [cntTo, List.range_succ, h]
theorem cnt_le (S : Tb) (i : Int) (k : Nat) : cntTo S i k ≤ k := by
  unfold cntTo
  exact Nat.le_trans (List.length_filter_le _ _) (by simp)
theorem Ok.opn {S : Tb} (h : Ok S) (i m : Int) : Ok (oS S i m) := by
  unfold oS
  split
  · rename_i hh
    refine h.upd _ ?_
    have h1 := hh.1
    simp [okO, modeB] at h1
    split
    · exact ⟨h1.1.2, h1.2⟩
    · exact ⟨h1.1.2, h1.2, by omega, by omega⟩
  · exact h
theorem Ok.sk {S : Tb} (h : Ok S) (fd p : Int) : Ok (sS S fd p) := by
  unfold sS
  split
  · rename_i hh
    unfold sE at hh
    split at hh
    · rename_i hs
      simp [has] at hs
      have h1 := h fd.toNat (by omega)
      refine h.upd _ ?_
      cases hx : S fd.toNat with
      | shut => trivial
      | file i m q =>
        rw [hx] at h1 hh
        simp [Sl.isDir] at hh
        exact ⟨h1.1, h1.2.1, h1.2.2.1, hh⟩
      | dir i => rw [hx] at h1; exact h1
    · cases hh
  · exact h
theorem Ok.cl {S : Tb} (h : Ok S) (fd : Int) : Ok (cS S fd) := by
  unfold cS
  split
  · exact h.upd _ trivial
  · exact h
end Go.Proofs.Ythbnkoaigeffnaa
