/- Sparse: what may be written, cut, read, said with its shape. -/
import Derived.Test.Ytfkmhdnapmicdaa19AB
namespace Go.Proofs.Ytfkmhdnapmicdaa
set_option linter.unusedSimpArgs false
set_option linter.unusedVariables false
open Go.RowKit

theorem write_own (o : Int) (f : Fl) (off : Nat) (b : List UInt8) (v vb : Value) (w : World) (h : Sp w v f) (hb : Byts w vb b) (ho : o = (off : Int)) (hv : Valid f) (hfit : (off : Int) + b.length ≤ 463488) (g : Fl) (hg : wrF f off b = g) (s : Int) (hs : g.size = s) (n : Nat) (hn : g.L.length = n) (q : Nat) (hq : (wrL off b).length = q) :
    Calls Try.prog 10 #[v, .int .i64 o, vb] w fun e w' => ∃ A c A2 c2, e = .returned (.tuple #[.agg #[.int .i64 s, .slice A n c], .slice A2 q c2, .int .i64 0]) ∧ OPc w' w.heap.size (.slice A n c) g.L ∧ Ints w' (.slice A2 q c2) (wrL off b) ∧ Kept w w' := by
  subst ho; subst hg; subst hs; subst hn; subst hq
  refine (write_any f off b v vb w h hb).mono ?_
  rintro e w' ⟨k, -, -, h3⟩
  obtain ⟨vl, u, rfl, hP, hI⟩ := h3 (mayB_t hv) (by omega) hfit
  obtain ⟨A, c, rfl⟩ := hP.pcs.shape
  obtain ⟨A2, c2, rfl⟩ := hI.shape
  exact ⟨A, c, A2, c2, rfl, hP, hI, k⟩
theorem write_ok (f : Fl) (off : Nat) (b : List UInt8) (v vb : Value) (w : World) (h : Sp w v f) (hb : Byts w vb b) (hv : Valid f) (hfit : (off : Int) + b.length ≤ 463488) (g : Fl) (hg : wrF f off b = g) (n : Nat) (hn : g.L.length = n) (N : List Int) (hN : wrL off b = N) (q : Nat) (hq : N.length = q) :
    Calls Try.prog 10 #[v, .int .i64 (off : Int), vb] w fun e w' => ∃ A c A2 c2, e = .returned (.tuple #[.agg #[.int .i64 g.size, .slice A n c], .slice A2 q c2, .int .i64 0]) ∧ Pcs w' (.slice A n c) g.L ∧ Ints w' (.slice A2 q c2) N ∧ Kept w w' := by
  subst hN
  refine (write_own _ f off b v vb w h hb rfl hv hfit g hg _ rfl n hn q hq).mono ?_
  rintro e w' ⟨A, c, A2, c2, rfl, hP, hI, k⟩
  exact ⟨A, c, A2, c2, rfl, hP.pcs, hI, k⟩
theorem cut_ok (f : Fl) (sz : Nat) (v : Value) (w : World) (h : Sp w v f) (hv : Valid f) (hfit : sz ≤ 463488) (g : Fl) (hg : cutF f sz = g) (n : Nat) (hn : g.L.length = n) (N : List Int) (hN : cutW f sz = N) (q : Nat) (hq : N.length = q) :
    Calls Try.prog 18 #[v, .int .i64 (sz : Int)] w fun e w' => ∃ A c A2 c2, e = .returned (.tuple #[.agg #[.int .i64 g.size, .slice A n c], .slice A2 q c2, .int .i64 0]) ∧ Pcs w' (.slice A n c) g.L ∧ Ints w' (.slice A2 q c2) N ∧ Kept w w' := by
  subst hg; subst hn; subst hN; subst hq
  refine (cut_any f sz v w h).mono ?_
  rintro e w' ⟨k, -, -, h3⟩
  obtain ⟨v2, u, rfl, ⟨vl, rfl, hP⟩, hI⟩ := h3 (mayB_t hv) (by omega) (by omega)
  obtain ⟨A, c, rfl⟩ := hP.shape
  obtain ⟨A2, c2, rfl⟩ := hI.shape
  exact ⟨A, c, A2, c2, rfl, hP, hI, k⟩
/-- what is read of a file -/
def rdX (f : Fl) (off n : Nat) : List UInt8 := rdB f.L off (min (n : Int) (f.size - (off : Int))).toNat
theorem byts_blk {w : World} {g : Nat} {l : List UInt8} {n : Nat} (h : OBlk w g 5 l) (hl : l.length = n) (hm : n ≤ 9223372036854775807) : Byts w (.slice (some ⟨g, 0, none⟩) n n) l := by
  exact byts_mk hl (Nat.le_refl _) (by omega) h.range
theorem read_ok (f : Fl) (off n : Nat) (v : Value) (w : World) (h : Sp w v f) (hv : Valid f) (ho : off ≤ 1000000) (hn : (n : Int) ≤ 9223372036854775807) (l : List UInt8) (hl : rdX f off n = l) (q : Nat) (hq : l.length = q) :
    Calls Try.prog 20 #[v, .int .i64 (off : Int), .int .i64 (n : Int)] w fun e w' => ∃ A c, e = .returned (.tuple #[.slice A q c, .int .i64 0]) ∧ Byts w' (.slice A q c) l ∧ Kept w w' := by
  subst hl; subst hq
  have hs1 := hv.s1
  refine (read_any f off n v w h (by omega) hn).mono ?_
  rintro e w' ⟨k, -, h3⟩
  obtain ⟨h4, h5⟩ := h3 (mayB_t hv) (by omega) (by omega)
  by_cases hs : f.size ≤ (off : Int)
  · have e0 : (min (n : Int) (f.size - (off : Int))).toNat = 0 := by omega
    have e1 : rdX f off n = [] := by rw [rdX, e0]; rfl
    rw [e1]
    exact ⟨none, 0, h4 hs, byts_nil _, k⟩
  · obtain ⟨g, rfl, ob⟩ := h5 (by omega)
    have e1 : (rdX f off n).length = (min (n : Int) (f.size - (off : Int))).toNat := by rw [rdX, rdB_len]
    rw [e1]
    rw [Int.toNat_natCast] at ob
    exact ⟨_, _, rfl, byts_blk ob e1 (by omega), k⟩
theorem write_to (o : Int) (f : Fl) (off : Nat) (b : List UInt8) (v vb : Value) (w : World) (h : Sp w v f) (hb : Byts w vb b) (ho : o = (off : Int)) (hv : Valid f) (hfit : (off : Int) + b.length ≤ 463488) (g : Fl) (hg : wrF f off b = g) (s : Int) (hs : g.size = s) (n : Nat) (hn : g.L.length = n) (N : List Int) (hN : wrL off b = N) (q : Nat) (hq : N.length = q) :
    Calls Try.prog 10 #[v, .int .i64 o, vb] w fun e w' => ∃ A c A2 c2, e = .returned (.tuple #[.agg #[.int .i64 s, .slice A n c], .slice A2 q c2, .int .i64 0]) ∧ Pcs w' (.slice A n c) g.L ∧ Ints w' (.slice A2 q c2) N ∧ Kept w w' := by
  subst ho; subst hs
  exact write_ok f off b v vb w h hb hv hfit g hg n hn N hN q hq
theorem cut_to (o : Int) (f : Fl) (sz : Nat) (v : Value) (w : World) (h : Sp w v f) (ho : o = (sz : Int)) (hv : Valid f) (hfit : sz ≤ 463488) (g : Fl) (hg : cutF f sz = g) (s : Int) (hs : g.size = s) (n : Nat) (hn : g.L.length = n) (N : List Int) (hN : cutW f sz = N) (q : Nat) (hq : N.length = q) :
    Calls Try.prog 18 #[v, .int .i64 o] w fun e w' => ∃ A c A2 c2, e = .returned (.tuple #[.agg #[.int .i64 s, .slice A n c], .slice A2 q c2, .int .i64 0]) ∧ Pcs w' (.slice A n c) g.L ∧ Ints w' (.slice A2 q c2) N ∧ Kept w w' := by
  subst ho; subst hs
  exact cut_ok f sz v w h hv hfit g hg n hn N hN q hq
theorem read_to (o m : Int) (f : Fl) (off n : Nat) (v : Value) (w : World) (h : Sp w v f) (ho1 : o = (off : Int)) (hm : m = (n : Int)) (hv : Valid f) (ho : off ≤ 1000000) (hn : (n : Int) ≤ 9223372036854775807) (l : List UInt8) (hl : rdX f off n = l) (q : Nat) (hq : l.length = q) :
    Calls Try.prog 20 #[v, .int .i64 o, .int .i64 m] w fun e w' => ∃ A c, e = .returned (.tuple #[.slice A q c, .int .i64 0]) ∧ Byts w' (.slice A q c) l ∧ Kept w w' := by
  subst ho1; subst hm
  exact read_ok f off n v w h hv ho hn l hl q hq
theorem write_err (f : Fl) (off : Int) (b : List UInt8) (v vb : Value) (w : World) (h : Sp w v f) (hb : Byts w vb b) (hno : mayB f = false ∨ off < 0) :
    Calls Try.prog 10 #[v, .int .i64 off, vb] w fun e w' => e = .returned (.tuple #[.agg #[.int .i64 0, .slice none 0 0], .slice none 0 0, .int .i64 1]) ∧ Kept w w' := by
  refine (write_any f off b v vb w h hb).mono ?_
  rintro e w' ⟨k, h1, -, -⟩
  exact ⟨h1 hno, k⟩
theorem write_big (f : Fl) (off : Int) (b : List UInt8) (v vb : Value) (w : World) (h : Sp w v f) (hb : Byts w vb b) (hv : Valid f) (ho : 0 ≤ off) (hbig : 463488 < off + b.length) :
    Calls Try.prog 10 #[v, .int .i64 off, vb] w fun e w' => e = .returned (.tuple #[.agg #[.int .i64 0, .slice none 0 0], .slice none 0 0, .int .i64 16]) ∧ Kept w w' := by
  refine (write_any f off b v vb w h hb).mono ?_
  rintro e w' ⟨k, -, h2, -⟩
  exact ⟨h2 (mayB_t hv) ho hbig, k⟩
theorem cut_err (f : Fl) (sz : Int) (v : Value) (w : World) (h : Sp w v f) (hno : mayB f = false ∨ sz < 0) :
    Calls Try.prog 18 #[v, .int .i64 sz] w fun e w' => e = .returned (.tuple #[.agg #[.int .i64 0, .slice none 0 0], .slice none 0 0, .int .i64 1]) ∧ Kept w w' := by
  refine (cut_any f sz v w h).mono ?_
  rintro e w' ⟨k, h1, -, -⟩
  exact ⟨h1 hno, k⟩
theorem cut_big (f : Fl) (sz : Int) (v : Value) (w : World) (h : Sp w v f) (hv : Valid f) (hbig : 463488 < sz) :
    Calls Try.prog 18 #[v, .int .i64 sz] w fun e w' => e = .returned (.tuple #[.agg #[.int .i64 0, .slice none 0 0], .slice none 0 0, .int .i64 16]) ∧ Kept w w' := by
  refine (cut_any f sz v w h).mono ?_
  rintro e w' ⟨k, -, h2, -⟩
  exact ⟨h2 (mayB_t hv) hbig, k⟩
theorem read_err (f : Fl) (off n : Int) (v : Value) (w : World) (h : Sp w v f) (ho : off ≤ 9223372036854775807) (hn : n ≤ 9223372036854775807) (hno : mayB f = false ∨ off < 0 ∨ n < 0) :
    Calls Try.prog 20 #[v, .int .i64 off, .int .i64 n] w fun e w' => e = .returned (.tuple #[.slice none 0 0, .int .i64 1]) ∧ Kept w w' := by
  refine (read_any f off n v w h ho hn).mono ?_
  rintro e w' ⟨k, h1, -⟩
  exact ⟨h1 hno, k⟩
theorem sp_mk {w : World} {s : Int} {L : List Pc} {v : Value} (h : Pcs w v L) : Sp w (.agg #[.int .i64 s, v]) ⟨s, L⟩ := ⟨v, rfl, h⟩
theorem sp_mk' {w : World} {g : Fl} {v : Value} (h : Pcs w v g.L) : Sp w (.agg #[.int .i64 g.size, v]) g := ⟨v, rfl, h⟩
theorem sp_to {w : World} {s : Int} {g : Fl} {v : Value} (hs : g.size = s) (h : Pcs w v g.L) : Sp w (.agg #[.int .i64 s, v]) g := by
  subst hs; exact ⟨v, rfl, h⟩
theorem zero_valid : Valid ⟨0, []⟩ := by
  constructor <;> simp [Srt]
/-- the chapter's examples -/
def x1 : Fl := wrF ⟨0, []⟩ 200 [97, 98]
def x2 : Fl := cutF x1 201
theorem x1_ok : Valid x1 := wr_valid zero_valid 200 [97, 98] (by decide) (by decide)
theorem x2_ok : Valid x2 := cut_valid x1_ok 201 (by decide) (by decide)
theorem x1_s : x1.size = 202 := by decide +kernel
theorem x1_n : x1.L.length = 1 := by decide +kernel
theorem x1_w : wrL 200 [97, 98] = [1] := by decide +kernel
theorem x1_r : rdX x1 0 3 = [0, 0, 0] := by decide +kernel
theorem x2_s : x2.size = 201 := by decide +kernel
theorem x2_r : rdX x2 199 9 = [0, 97] := by decide +kernel
end Go.Proofs.Ytfkmhdnapmicdaa
