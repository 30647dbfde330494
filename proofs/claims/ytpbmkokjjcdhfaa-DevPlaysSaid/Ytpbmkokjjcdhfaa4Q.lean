/- Acts that came in: an argument that is a slice of acts reads as such. -/
import Derived.Test.Ytpbmkokjjcdhfaa4O
import Derived.Test.YtpbmkokjjcdhfaaInts
import Derived.Deep.Slices
import Derived.ProofKit
import Derived.OpenShut
namespace Go.Proofs.Ytpbmkokjjcdhfaa
set_option linter.unusedSimpArgs false
set_option linter.unusedVariables false
open Go.ChangeShapes Go.WideShapes Go.ChangeAt Go.RowKit

structure Ac where
  dd : Int
  ii : Int
  kk : Int
  cc : UInt8
  sh : Bool
  fv : Value
  far : List Int
def ac0 : Ac := ⟨0, 0, 0, 0, false, .slice none 0 0, []⟩
def AcCells (a : Ac) : List Value := [.int .i64 a.dd, .int .i64 a.ii, .int .i64 a.kk, .int .u8 (a.cc.toNat : Int), .bool a.sh, a.fv]
structure AcAt (w : World) (b o : Nat) (a : Ac) : Prop where
  c0 : w.cell? ⟨b, o, none⟩ = some (.int .i64 a.dd)
  c1 : w.cell? ⟨b, o + 1, none⟩ = some (.int .i64 a.ii)
  c2 : w.cell? ⟨b, o + 2, none⟩ = some (.int .i64 a.kk)
  c3 : w.cell? ⟨b, o + 3, none⟩ = some (.int .u8 (a.cc.toNat : Int))
  c4 : w.cell? ⟨b, o + 4, none⟩ = some (.bool a.sh)
  c5 : w.cell? ⟨b, o + 5, none⟩ = some a.fv
  fr : Ints w a.fv a.far
def Acts (w : World) (v : Value) (n : Nat) (f : Nat → Ac) : Prop :=
  ∃ A c, v = .slice A n c ∧ n ≤ c ∧ c ≤ 9223372036854775807 ∧ (0 < n → ∃ b o, A = some ⟨b, o, none⟩ ∧ ∀ i, i < n → AcAt w b (o + i * 6) (f i))
theorem Kept.acAt {w w1 : World} (k : Kept w w1) {b o : Nat} {a : Ac} (h : AcAt w b o a) : AcAt w1 b o a :=
  ⟨k.keeps h.c0, k.keeps h.c1, k.keeps h.c2, k.keeps h.c3, k.keeps h.c4, k.keeps h.c5, k.ints h.fr⟩
theorem Kept.acts {w w1 : World} (k : Kept w w1) {v : Value} {n : Nat} {f : Nat → Ac} (h : Acts w v n f) : Acts w1 v n f := by
  obtain ⟨A, c, hv, h1, h2, h3⟩ := h
  refine ⟨A, c, hv, h1, h2, fun h0 => ?_⟩
  obtain ⟨b, o, hA, hi⟩ := h3 h0
  exact ⟨b, o, hA, fun i hn => k.acAt (hi i hn)⟩

theorem addr_add (b o k : Nat) : (⟨b, o, none⟩ : Addr).add k = ⟨b, o + k, none⟩ := by unfold Addr.add; split <;> simp_all
theorem cellsAct : Try.prog.cellsOf 30 = 6 := by kernel_rfl
theorem cellsInt : Try.prog.cellsOf 3 = 1 := by kernel_rfl
theorem cellsU8 : Try.prog.cellsOf 5 = 1 := by kernel_rfl
theorem cellsBool : Try.prog.cellsOf 4 = 1 := by kernel_rfl
theorem cellsInts : Try.prog.cellsOf 23 = 1 := by kernel_rfl
theorem ints_in {H : Type} {enc : TypeId × Value → H} {W : World} {base : Nat} {held : Bool} {fuel : Nat} {cs : List Value} {x : DataW H × List MemPlace}
    (h : DataW.trod enc Try.prog W base (fun _ => true) held fuel 23 cs = some x) : ∃ v L, cs = [v] ∧ Ints W v L := by
  rcases open_ints Try.underlying23 Try.underlying3 (by kernel_rfl) h with ⟨hcs, _⟩ | ⟨a, l, c, zs, hcs, _, hl, hm, hz, _, hcell, hwz⟩
  · exact ⟨_, [], hcs, ints_nil _⟩
  · exact ⟨_, zs.take l, hcs, ints_open (by simpa using hz) hl hm hcell⟩
theorem act_cells {H : Type} {enc : TypeId × Value → H} {W : World} {base : Nat} {held : Bool} {fuel : Nat} {cs : List Value} {x : DataW H × List MemPlace}
    (h : DataW.trod enc Try.prog W base (fun _ => true) held fuel 30 cs = some x) : ∃ t : Ac, cs = AcCells t ∧ Ints W t.fv t.far := by
  obtain ⟨xs, n, _, _, hlen, hxl, hf⟩ := DataW.trod_struct Try.underlying30 h
  rw [cellsAct] at hlen
  match cs, hlen with
  | [c0, c1, c2, c3, c4, c5], _ =>
    have h0 := hf 0 _ rfl
    have h1 := hf 1 _ rfl
    have h2 := hf 2 _ rfl
    have h3 := hf 3 _ rfl
    have h4 := hf 4 _ rfl
    have h5 := hf 5 _ rfl
    change DataW.trod enc Try.prog W base (fun _ => true) held n 3 (List.take (Try.prog.cellsOf 3) (List.drop 0 [c0, c1, c2, c3, c4, c5])) = xs[0]? at h0
    change DataW.trod enc Try.prog W base (fun _ => true) held n 3 (List.take (Try.prog.cellsOf 3) (List.drop 1 [c0, c1, c2, c3, c4, c5])) = xs[1]? at h1
    change DataW.trod enc Try.prog W base (fun _ => true) held n 3 (List.take (Try.prog.cellsOf 3) (List.drop 2 [c0, c1, c2, c3, c4, c5])) = xs[2]? at h2
    change DataW.trod enc Try.prog W base (fun _ => true) held n 5 (List.take (Try.prog.cellsOf 5) (List.drop 3 [c0, c1, c2, c3, c4, c5])) = xs[3]? at h3
    change DataW.trod enc Try.prog W base (fun _ => true) held n 4 (List.take (Try.prog.cellsOf 4) (List.drop 4 [c0, c1, c2, c3, c4, c5])) = xs[4]? at h4
    change DataW.trod enc Try.prog W base (fun _ => true) held n 23 (List.take (Try.prog.cellsOf 23) (List.drop 5 [c0, c1, c2, c3, c4, c5])) = xs[5]? at h5
    rw [cellsInt] at h0 h1 h2
    rw [cellsU8] at h3
    rw [cellsBool] at h4
    rw [cellsInts] at h5
    have hxl : xs.length = 6 := hxl
    have g : ∀ k, k < 6 → ∃ y, xs[k]? = some y := fun k hk => Option.isSome_iff_exists.1 (by simp; omega)
    obtain ⟨y0, e0⟩ := g 0 (by omega)
    obtain ⟨y1, e1⟩ := g 1 (by omega)
    obtain ⟨y2, e2⟩ := g 2 (by omega)
    obtain ⟨y3, e3⟩ := g 3 (by omega)
    obtain ⟨y4, e4⟩ := g 4 (by omega)
    obtain ⟨y5, e5⟩ := g 5 (by omega)
    rw [e0] at h0
    rw [e1] at h1
    rw [e2] at h2
    rw [e3] at h3
    rw [e4] at h4
    rw [e5] at h5
    obtain ⟨a0, ea0, -, -⟩ := DataW.trod_int Try.underlying3 h0
    obtain ⟨a1, ea1, -, -⟩ := DataW.trod_int Try.underlying3 h1
    obtain ⟨a2, ea2, -, -⟩ := DataW.trod_int Try.underlying3 h2
    obtain ⟨a3, ea3, -, hw3⟩ := DataW.trod_int Try.underlying5 h3
    obtain ⟨a4, ea4, -⟩ := DataW.trod_bool Try.underlying4 h4
    obtain ⟨a5, L, ea5, hL⟩ := ints_in h5
    have rg : 0 ≤ a3 ∧ a3 ≤ 255 := by simp only [Lit.wf, Bool.and_eq_true, decide_eq_true_eq] at hw3; exact hw3
    obtain ⟨c, rfl⟩ := octet_of a3 rg
    simp at ea0 ea1 ea2 ea3 ea4 ea5
    exact ⟨⟨a0, a1, a2, c, a4, a5, L⟩, by rw [ea0, ea1, ea2, ea3, ea4, ea5]; rfl, hL⟩
theorem acts_open {H : Type} {enc : TypeId × Value → H} {W : World} {base : Nat} {held : Bool} {A : Option Addr} {n c : Nat} {dd : DataW H} {p : List MemPlace}
    (h : DataW.Trod enc Try.prog W base (fun _ => true) held 22 (.slice A n c) dd p) : ∃ f, Acts W (.slice A n c) n f := by
  obtain ⟨fuel, h⟩ := h
  rcases Go.Deep.open_slice Try.underlying22 h with ⟨hcs, _⟩ | ⟨a, len, cap, m, k, D, Pl, hcs, _, hl, hm, hmm, _, hi⟩
  · simp [Value.cells] at hcs
    obtain ⟨rfl, rfl, rfl⟩ := hcs
    exact ⟨fun _ => ac0, none, 0, rfl, by omega, by omega, by omega⟩
  · simp [Value.cells] at hcs
    obtain ⟨rfl, rfl, rfl⟩ := hcs
    have hnm : n ≤ m := by rw [hmm]; split <;> omega
    rw [cellsAct] at hi
    obtain ⟨b, o, s⟩ := a
    have hsp : 0 < n → s = none := by
      intro h0
      obtain ⟨cs', hc, ht⟩ := hi 0 (by omega)
      obtain ⟨t, rfl, -⟩ := act_cells ht
      obtain ⟨_, _, hat⟩ := World.cells?_some hc
      have h0 := hat 0 (by omega)
      simp [AcCells] at h0
      simpa [Addr.add] using World.cell?_spot h0
    have hall : ∀ i, ∃ t : Ac, i < n → AcAt W b (o + i * 6) t := by
      intro i
      by_cases hin : i < n
      · obtain ⟨cs', hc, ht⟩ := hi i (by omega)
        obtain ⟨t, rfl, hI⟩ := act_cells ht
        obtain ⟨_, _, hat⟩ := World.cells?_some hc
        have h0 := hat 0 (by omega)
        have h1 := hat 1 (by omega)
        have h2 := hat 2 (by omega)
        have h3 := hat 3 (by omega)
        have h4 := hat 4 (by omega)
        have h5 := hat 5 (by omega)
        obtain rfl := hsp (by omega)
        simp [AcCells] at h0 h1 h2 h3 h4 h5
        simp only [addr_add] at h0 h1 h2 h3 h4 h5
        exact ⟨t, fun _ => ⟨by simpa using h0, h1, h2, h3, h4, h5, hI⟩⟩
      · exact ⟨ac0, fun h => absurd h hin⟩
    obtain ⟨f, hf⟩ := Classical.skolem.1 hall
    exact ⟨f, _, c, rfl, hl, by unfold maxLen at hm; omega, fun h0 => ⟨b, o, by rw [hsp h0], hf⟩⟩
end Go.Proofs.Ytpbmkokjjcdhfaa
