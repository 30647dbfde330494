/- HaymowNames, plain law 1: runes of a text; what a name is. No program in sight. -/
import Derived.Lib.DecodeN
import Derived.Lib.RuneCountTail
set_option linter.unusedSimpArgs false
set_option linter.unusedVariables false
namespace Go.Proofs.YtiiogglflpladaaDoor
/-- the rune at the head of a text, and its width -/
def dec (l : List UInt8) : Nat × Nat := Lib.decodeN l.length (l.getD 0 0).toNat (l.getD 1 0).toNat (l.getD 2 0).toNat (l.getD 3 0).toNat
def Stray (l : List UInt8) : Prop := dec l = (65533, 1)
instance (l : List UInt8) : Decidable (Stray l) := inferInstanceAs (Decidable (_ = _))
def okR (r : Nat) : Bool := decide (32 ≤ r) && decide (r ≠ 127) && decide (r ≠ 47)
/-- a piece: it decodes as one rune, whatever stands behind it -/
def Piece (p : List UInt8) (r : Nat) : Prop := p ≠ [] ∧ (r, p.length) ≠ (65533, 1) ∧ ∀ t, dec (p ++ t) = (r, p.length)
theorem dec_width (l : List UInt8) (h : l ≠ []) : 1 ≤ (dec l).2 ∧ (dec l).2 ≤ 4 ∧ (dec l).2 ≤ l.length := by
  have h1 : 1 ≤ l.length := by cases l with | nil => exact absurd rfl h | cons _ _ => simp
  unfold dec Lib.decodeN
  repeat' split
  all_goals (dsimp only; omega)
theorem dec_local (n b0 b1 b2 b3 : Nat) (hn : 1 ≤ n) (m c1 c2 c3 : Nat) (h : Lib.decodeN n b0 b1 b2 b3 ≠ (65533, 1)) (hm : (Lib.decodeN n b0 b1 b2 b3).2 ≤ m) (h1 : 2 ≤ (Lib.decodeN n b0 b1 b2 b3).2 → c1 = b1) (h2 : 3 ≤ (Lib.decodeN n b0 b1 b2 b3).2 → c2 = b2) (h3 : 4 ≤ (Lib.decodeN n b0 b1 b2 b3).2 → c3 = b3) :
    Lib.decodeN m b0 c1 c2 c3 = Lib.decodeN n b0 b1 b2 b3 := by
  by_cases g1 : b0 < 128
  · simp [Lib.decodeN, g1]
  by_cases g2 : b0 / 32 = 6 ∧ (1 < n ∧ b1 / 64 = 2)
  · have e : Lib.decodeN n b0 b1 b2 b3 = if b0 % 32 * 64 + b1 % 64 ≥ 128 then (b0 % 32 * 64 + b1 % 64, 2) else (65533, 1) := by rw [Lib.decodeN, if_neg g1, if_pos g2]
    rw [e] at h hm h1 h2 h3 ⊢
    by_cases q : b0 % 32 * 64 + b1 % 64 ≥ 128
    · rw [if_pos q] at h hm h1 h2 h3 ⊢
      dsimp only at hm h1
      obtain rfl := h1 (by omega)
      rw [Lib.decodeN, if_neg g1, if_pos (by omega), if_pos q]
    · rw [if_neg q] at h; exact absurd rfl h
  by_cases g3 : b0 / 16 = 14 ∧ (1 < n ∧ b1 / 64 = 2) ∧ (2 < n ∧ b2 / 64 = 2)
  · have e : Lib.decodeN n b0 b1 b2 b3 = (if b0 % 16 * 4096 + b1 % 64 * 64 + b2 % 64 ≥ 2048 ∧ (b0 % 16 * 4096 + b1 % 64 * 64 + b2 % 64 < 55296 ∨ (57344 ≤ b0 % 16 * 4096 + b1 % 64 * 64 + b2 % 64 ∧ b0 % 16 * 4096 + b1 % 64 * 64 + b2 % 64 ≤ 1114111))
     then (b0 % 16 * 4096 + b1 % 64 * 64 + b2 % 64, 3) else (65533, 1)) := by rw [Lib.decodeN, if_neg g1, if_neg g2, if_pos g3]
    rw [e] at h hm h1 h2 h3 ⊢
    split at h
    · rename_i q
      rw [if_pos q] at hm h1 h2 h3 ⊢
      dsimp only at hm h1 h2
      obtain rfl := h1 (by omega)
      obtain rfl := h2 (by omega)
      rw [Lib.decodeN, if_neg g1, if_neg (by omega), if_pos (by omega), if_pos q]
    · exact absurd rfl h
  by_cases g4 : b0 / 8 = 30 ∧ (1 < n ∧ b1 / 64 = 2) ∧ (2 < n ∧ b2 / 64 = 2) ∧ (3 < n ∧ b3 / 64 = 2)
  · have e : Lib.decodeN n b0 b1 b2 b3 = (if b0 % 8 * 262144 + b1 % 64 * 4096 + b2 % 64 * 64 + b3 % 64 ≥ 65536 ∧ (b0 % 8 * 262144 + b1 % 64 * 4096 + b2 % 64 * 64 + b3 % 64 < 55296 ∨ (57344 ≤ b0 % 8 * 262144 + b1 % 64 * 4096 + b2 % 64 * 64 + b3 % 64 ∧ b0 % 8 * 262144 + b1 % 64 * 4096 + b2 % 64 * 64 + b3 % 64 ≤ 1114111))
     then (b0 % 8 * 262144 + b1 % 64 * 4096 + b2 % 64 * 64 + b3 % 64, 4) else (65533, 1)) := by rw [Lib.decodeN, if_neg g1, if_neg g2, if_neg g3, if_pos g4]
    rw [e] at h hm h1 h2 h3 ⊢
    split at h
    · rename_i q
      rw [if_pos q] at hm h1 h2 h3 ⊢
      dsimp only at hm h1 h2 h3
      obtain rfl := h1 (by omega)
      obtain rfl := h2 (by omega)
      obtain rfl := h3 (by omega)
      rw [Lib.decodeN, if_neg g1, if_neg (by omega), if_neg (by omega), if_pos (by omega), if_pos q]
    · exact absurd rfl h
  · exact absurd (by rw [Lib.decodeN, if_neg g1, if_neg g2, if_neg g3, if_neg g4]) h
theorem getD_take_app (l t : List UInt8) (n i : Nat) (hn : n ≤ l.length) (hi : i < n) : ((l.take n) ++ t).getD i 0 = l.getD i 0 := by
  rw [List.getD_eq_getElem?_getD, List.getD_eq_getElem?_getD, List.getElem?_append_left (by rw [List.length_take]; omega), List.getElem?_take, if_pos hi]
/-- what was decoded decodes alike at the head of any text -/
theorem dec_piece (l : List UInt8) (h : l ≠ []) (hs : ¬ Stray l) : Piece (l.take (dec l).2) (dec l).1 := by
  obtain ⟨w1, w4, wl⟩ := dec_width l h
  have hlen : (l.take (dec l).2).length = (dec l).2 := by rw [List.length_take]; omega
  refine ⟨fun e => by rw [e] at hlen; simp at hlen; omega, fun c => hs (by rw [hlen] at c; exact c), fun t => ?_⟩
  have h0 := getD_take_app l t (dec l).2 0 wl (by omega)
  have key := dec_local l.length (l.getD 0 0).toNat (l.getD 1 0).toNat (l.getD 2 0).toNat (l.getD 3 0).toNat (by omega) (l.take (dec l).2 ++ t).length ((l.take (dec l).2 ++ t).getD 1 0).toNat ((l.take (dec l).2 ++ t).getD 2 0).toNat ((l.take (dec l).2 ++ t).getD 3 0).toNat hs
    (by rw [List.length_append, hlen]; exact Nat.le_add_right _ _)
    (fun q => by rw [getD_take_app l t _ 1 wl q]) (fun q => by rw [getD_take_app l t _ 2 wl q]) (fun q => by rw [getD_take_app l t _ 3 wl q])
  rw [hlen]
  show Lib.decodeN _ ((l.take (dec l).2 ++ t).getD 0 0).toNat _ _ _ = _
  rw [h0]
  exact key
/-- a text of k runes that a name may have -/
inductive GP : List UInt8 → Nat → Prop
  | nil : GP [] 0
  | cons (p : List UInt8) (r : Nat) (rest : List UInt8) (k : Nat) : Piece p r → okR r = true → GP rest k → GP (p ++ rest) (k + 1)
theorem GP.snoc {a : List UInt8} {k : Nat} (h : GP a k) {p : List UInt8} {r : Nat} (hp : Piece p r) (hr : okR r = true) : GP (a ++ p) (k + 1) := by
  induction h with
  | nil => simpa using GP.cons p r [] 0 hp hr .nil
  | cons q s rest k hq hs hrest ih => rw [List.append_assoc]; exact .cons q s _ _ hq hs ih
/-- cut's visit: what is left, runes so far, text so far -/
def cutG : Nat → List UInt8 → Nat → List UInt8 → List UInt8
  | 0, _, _, acc => acc
  | f + 1, l, k, acc =>
    if l = [] then acc
    else if Stray l ∨ okR (dec l).1 = false then cutG f (l.drop (dec l).2) k acc
    else if k = 16 ∨ acc.length + (dec l).2 > 24 then acc
    else cutG f (l.drop (dec l).2) (k + 1) (acc ++ l.take (dec l).2)
def cutL (l : List UInt8) : List UInt8 := cutG l.length l 0 []
theorem cut_good : ∀ (f : Nat) (l : List UInt8) (k : Nat) (acc : List UInt8), GP acc k → k ≤ 16 → acc.length ≤ 24 → ∃ k', GP (cutG f l k acc) k' ∧ k' ≤ 16 ∧ (cutG f l k acc).length ≤ 24 := by
  intro f
  induction f with
  | zero => intro l k acc h1 h2 h3; exact ⟨k, h1, h2, h3⟩
  | succ f ih =>
    intro l k acc h1 h2 h3
    rw [cutG]
    split
    · exact ⟨k, h1, h2, h3⟩
    · rename_i hne
      split
      · exact ih _ _ _ h1 h2 h3
      · rename_i hg
        split
        · exact ⟨k, h1, h2, h3⟩
        · rename_i hc
          have hs : ¬ Stray l := fun c => hg (.inl c)
          have hr : okR (dec l).1 = true := by
            cases e : okR (dec l).1 with
            | true => rfl
            | false => exact absurd (.inr e) hg
          refine ih _ _ _ (h1.snoc (dec_piece l hne hs) hr) (by omega) ?_
          rw [List.length_append, List.length_take]; omega
/-- Is's visit: good, and runes -/
def isG : Nat → List UInt8 → Nat → Bool × Nat
  | 0, _, k => (true, k)
  | f + 1, l, k =>
    if l = [] then (true, k)
    else if Stray l ∨ okR (dec l).1 = false then (false, k + 1)
    else isG f (l.drop (dec l).2) (k + 1)
def nameB (l : List UInt8) : Bool := decide (1 ≤ l.length) && decide (l.length ≤ 24) && decide (l ≠ [46]) && decide (l ≠ [46, 46]) && (isG l.length l 0).1 && decide ((isG l.length l 0).2 ≤ 16)
theorem piece_dec {p : List UInt8} {r : Nat} (h : Piece p r) (t : List UInt8) : dec (p ++ t) = (r, p.length) := h.2.2 t
theorem is_good {a : List UInt8} {n : Nat} (h : GP a n) : ∀ (f k : Nat), a.length ≤ f → isG f a k = (true, k + n) := by
  induction h with
  | nil => intro f k _; cases f <;> simp [isG]
  | cons p r rest m hp hr hrest ih =>
    intro f k hf
    rw [List.length_append] at hf
    have hp1 : 1 ≤ p.length := by cases p with | nil => exact absurd rfl hp.1 | cons _ _ => simp
    obtain ⟨f, rfl⟩ : ∃ g, f = g + 1 := ⟨f - 1, by omega⟩
    have hd := piece_dec hp rest
    rw [isG, if_neg (by intro e; have := congrArg List.length e; rw [List.length_append, List.length_nil] at this; omega), if_neg ?_]
    · rw [hd]; dsimp only
      rw [List.drop_left, ih f (k + 1) (by omega)]
      simp only [Prod.mk.injEq, true_and]; omega
    · rw [hd]
      rintro (c | c)
      · unfold Stray at c
        rw [hd] at c
        exact hp.2.1 c
      · dsimp only at c; rw [hr] at c; cases c
/-- a name made of a text -/
def fitL (l : List UInt8) : List UInt8 := if nameB (cutL l) then cutL l else cutL (120 :: cutL l)
theorem cut_name (l : List UInt8) : nameB (cutL l) = true ∨ cutL l = [] ∨ cutL l = [46] ∨ cutL l = [46, 46] := by
  obtain ⟨k, h1, h2, h3⟩ := cut_good l.length l 0 [] .nil (by omega) (by simp)
  have hi : isG (cutL l).length (cutL l) 0 = (true, 0 + k) := is_good h1 (cutL l).length 0 (Nat.le_refl _)
  have h3' : (cutL l).length ≤ 24 := h3
  by_cases e0 : cutL l = []
  · exact .inr (.inl e0)
  by_cases e1 : cutL l = [46]
  · exact .inr (.inr (.inl e1))
  by_cases e2 : cutL l = [46, 46]
  · exact .inr (.inr (.inr e2))
  left
  have hl : 1 ≤ (cutL l).length := by
    cases e : cutL l with
    | nil => exact absurd e e0
    | cons _ _ => simp
  simp only [nameB, hi, Bool.and_eq_true, decide_eq_true_eq]
  exact ⟨⟨⟨⟨⟨hl, h3'⟩, e1⟩, e2⟩, trivial⟩, by omega⟩
theorem fit_name (l : List UInt8) : nameB (fitL l) = true := by
  unfold fitL
  split
  · assumption
  · rename_i hn
    rcases cut_name l with h | h | h | h
    · exact absurd h hn
    · rw [h]; decide +kernel
    · rw [h]; decide +kernel
    · rw [h]; decide +kernel
end Go.Proofs.YtiiogglflpladaaDoor
