/- HaymowNames, plain law 2: entries in order, one more, their octets. No program in sight. -/
import Derived.Test.YtiiogglflpladaaDoorMA
import GoSem.Op.String
namespace Go.Proofs.YtiiogglflpladaaDoor
set_option linter.unusedSimpArgs false
set_option linter.unusedVariables false
/-- an entry of a file -/
structure En where
  name : List UInt8
  ino : Int
abbrev bl (a b : List UInt8) : Bool := Op.bytesLess a b
theorem bl_irrefl : ∀ a, bl a a = false
  | [] => rfl
  | x :: r => by
    have := bl_irrefl r
    simp only [bl] at this
    simp [bl, Op.bytesLess, this]
theorem bl_trans : ∀ a b c, bl a b = true → bl b c = true → bl a c = true
  | a, b, [], _, h => by cases b <;> simp [bl, Op.bytesLess] at h
  | a, [], c :: _, h, _ => by cases a <;> simp [bl, Op.bytesLess] at h
  | [], _ :: _, _ :: _, _, _ => rfl
  | x :: a, y :: b, z :: c, h, k => by
    have ih := bl_trans a b c
    simp only [bl, Op.bytesLess, Bool.or_eq_true, Bool.and_eq_true, decide_eq_true_eq, beq_iff_eq] at h k ih ⊢
    rcases h with h | ⟨rfl, h⟩
    · rcases k with k | ⟨rfl, k⟩
      · exact .inl (UInt8.lt_trans h k)
      · exact .inl h
    · rcases k with k | ⟨rfl, k⟩
      · exact .inl k
      · exact .inr ⟨rfl, ih h k⟩
theorem bl_total : ∀ a b, bl a b = false → a ≠ b → bl b a = true
  | [], [], _, h => absurd rfl h
  | [], _ :: _, h, _ => by simp [bl, Op.bytesLess] at h
  | _ :: _, [], _, _ => rfl
  | x :: a, y :: b, h, hne => by
    have ih := bl_total a b
    simp only [bl, Op.bytesLess, Bool.or_eq_true, Bool.and_eq_true, decide_eq_true_eq, beq_iff_eq, Bool.or_eq_false_iff, decide_eq_false_iff_not, Bool.and_eq_false_iff] at h ih ⊢
    obtain ⟨h1, h2⟩ := h
    by_cases e : x = y
    · subst e
      refine .inr ⟨rfl, ih ?_ fun e => hne (by rw [e])⟩
      rcases h2 with h2 | h2
      · simp at h2
      · exact h2
    · refine .inl ?_
      rcases Nat.lt_or_ge y.toNat x.toNat with h | h
      · exact UInt8.lt_iff_toNat_lt.2 h
      · exact absurd (UInt8.lt_iff_toNat_lt.2 (by have : x.toNat ≠ y.toNat := fun c => e (UInt8.toNat_inj.1 c); omega)) h1
theorem bl_asymm (a b : List UInt8) (h : bl a b = true) : bl b a = false := by
  cases e : bl b a with
  | false => rfl
  | true => have := bl_trans a b a h e; rw [bl_irrefl] at this; cases this
theorem bl_ne (a b : List UInt8) (h : bl a b = true) : a ≠ b := by rintro rfl; rw [bl_irrefl] at h; cases h
/-- what Order says -/
def ordI (a b : List UInt8) : Int := if bl a b then -1 else if a = b then 0 else 1
theorem ordI_lt (a b : List UInt8) : (0 ≤ ordI a b) = (bl a b = false) := by
  unfold ordI
  cases e : bl a b <;> simp
  split <;> omega
structure ValidE (L : List En) : Prop where
  len : L.length ≤ 30
  all : ∀ e ∈ L, nameB e.name = true ∧ 1 ≤ e.ino ∧ e.ino ≤ 39
  ord : L.Pairwise fun a b => bl a.name b.name = true
theorem validE_nil : ValidE [] := ⟨by simp, by simp, .nil⟩
/-- how many come ahead of a name -/
def befN (L : List En) (s : List UInt8) : Nat := (L.filter fun e => bl e.name s).length
def hasN (L : List En) (s : List UInt8) : Bool := L.any fun e => decide (e.name = s)
theorem befN_le (L : List En) (s : List UInt8) : befN L s ≤ L.length := List.length_filter_le _ _
theorem befN_at (L : List En) (s : List UInt8) (k : Nat) (hk : k ≤ L.length) (h1 : ∀ t e, t < k → L[t]? = some e → bl e.name s = true) (h2 : ∀ t e, k ≤ t → L[t]? = some e → bl e.name s = false) : befN L s = k := by
  have e : L.filter (fun e => bl e.name s) = (L.take k).filter (fun e => bl e.name s) ++ (L.drop k).filter (fun e => bl e.name s) := by rw [← List.filter_append, List.take_append_drop]
  have e1 : (L.take k).filter (fun e => bl e.name s) = L.take k := by
    rw [List.filter_eq_self]
    intro p hp
    obtain ⟨t, ht, rfl⟩ := List.getElem_of_mem hp
    have ht' : t < k := by rw [List.length_take] at ht; omega
    exact h1 t _ ht' (by rw [List.getElem_take, List.getElem?_eq_getElem])
  have e2 : (L.drop k).filter (fun e => bl e.name s) = [] := by
    rw [List.filter_eq_nil_iff]
    intro p hp
    obtain ⟨t, ht, rfl⟩ := List.getElem_of_mem hp
    have ht' : k + t < L.length := by rw [List.length_drop] at ht; omega
    have := h2 (k + t) _ (by omega) (List.getElem?_eq_getElem ht')
    rw [List.getElem_drop]; simp [this]
  rw [befN, e, e1, e2]; simp; omega
theorem ValidE.lt {L : List En} (h : ValidE L) {i j : Nat} {a b : En} (hij : i < j) (ha : L[i]? = some a) (hb : L[j]? = some b) : bl a.name b.name = true := by
  obtain ⟨h1, rfl⟩ := List.getElem?_eq_some_iff.1 ha
  obtain ⟨h2, rfl⟩ := List.getElem?_eq_some_iff.1 hb
  exact List.pairwise_iff_getElem.1 h.ord i j h1 h2 hij
/-- in a row in order the names ahead of s stand first -/
theorem ValidE.bef {L : List En} (h : ValidE L) (s : List UInt8) : ∀ (t : Nat) (e : En), L[t]? = some e → (bl e.name s = true ↔ t < befN L s) := by
  -- the first place that is not ahead
  have key : ∃ k, k ≤ L.length ∧ (∀ t e, t < k → L[t]? = some e → bl e.name s = true) ∧ (∀ t e, k ≤ t → L[t]? = some e → bl e.name s = false) := by
    have ord := h.ord
    clear h
    induction L with
    | nil => exact ⟨0, by simp, by simp, by simp⟩
    | cons x r ih =>
      obtain ⟨o1, o2⟩ := List.pairwise_cons.1 ord
      cases hx : bl x.name s with
      | false =>
        refine ⟨0, by simp, by simp, fun t e _ he => ?_⟩
        rcases t with _ | t
        · simp only [List.getElem?_cons_zero, Option.some.injEq] at he; subst he; exact hx
        · rw [List.getElem?_cons_succ] at he
          have := o1 e (List.mem_of_getElem? he)
          cases hy : bl e.name s with
          | false => rfl
          | true => rw [bl_trans _ _ _ this hy] at hx; cases hx
      | true =>
        obtain ⟨k, k1, k2, k3⟩ := ih o2
        refine ⟨k + 1, by simp; omega, fun t e ht he => ?_, fun t e ht he => ?_⟩
        · rcases t with _ | t
          · simp only [List.getElem?_cons_zero, Option.some.injEq] at he; subst he; exact hx
          · rw [List.getElem?_cons_succ] at he; exact k2 t e (by omega) he
        · rcases t with _ | t
          · omega
          · rw [List.getElem?_cons_succ] at he; exact k3 t e (by omega) he
  obtain ⟨k, k1, k2, k3⟩ := key
  intro t e he
  rw [befN_at L s k k1 k2 k3]
  constructor
  · intro hb
    rcases Nat.lt_or_ge t k with h' | h'
    · exact h'
    · rw [k3 t e h' he] at hb; cases hb
  · intro ht; exact k2 t e ht he
/-- whether a name is there, is told by the place at which it would be -/
theorem ValidE.has {L : List En} (h : ValidE L) (s : List UInt8) : hasN L s = true ↔ ∃ e, L[befN L s]? = some e ∧ e.name = s := by
  constructor
  · intro hh
    rw [hasN, List.any_eq_true] at hh
    obtain ⟨e, he, hs⟩ := hh
    have hs : e.name = s := by simpa using hs
    obtain ⟨t, ht, rfl⟩ := List.getElem_of_mem he
    have e1 := List.getElem?_eq_getElem ht
    have n1 : ¬ t < befN L s := by
      rw [← h.bef s t _ e1, hs, bl_irrefl]; simp
    have n2 : ¬ befN L s < t := by
      intro hlt
      have hb : befN L s < L.length := by omega
      have e2 := List.getElem?_eq_getElem hb
      have := h.lt hlt e2 e1
      rw [hs] at this
      have := (h.bef s _ _ e2).1 this
      omega
    have : t = befN L s := by omega
    exact ⟨_, by rw [← this]; exact e1, hs⟩
  · rintro ⟨e, he, hs⟩
    rw [hasN, List.any_eq_true]
    exact ⟨e, List.mem_of_getElem? he, by simpa using hs⟩
/-- one more entry -/
def insE (L : List En) (x : En) : List En := L.take (befN L x.name) ++ [x] ++ L.drop (befN L x.name)
theorem insE_len (L : List En) (x : En) : (insE L x).length = L.length + 1 := by
  have := befN_le L x.name
  simp [insE]; omega
theorem insE_mem (L : List En) (x e : En) : e ∈ insE L x ↔ e = x ∨ e ∈ L := by
  have : e ∈ L ↔ e ∈ L.take (befN L x.name) ∨ e ∈ L.drop (befN L x.name) := by rw [← List.mem_append, List.take_append_drop]
  simp only [insE, List.mem_append, List.mem_singleton, this]
  constructor
  · rintro ((h | h) | h)
    · exact .inr (.inl h)
    · exact .inl h
    · exact .inr (.inr h)
  · rintro (h | h | h)
    · exact .inl (.inr h)
    · exact .inl (.inl h)
    · exact .inr h
theorem ValidE.ins {L : List En} (h : ValidE L) (x : En) (hn : nameB x.name = true) (h1 : 1 ≤ x.ino) (h2 : x.ino ≤ 39) (hl : L.length < 30) (hh : hasN L x.name = false) : ValidE (insE L x) := by
  have hb := h.bef x.name
  refine ⟨by rw [insE_len]; omega, fun e he => ?_, ?_⟩
  · rcases (insE_mem L x e).1 he with rfl | he
    · exact ⟨hn, h1, h2⟩
    · exact h.all e he
  · have o := h.ord
    rw [← List.take_append_drop (befN L x.name) L, List.pairwise_append] at o
    obtain ⟨o1, o2, o3⟩ := o
    have a1 : ∀ e ∈ L.take (befN L x.name), bl e.name x.name = true := by
      intro e he
      obtain ⟨t, ht, rfl⟩ := List.getElem_of_mem he
      rw [List.length_take] at ht
      rw [List.getElem_take]
      exact (hb t _ (List.getElem?_eq_getElem (by omega))).2 (by omega)
    have a2 : ∀ e ∈ L.drop (befN L x.name), bl x.name e.name = true := by
      intro e he
      obtain ⟨t, ht, rfl⟩ := List.getElem_of_mem he
      rw [List.length_drop] at ht
      rw [List.getElem_drop]
      have e1 := List.getElem?_eq_getElem (l := L) (i := befN L x.name + t) (by omega)
      have n1 : bl (L[befN L x.name + t]'(by omega)).name x.name = false := by
        cases c : bl (L[befN L x.name + t]'(by omega)).name x.name with
        | false => rfl
        | true => have := (hb _ _ e1).1 c; omega
      refine bl_total _ _ n1 fun e => ?_
      have : hasN L x.name = true := by
        rw [hasN, List.any_eq_true]
        exact ⟨_, List.mem_of_getElem? e1, by simpa using e⟩
      rw [this] at hh; cases hh
    rw [insE, List.pairwise_append]
    refine ⟨?_, o2, fun a ha b hb => ?_⟩
    · rw [List.pairwise_append]
      refine ⟨o1, by simp, fun a ha b hb => ?_⟩
      rw [List.mem_singleton] at hb; subst hb; exact a1 a ha
    · rcases List.mem_append.1 ha with ha | ha
      · exact o3 a ha b hb
      · rw [List.mem_singleton] at ha; subst ha; exact a2 b hb
theorem hasN_ins (L : List En) (x : En) (s : List UInt8) : hasN (insE L x) s = (decide (x.name = s) || hasN L s) := by
  rw [Bool.eq_iff_iff, Bool.or_eq_true, hasN, hasN, List.any_eq_true, List.any_eq_true]
  constructor
  · rintro ⟨e, he, hs⟩
    rcases (insE_mem L x e).1 he with rfl | he
    · exact .inl hs
    · exact .inr ⟨e, he, hs⟩
  · rintro (h | ⟨e, he, hs⟩)
    · exact ⟨x, (insE_mem L x x).2 (.inl rfl), h⟩
    · exact ⟨e, (insE_mem L x e).2 (.inr he), hs⟩
/-- the octets of entries -/
def enc1 (e : En) : List UInt8 := [UInt8.ofNat e.ino.toNat, 1, UInt8.ofNat e.name.length] ++ e.name
def encL (L : List En) : List UInt8 := L.flatMap enc1
theorem encL_snoc (L : List En) (e : En) : encL (L ++ [e]) = encL L ++ enc1 e := by simp [encL]
theorem enc1_len (e : En) : (enc1 e).length = 3 + e.name.length := by simp [enc1]; omega
theorem nameB_len {l : List UInt8} (h : nameB l = true) : 1 ≤ l.length ∧ l.length ≤ 24 := by
  simp only [nameB, Bool.and_eq_true, decide_eq_true_eq] at h
  exact ⟨h.1.1.1.1.1, h.1.1.1.1.2⟩
theorem encL_le : ∀ (L : List En), (∀ e ∈ L, nameB e.name = true) → (encL L).length ≤ 27 * L.length
  | [], _ => by simp [encL]
  | e :: r, h => by
    have := encL_le r fun x hx => h x (List.mem_cons_of_mem _ hx)
    have h1 := (nameB_len (h e (List.mem_cons_self ..))).2
    rw [show encL (e :: r) = enc1 e ++ encL r from rfl, List.length_append, enc1_len, List.length_cons]
    omega
theorem encL_ins (L : List En) (x : En) : (encL (insE L x)).length = (encL L).length + (enc1 x).length := by
  have e : encL L = encL (L.take (befN L x.name)) ++ encL (L.drop (befN L x.name)) := by
    rw [encL, encL, encL, ← List.flatMap_append, List.take_append_drop]
  rw [e, insE, encL, List.flatMap_append, List.flatMap_append]
  simp only [List.length_append, encL, List.flatMap_cons, List.flatMap_nil, List.append_nil]
  omega
end Go.Proofs.YtiiogglflpladaaDoor
