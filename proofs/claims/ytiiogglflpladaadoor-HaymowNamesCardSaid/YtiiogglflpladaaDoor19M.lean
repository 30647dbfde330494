/- Sparse files in plain Lean: what a file says of each octet, and what is written, cut and read. -/
import Derived.Test.YtiiogglflpladaaDoorKit
namespace Go.Proofs.YtiiogglflpladaaDoor
set_option linter.unusedSimpArgs false
set_option linter.unusedVariables false

structure Pc where
  n : Int
  b : List UInt8
structure Fl where
  size : Int
  L : List Pc

/-- may a file be? -/
structure Valid (f : Fl) : Prop where
  s0 : 0 ≤ f.size
  s1 : f.size ≤ 463488
  ord : f.L.Pairwise (fun p q => p.n < q.n)
  pc : ∀ p ∈ f.L, 0 ≤ p.n ∧ 128 * p.n < f.size ∧ p.b.length = 128 ∧ ∀ k : Nat, k < 128 → f.size ≤ 128 * p.n + k → p.b.getD k 0 = 0
noncomputable def mayB (f : Fl) : Bool := @decide (Valid f) (Classical.propDecidable _)
theorem mayB_iff {f : Fl} : mayB f = true ↔ Valid f := by unfold mayB; exact @decide_eq_true_iff _ (Classical.propDecidable _)
theorem mayB_t {f : Fl} (h : Valid f) : mayB f = true := mayB_iff.2 h
theorem mayB_f {f : Fl} (h : ¬ Valid f) : mayB f = false := by
  cases e : mayB f with
  | true => exact absurd (mayB_iff.1 e) h
  | false => rfl

/-- which block is there, if any -/
def findL (L : List Pc) (i : Int) : Option Pc := L.find? (fun p => decide (p.n = i))
def octL (L : List Pc) (k : Nat) : UInt8 := match findL L ((k / 128 : Nat) : Int) with
  | some p => p.b.getD (k % 128) 0
  | none => 0
def hasL (L : List Pc) (i : Nat) : Bool := (findL L (i : Int)).isSome

def ltL (L : List Pc) (n : Int) : List Pc := L.filter (fun p => decide (p.n < n))
def geL (L : List Pc) (n : Int) : List Pc := L.filter (fun p => decide (n ≤ p.n))
abbrev Srt (L : List Pc) : Prop := L.Pairwise (fun p q => p.n < q.n)
theorem split_lt {L : List Pc} (h : Srt L) (n : Int) : L.take (ltL L n).length = ltL L n ∧ L.drop (ltL L n).length = geL L n := by
  induction L with
  | nil => exact ⟨rfl, rfl⟩
  | cons p r ih =>
    rw [Srt, List.pairwise_cons] at h
    obtain ⟨h1, h2⟩ := h
    obtain ⟨i1, i2⟩ := ih h2
    by_cases hp : p.n < n
    · have e : ltL (p :: r) n = p :: ltL r n := by simp [ltL, List.filter_cons, hp]
      have e2 : geL (p :: r) n = geL r n := by simp [geL, List.filter_cons, show ¬ n ≤ p.n by omega]
      rw [e, e2, List.length_cons, List.take_succ_cons, List.drop_succ_cons, i1, i2]
      exact ⟨rfl, rfl⟩
    · have e : ltL (p :: r) n = [] := by
        rw [ltL, List.filter_eq_nil_iff]
        intro q hq
        rcases List.mem_cons.1 hq with rfl | hq
        · simpa using hp
        · have := h1 q hq; simp; omega
      have e2 : geL (p :: r) n = p :: r := by
        rw [geL, List.filter_eq_self]
        intro q hq
        rcases List.mem_cons.1 hq with rfl | hq
        · simp; omega
        · have := h1 q hq; simp; omega
      rw [e, e2]; exact ⟨rfl, rfl⟩
theorem srt_filter {L : List Pc} (h : Srt L) (q : Pc → Bool) : Srt (L.filter q) := h.filter q
theorem find_unique {L : List Pc} (h : Srt L) {p : Pc} (hp : p ∈ L) : findL L p.n = some p := by
  induction L with
  | nil => cases hp
  | cons a r ih =>
    rw [Srt, List.pairwise_cons] at h
    rcases List.mem_cons.1 hp with rfl | hp
    · simp [findL]
    · have h1 := h.1 p hp
      have := ih h.2 hp
      rw [findL, List.find?_cons_of_neg (by simp; omega)]; exact this
theorem find_some {L : List Pc} {i : Int} {p : Pc} (h : findL L i = some p) : p ∈ L ∧ p.n = i := by
  refine ⟨List.mem_of_find?_eq_some h, ?_⟩
  have := List.find?_some h; simpa using this
theorem find_none {L : List Pc} {i : Int} (h : findL L i = none) : ∀ p ∈ L, p.n ≠ i := by
  intro p hp e
  have := List.find?_eq_none.1 h p hp
  simp [e] at this
theorem find_app (A B : List Pc) (i : Int) : findL (A ++ B) i = (findL A i).or (findL B i) := by simp [findL, List.find?_append]
theorem find_lt (L : List Pc) (n i : Int) : findL (ltL L n) i = if i < n then findL L i else none := by
  induction L with
  | nil => simp [findL, ltL]
  | cons a r ih =>
    by_cases h1 : a.n < n
    · rw [ltL, List.filter_cons_of_pos (by simpa using h1), findL]
      by_cases h2 : a.n = i
      · rw [List.find?_cons_of_pos (by simpa using h2), if_pos (by omega), findL, List.find?_cons_of_pos (by simpa using h2)]
      · rw [List.find?_cons_of_neg (by simpa using h2)]
        rw [show findL (a :: r) i = findL r i from List.find?_cons_of_neg (by simpa using h2)]
        exact ih
    · rw [ltL, List.filter_cons_of_neg (by simpa using h1)]
      refine Eq.trans ih ?_
      by_cases h3 : i < n
      · rw [if_pos h3, if_pos h3, show findL (a :: r) i = findL r i from List.find?_cons_of_neg (by simp; omega)]
      · rw [if_neg h3, if_neg h3]
theorem find_ge (L : List Pc) (n i : Int) : findL (geL L n) i = if n ≤ i then findL L i else none := by
  induction L with
  | nil => simp [findL, geL]
  | cons a r ih =>
    by_cases h1 : n ≤ a.n
    · rw [geL, List.filter_cons_of_pos (by simpa using h1), findL]
      by_cases h2 : a.n = i
      · rw [List.find?_cons_of_pos (by simpa using h2), if_pos (by omega), findL, List.find?_cons_of_pos (by simpa using h2)]
      · rw [List.find?_cons_of_neg (by simpa using h2)]
        rw [show findL (a :: r) i = findL r i from List.find?_cons_of_neg (by simpa using h2)]
        exact ih
    · rw [geL, List.filter_cons_of_neg (by simpa using h1)]
      refine Eq.trans ih ?_
      by_cases h3 : n ≤ i
      · rw [if_pos h3, if_pos h3, show findL (a :: r) i = findL r i from List.find?_cons_of_neg (by simp; omega)]
      · rw [if_neg h3, if_neg h3]

/-- a block's octets, 128 of them -/
def pad (l : List UInt8) : List UInt8 := l.take 128 ++ List.replicate (128 - l.length) 0
theorem pad_len (l : List UInt8) : (pad l).length = 128 := by simp [pad]; omega
theorem pad_at (l : List UInt8) (k : Nat) (hk : k < 128) : (pad l).getD k 0 = l.getD k 0 := by
  rw [pad, List.getD_eq_getElem?_getD, List.getD_eq_getElem?_getD]
  by_cases h : k < l.length
  · rw [List.getElem?_append_left (by simp; omega), List.getElem?_take, if_pos hk]
  · rw [List.getElem?_append_right (by simp; omega), List.getElem?_replicate, List.getElem?_eq_none (show l.length ≤ k by omega)]
    split <;> rfl
theorem pad_id {l : List UInt8} (h : l.length = 128) : pad l = l := by
  rw [pad, List.take_of_length_le (by omega), h]; simp
/-- octets laid over others from a place on -/
def over (l : List UInt8) (o : Nat) (c : List UInt8) : List UInt8 := l.take o ++ c ++ l.drop (o + c.length)
theorem over_len (l : List UInt8) (o : Nat) (c : List UInt8) (h : o + c.length ≤ l.length) : (over l o c).length = l.length := by simp [over]; omega
theorem over_at (l : List UInt8) (o : Nat) (c : List UInt8) (h : o + c.length ≤ l.length) (k : Nat) : (over l o c).getD k 0 = if o ≤ k ∧ k < o + c.length then c.getD (k - o) 0 else l.getD k 0 := by
  rw [over, List.getD_eq_getElem?_getD, List.getD_eq_getElem?_getD, List.getD_eq_getElem?_getD, List.append_assoc]
  by_cases h1 : k < o
  · rw [if_neg (by omega), List.getElem?_append_left (by simp; omega), List.getElem?_take, if_pos h1]
  · rw [List.getElem?_append_right (by simp; omega), List.length_take, Nat.min_eq_left (by omega)]
    by_cases h2 : k < o + c.length
    · rw [if_pos (by omega), List.getElem?_append_left (by omega)]
    · rw [if_neg (by omega), List.getElem?_append_right (by omega), List.getElem?_drop, show o + c.length + (k - o - c.length) = k by omega]

/-- the block that a write makes of a block -/
def mkB (old : List UInt8) (s : Int) (off : Int) (b : List UInt8) : List UInt8 :=
  over (pad old) (max (off - s) 0).toNat ((b.drop (max (s - off) 0).toNat).take (128 - (max (off - s) 0).toNat))
def oldL (L : List Pc) (n : Int) : List UInt8 := match findL L n with
  | some p => p.b
  | none => []
def mkP (L : List Pc) (off : Int) (b : List UInt8) (n : Int) : Pc := ⟨n, mkB (oldL L n) (n * 128) off b⟩
/-- numbers from one on, so many -/
def runL (a : Int) (k : Nat) : List Int := (List.range k).map (fun i : Nat => a + (i : Int))
def midL (L : List Pc) (off : Int) (b : List UInt8) (a : Int) (k : Nat) : List Pc := (runL a k).map (mkP L off b)
def wrF (f : Fl) (off : Int) (b : List UInt8) : Fl :=
  if b = [] then f else ⟨max f.size (off + b.length), ltL f.L (off / 128) ++ midL f.L off b (off / 128) ((off + b.length - 1) / 128 - off / 128 + 1).toNat ++ geL f.L ((off + b.length - 1) / 128 + 1)⟩
def wrL (off : Int) (b : List UInt8) : List Int := if b = [] then [] else runL (off / 128) ((off + b.length - 1) / 128 - off / 128 + 1).toNat
theorem mkB_len (old : List UInt8) (s off : Int) (b : List UInt8) (h : off - s ≤ 128) : (mkB old s off b).length = 128 := by
  rw [mkB, over_len, pad_len]
  rw [pad_len, List.length_take]; omega
theorem mkB_at (old : List UInt8) (s off : Int) (b : List UInt8) (h : off - s ≤ 128) (hs : s < off + b.length) (k : Nat) (hk : k < 128) :
    (mkB old s off b).getD k 0 = if off ≤ s + k ∧ s + k < off + b.length then b.getD (s + k - off).toNat 0 else old.getD k 0 := by
  rw [mkB, over_at _ _ _ (by rw [pad_len, List.length_take]; omega), List.length_take, List.length_drop]
  by_cases e : off ≤ s + k ∧ s + k < off + b.length
  · rw [if_pos (by omega), if_pos e, List.getD_eq_getElem?_getD, List.getElem?_take, if_pos (by omega), List.getElem?_drop, ← List.getD_eq_getElem?_getD]
    congr 1
    omega
  · rw [if_neg (by omega), if_neg e, pad_at _ _ hk]
theorem run_find (g : Int → Pc) (hg : ∀ n, (g n).n = n) (a : Int) (k : Nat) (i : Int) : findL ((runL a k).map g) i = if a ≤ i ∧ i < a + k then some (g i) else none := by
  induction k with
  | zero => rw [if_neg (by omega)]; rfl
  | succ k ih =>
    have e : runL a (k + 1) = runL a k ++ [a + (k : Int)] := by simp [runL, List.range_succ]
    rw [e, List.map_append, find_app, ih]
    by_cases h1 : a ≤ i ∧ i < a + k
    · rw [if_pos h1, if_pos (by omega)]; rfl
    · rw [if_neg h1]
      by_cases h2 : i = a + k
      · subst h2
        rw [if_pos (by omega)]; simp [findL, hg]
      · rw [if_neg (by omega)]
        simp [findL, hg]; omega
theorem run_mem {a : Int} {k : Nat} {x : Int} : x ∈ runL a k ↔ a ≤ x ∧ x < a + k := by
  simp only [runL, List.mem_map, List.mem_range]
  constructor
  · rintro ⟨i, h, rfl⟩; omega
  · intro h; exact ⟨(x - a).toNat, by omega, by omega⟩
theorem run_srt (a : Int) (k : Nat) : (runL a k).Pairwise (· < ·) := by
  rw [runL, List.pairwise_map]
  exact List.pairwise_lt_range.imp (by intro i j h; omega)
section
variable {f : Fl}
theorem wr_size (f : Fl) (off : Int) (b : List UInt8) (hb : b ≠ []) : (wrF f off b).size = max f.size (off + b.length) := by rw [wrF, if_neg hb]
theorem wr_find (f : Fl) (off : Int) (b : List UInt8) (hb : b ≠ []) (h0 : 0 ≤ off) (i : Int) :
    findL (wrF f off b).L i = if off / 128 ≤ i ∧ i ≤ (off + b.length - 1) / 128 then some (mkP f.L off b i) else findL f.L i := by
  have hl : 0 < b.length := List.length_pos_iff.2 hb
  rw [wrF, if_neg hb]
  show findL (_ ++ _ ++ _) i = _
  rw [find_app, find_app, find_lt, find_ge, midL, run_find _ (fun n => rfl)]
  by_cases h1 : i < off / 128
  · rw [if_pos h1, if_neg (by omega), if_neg (by omega), if_neg (by omega)]; simp
  · by_cases h2 : i ≤ (off + b.length - 1) / 128
    · rw [if_neg h1, if_pos (by omega), if_neg (by omega), if_pos (by omega)]; rfl
    · rw [if_neg h1, if_neg (by omega), if_pos (by omega), if_neg (by omega)]; rfl
theorem wr_valid (hf : Valid f) (off : Int) (b : List UInt8) (h0 : 0 ≤ off) (h1 : off + b.length ≤ 463488) : Valid (wrF f off b) := by
  by_cases hb : b = []
  · rw [wrF, if_pos hb]; exact hf
  have hl : 0 < b.length := List.length_pos_iff.2 hb
  have hs := hf.s0; have hs1 := hf.s1
  rw [wrF, if_neg hb]
  refine ⟨by dsimp only; omega, by dsimp only; omega, ?_, ?_⟩
  · dsimp only
    rw [List.pairwise_append, List.pairwise_append]
    refine ⟨⟨srt_filter hf.ord _, ?_, ?_⟩, srt_filter hf.ord _, ?_⟩
    · rw [midL, List.pairwise_map]; exact run_srt _ _
    · intro p hp q hq
      obtain ⟨x, hx, rfl⟩ := List.mem_map.1 hq
      have h1 := run_mem.1 hx
      have h2 := (List.mem_filter.1 hp).2
      simp at h2
      show p.n < x
      omega
    · intro p hp q hq
      have h2 := (List.mem_filter.1 hq).2
      simp at h2
      rcases List.mem_append.1 hp with hp | hp
      · have h3 := (List.mem_filter.1 hp).2
        simp at h3
        omega
      · obtain ⟨x, hx, rfl⟩ := List.mem_map.1 hp
        have h1 := run_mem.1 hx
        show x < q.n
        omega
  · dsimp only
    intro p hp
    have old : p ∈ f.L → 0 ≤ p.n ∧ 128 * p.n < max f.size (off + b.length) ∧ p.b.length = 128 ∧ ∀ k : Nat, k < 128 → max f.size (off + b.length) ≤ 128 * p.n + k → p.b.getD k 0 = 0 := fun hp => by
      obtain ⟨a1, a2, a3, a4⟩ := hf.pc p hp
      exact ⟨a1, by omega, a3, fun k hk hh => a4 k hk (by omega)⟩
    rcases List.mem_append.1 hp with hp | hp
    · rcases List.mem_append.1 hp with hp | hp
      · exact old (List.mem_filter.1 hp).1
      · obtain ⟨x, hx, rfl⟩ := List.mem_map.1 hp
        have hx := run_mem.1 hx
        refine ⟨by show 0 ≤ x; omega, by show 128 * x < _; omega, mkB_len _ _ _ _ (by omega), fun k hk hh => ?_⟩
        have hh : max f.size (off + b.length) ≤ 128 * x + k := hh
        show (mkB _ _ _ _).getD k 0 = 0
        rw [mkB_at _ _ _ _ (by omega) (by omega) k hk, if_neg (by omega)]
        unfold oldL
        split
        · rename_i p' hp'
          obtain ⟨m1, m2⟩ := find_some hp'
          exact (hf.pc p' m1).2.2.2 k hk (by omega)
        · rfl
    · exact old (List.mem_filter.1 hp).1
theorem oct_of (L : List Pc) (i k : Nat) (hk : k < 128) : octL L (i * 128 + k) = (oldL L (i : Int)).getD k 0 := by
  rw [octL, show (i * 128 + k) / 128 = i by omega, show (i * 128 + k) % 128 = k by omega, oldL]
  cases findL L (i : Int) <;> rfl
theorem wr_has (f : Fl) (off : Nat) (b : List UInt8) (hb : b ≠ []) (i : Nat) : hasL (wrF f off b).L i = (hasL f.L i || (decide (off / 128 ≤ i) && decide (i ≤ (off + b.length - 1) / 128))) := by
  have hl : 0 < b.length := List.length_pos_iff.2 hb
  rw [hasL, wr_find f off b hb (by omega)]
  by_cases h : off / 128 ≤ i ∧ i ≤ (off + b.length - 1) / 128
  · rw [if_pos (by omega)]; simp [h]
  · rw [if_neg (by omega), hasL]
    by_cases h1 : off / 128 ≤ i
    · have h2 : ¬ i ≤ (off + b.length - 1) / 128 := fun e => h ⟨h1, e⟩
      simp [h2]
    · simp [h1]
theorem wr_oct (f : Fl) (off : Nat) (b : List UInt8) (hb : b ≠ []) (j : Nat) : octL (wrF f off b).L j = if off ≤ j ∧ j < off + b.length then b.getD (j - off) 0 else octL f.L j := by
  have hl : 0 < b.length := List.length_pos_iff.2 hb
  obtain ⟨i, k, rfl, hk⟩ : ∃ i k, j = i * 128 + k ∧ k < 128 := ⟨j / 128, j % 128, by omega, by omega⟩
  rw [oct_of _ _ _ hk, oct_of _ _ _ hk]
  have e : oldL (wrF f off b).L (i : Int) = if (off : Int) / 128 ≤ i ∧ (i : Int) ≤ ((off : Int) + b.length - 1) / 128 then mkB (oldL f.L i) (i * 128) off b else oldL f.L i := by
    rw [oldL, wr_find f off b hb (by omega)]
    by_cases h : (off : Int) / 128 ≤ i ∧ (i : Int) ≤ ((off : Int) + b.length - 1) / 128
    · rw [if_pos h, if_pos h]; rfl
    · rw [if_neg h, if_neg h]; rfl
  rw [e]
  by_cases h : (off : Int) / 128 ≤ i ∧ (i : Int) ≤ ((off : Int) + b.length - 1) / 128
  · rw [if_pos h, mkB_at _ _ _ _ (by omega) (by omega) k hk]
    by_cases h2 : off ≤ i * 128 + k ∧ i * 128 + k < off + b.length
    · rw [if_pos (by omega), if_pos h2]; congr 1; omega
    · rw [if_neg (by omega), if_neg h2]
  · rw [if_neg h, if_neg (by omega)]
end

/-- a file cut, or made longer -/
def cutP (size : Int) (p : Pc) : Pc := if p.n = size / 128 ∧ size % 128 ≠ 0 then ⟨p.n, p.b.take (size % 128).toNat ++ List.replicate (128 - (size % 128).toNat) 0⟩ else p
def needI (size : Int) : Int := if size ≤ 0 then 0 else (size - 1) / 128 + 1
def cutF (f : Fl) (size : Int) : Fl := ⟨size, if f.size ≤ size ∨ size % 128 = 0 then ltL f.L (needI size) else (ltL f.L (needI size)).map (cutP size)⟩
def cutW (f : Fl) (size : Int) : List Int := if f.size ≤ size ∨ size % 128 = 0 then [] else if (findL f.L (size / 128)).isSome then [size / 128] else []
theorem cutP_n (size : Int) (p : Pc) : (cutP size p).n = p.n := by unfold cutP; split <;> rfl
theorem find_map (g : Pc → Pc) (hg : ∀ p, (g p).n = p.n) (L : List Pc) (i : Int) : findL (L.map g) i = (findL L i).map g := by
  induction L with
  | nil => rfl
  | cons a r ih =>
    rw [List.map_cons]
    by_cases h : a.n = i
    · rw [findL, List.find?_cons_of_pos (by simp [hg, h]), findL, List.find?_cons_of_pos (by simp [h])]; rfl
    · rw [show findL (g a :: r.map g) i = findL (r.map g) i from List.find?_cons_of_neg (by simp [hg, h]), show findL (a :: r) i = findL r i from List.find?_cons_of_neg (by simp [h])]
      exact ih
theorem needI_lt {size n : Int} (h : n < needI size) (h0 : 0 ≤ n) : 128 * n < size := by
  unfold needI at h; split at h <;> omega
section
variable {f : Fl}
theorem cut_valid (hf : Valid f) (size : Int) (h0 : 0 ≤ size) (h1 : size ≤ 463488) : Valid (cutF f size) := by
  by_cases hc : f.size ≤ size ∨ size % 128 = 0
  · rw [cutF, if_pos hc]
    refine ⟨h0, h1, srt_filter hf.ord _, fun p hp => ?_⟩
    obtain ⟨m1, m2⟩ := List.mem_filter.1 hp
    simp only [decide_eq_true_eq] at m2
    obtain ⟨a1, a2, a3, a4⟩ := hf.pc p m1
    have m3 := needI_lt m2 a1
    dsimp only
    exact ⟨a1, m3, a3, fun k hk hh => a4 k hk (by omega)⟩
  · rw [cutF, if_neg hc]
    refine ⟨h0, h1, ?_, fun p hp => ?_⟩
    · dsimp only
      rw [List.pairwise_map]
      refine (srt_filter hf.ord _).imp ?_
      intro p q h; rw [cutP_n, cutP_n]; exact h
    · obtain ⟨q, hq, rfl⟩ := List.mem_map.1 hp
      obtain ⟨m1, m2⟩ := List.mem_filter.1 hq
      simp only [decide_eq_true_eq] at m2
      obtain ⟨a1, a2, a3, a4⟩ := hf.pc q m1
      have m3 := needI_lt m2 a1
      dsimp only
      rw [cutP_n] at *
      refine ⟨a1, m3, ?_, fun k hk hh => ?_⟩
      · unfold cutP
        split
        · simp; omega
        · exact a3
      · unfold cutP
        split
        · dsimp only
          rw [List.getD_eq_getElem?_getD, List.getElem?_append_right (by rw [List.length_take]; omega), List.getElem?_replicate]
          split <;> rfl
        · rename_i hne
          exfalso
          omega
theorem cut_has (hf : Valid f) (size : Int) (h0 : 0 ≤ size) (i : Nat) : hasL (cutF f size).L i = (hasL f.L i && decide ((i : Int) < needI size)) := by
  have e : (findL (cutF f size).L (i : Int)).isSome = (findL (ltL f.L (needI size)) (i : Int)).isSome := by
    by_cases hc : f.size ≤ size ∨ size % 128 = 0
    · rw [cutF, if_pos hc]
    · rw [cutF, if_neg hc]
      show (findL (List.map _ _) _).isSome = _
      rw [find_map _ (cutP_n size)]; simp
  rw [hasL, e, find_lt, hasL]
  by_cases h : (i : Int) < needI size
  · rw [if_pos h]; simp [h]
  · rw [if_neg h]; simp [h]
theorem cut_oct (hf : Valid f) (size : Nat) (j : Nat) : octL (cutF f size).L j = if j < size then octL f.L j else 0 := by
  obtain ⟨i, k, rfl, hk⟩ : ∃ i k, j = i * 128 + k ∧ k < 128 := ⟨j / 128, j % 128, by omega, by omega⟩
  rw [oct_of _ _ _ hk, oct_of _ _ _ hk]
  have hz : f.size ≤ size → ¬ i * 128 + k < size → (oldL f.L i).getD k 0 = 0 := fun hs hn => by
    unfold oldL
    split
    · rename_i p hp
      obtain ⟨m1, m2⟩ := find_some hp
      exact (hf.pc p m1).2.2.2 k hk (by omega)
    · rfl
  have hn : needI (size : Int) = ((size + 127) / 128 : Nat) := by unfold needI; split <;> omega
  by_cases hc : f.size ≤ size ∨ (size : Int) % 128 = 0
  · rw [cutF, if_pos hc]
    show (oldL (ltL _ _) _).getD k 0 = _
    rw [oldL, find_lt, hn]
    by_cases h1 : i < (size + 127) / 128
    · rw [if_pos (by omega)]
      show (oldL f.L i).getD k 0 = _
      by_cases h2 : i * 128 + k < size
      · rw [if_pos h2]
      · rw [if_neg h2]
        refine hz ?_ h2
        omega
    · rw [if_neg (by omega), if_neg (by omega)]; rfl
  · rw [cutF, if_neg hc]
    show (oldL (List.map _ (ltL _ _)) _).getD k 0 = _
    rw [oldL, find_map _ (cutP_n _), find_lt, hn]
    by_cases h1 : i < (size + 127) / 128
    · rw [if_pos (by omega), oldL]
      cases hp : findL f.L (i : Int) with
      | none => simp
      | some p =>
        obtain ⟨m1, m2⟩ := find_some hp
        show (cutP _ p).b.getD k 0 = _
        unfold cutP
        by_cases h3 : p.n = (size : Int) / 128 ∧ (size : Int) % 128 ≠ 0
        · rw [if_pos h3]
          have h4 := (hf.pc p m1).2.2.1
          dsimp only
          by_cases h2 : i * 128 + k < size
          · rw [if_pos h2, List.getD_eq_getElem?_getD, List.getElem?_append_left (by rw [List.length_take]; omega), List.getElem?_take, if_pos (by omega), ← List.getD_eq_getElem?_getD]
          · rw [if_neg h2, List.getD_eq_getElem?_getD, List.getElem?_append_right (by rw [List.length_take]; omega), List.getElem?_replicate]
            split <;> rfl
        · rw [if_neg h3, if_pos (by omega)]
    · rw [if_neg (by omega), if_neg (by omega)]; rfl
end
end Go.Proofs.YtiiogglflpladaaDoor
