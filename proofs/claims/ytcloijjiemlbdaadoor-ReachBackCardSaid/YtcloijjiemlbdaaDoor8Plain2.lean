/- The nodes of the first blocks; those on one block's path; the order of paths: plain, no program in sight. -/
import Derived.Test.YtcloijjiemlbdaaDoor8Nodes
namespace Go.Proofs.YtcloijjiemlbdaaDoor
set_option linter.unusedSimpArgs false
set_option linter.unusedVariables false
open Go.RowKit

/-- the first block of a node -/
def firstB (j : Nat) : Nat := if j = 0 then 6 else if j = 1 then 21 else if j = 2 then 246 else if j < 18 then 21 + 15 * (j - 3) else if j < 33 then 246 + 225 * (j - 18) else 246 + 15 * (j - 33)
/-- is a node on a block's path? -/
def onOne (n j : Nat) : Bool := if n < 6 then false else if n < 21 then j == 0 else if n < 246 then (j == 1 || j == 3 + (n - 21) / 15) else (j == 2 || (j == 18 + (n - 246) / 225 || j == 33 + (n - 246) / 15))
theorem dec_node (j q : Nat) (hj : j < 258) (hq : q < 258) (L : List Int) (h : nodeOf q = L) : nodeOf j = L ↔ j = q := by
  subst h
  exact ⟨fun h => nodeOf_inj j q hj hq h, fun h => by rw [h]⟩
theorem node_7 (x : Nat) (hx : x < 15) : nodeOf (3 + x) = [7, (x : Int)] := by
  rw [nodeOf, if_neg (by omega), if_pos (by omega)]; congr 2; omega
theorem node_8 (x : Nat) (hx : x < 15) : nodeOf (18 + x) = [8, (x : Int)] := by
  rw [nodeOf, if_neg (by omega), if_neg (by omega), if_pos (by omega)]; congr 2; omega
theorem node_88 (x : Nat) (hx : x < 225) : nodeOf (33 + x) = [8, ((x / 15 : Nat) : Int), ((x % 15 : Nat) : Int)] := by
  rw [nodeOf, if_neg (by omega), if_neg (by omega), if_neg (by omega)]; rw [show ((33 + x : Nat) : Int) - 33 = (x : Int) by omega]; congr 2
theorem on_path (n j : Nat) (hn : n < 3621) (hj : j < 258) : onUp (pathOf n) (pathOf n).length j = onOne n j := by
  unfold onOne
  by_cases a : n < 6
  · rw [path_a n a, if_pos a]; simp [onUp, List.range_succ]
  · rw [if_neg a]
    by_cases b : n < 21
    · rw [path_b n (by omega) b, if_pos b]
      have h := dec_node j 0 hj (by omega) [6] rfl
      rw [Bool.eq_iff_iff]
      simp [onUp, List.range_succ, h]
    · rw [if_neg b]
      by_cases c : n < 246
      · rw [path_c n (by omega) c, if_pos c]
        have h1 := dec_node j 1 hj (by omega) [7] rfl
        have h2 := dec_node j (3 + (n - 21) / 15) hj (by omega) _ (node_7 _ (by omega))
        generalize (n - 21) / 15 = x at *
        rw [Bool.eq_iff_iff]
        simp [onUp, List.range_succ, h1, h2]
      · rw [path_d n (by omega), if_neg c]
        have h1 := dec_node j 2 hj (by omega) [8] rfl
        have h2 := dec_node j (18 + (n - 246) / 225) hj (by omega) _ (node_8 _ (by omega))
        have h3 := dec_node j (33 + (n - 246) / 15) hj (by omega) _ (node_88 _ (by omega))
        rw [show (n - 246) / 15 / 15 = (n - 246) / 225 by omega] at h3
        generalize (n - 246) / 225 = x at *
        generalize (n - 246) / 15 % 15 = y at *
        generalize (n - 246) / 15 = z at *
        rw [Bool.eq_iff_iff]
        simp [onUp, List.range_succ, h1, h2, h3]
theorem first_step (m j : Nat) (hm : m < 3621) (hj : j < 258) : (onOne m j || decide (firstB j < m)) = decide (firstB j < m + 1) := by
  have key : onOne m j = true ↔ (onOne m j = true) := Iff.rfl
  have h1 : onOne m j = true → firstB j ≤ m := by
    unfold onOne firstB
    intro h
    split at h
    · cases h
    · split at h
      · simp at h; subst h; simp; omega
      · split at h
        · simp at h; rcases h with h | h
          · subst h; simp; omega
          · rw [if_neg (by omega), if_neg (by omega), if_neg (by omega), if_pos (by omega)]; omega
        · simp at h; rcases h with h | h | h
          · subst h; simp; omega
          · rw [if_neg (by omega), if_neg (by omega), if_neg (by omega), if_neg (by omega), if_pos (by omega)]; omega
          · rw [if_neg (by omega), if_neg (by omega), if_neg (by omega), if_neg (by omega), if_neg (by omega)]; omega
  have h2 : firstB j = m → onOne m j = true := by
    unfold onOne firstB
    rintro rfl
    split
    · simp_all
    · split
      · simp_all
      · split
        · simp_all
        · split
          · rw [if_neg (by omega), if_neg (by omega), if_pos (by omega)]; simp; omega
          · split
            · rw [if_neg (by omega), if_neg (by omega), if_neg (by omega)]; simp; omega
            · rw [if_neg (by omega), if_neg (by omega), if_neg (by omega)]; simp; omega
  rw [Bool.eq_iff_iff]
  simp only [Bool.or_eq_true, decide_eq_true_eq]
  constructor
  · rintro (h | h)
    · have := h1 h; omega
    · omega
  · intro h
    rcases Nat.lt_or_ge (firstB j) m with h' | h'
    · exact .inr h'
    · exact .inl (h2 (by omega))
/-- the first blocks -/
def firsts (m : Nat) : List Int := (List.range m).map Int.ofNat
theorem firsts_succ (m : Nat) : firsts (m + 1) = firsts m ++ [(m : Int)] := by simp [firsts, List.range_succ]
theorem firsts_len (m : Nat) : (firsts m).length = m := by simp [firsts]
theorem firsts_in (m : Nat) (hm : m ≤ 3621) : InAll (firsts m) := by
  intro x hx
  simp [firsts] at hx
  obtain ⟨a, ha, rfl⟩ := hx
  omega
theorem onAll_firsts (m j : Nat) (hm : m ≤ 3621) (hj : j < 258) : onAll (firsts m) j = decide (firstB j < m) := by
  induction m with
  | zero => simp [firsts, onAll]
  | succ m ih =>
    rw [firsts_succ, onAll_snoc, ih (by omega), show ((m : Int)).toNat = m by omega, on_path m j (by omega) hj, first_step m j (by omega) hj]
theorem cnt_low (m : Nat) (hm : m < 256) : ((upTo (onAll (firsts m)) 258).length : Int) = cntF m := by
  rw [upTo_congr _ (fun j => decide (firstB j < m)) 258 fun j hj => onAll_firsts m j (by omega) hj]
  have h : (List.range 256).all (fun m => decide ((((List.range 258).filter fun j => decide (firstB j < m)).length : Int) = cntF m)) = true := by kernel_rfl
  have := List.all_eq_true.1 h m (List.mem_range.2 hm)
  simpa [upTo] using this

/-- the first place where two blocks' paths part -/
theorem path_order (a b : Nat) (hb : b < 3621) (h : a < b) : ∃ k, k < (pathOf a).length ∧ k < (pathOf b).length ∧ (∀ j, j < k → (pathOf a).getD j 0 = (pathOf b).getD j 0) ∧ (pathOf a).getD k 0 < (pathOf b).getD k 0 := by
  by_cases a1 : a < 6
  · refine ⟨0, by rw [path_a a a1]; simp, by have := path_len b; omega, fun j hj => by omega, ?_⟩
    rw [path_a a a1]
    by_cases b1 : b < 6
    · rw [path_a b b1]; simp; omega
    · by_cases b2 : b < 21
      · rw [path_b b (by omega) b2]; simp; omega
      · by_cases b3 : b < 246
        · rw [path_c b (by omega) b3]; simp; omega
        · rw [path_d b (by omega)]; simp; omega
  · by_cases a2 : a < 21
    · by_cases b2 : b < 21
      · refine ⟨1, by rw [path_b a (by omega) a2]; simp, by rw [path_b b (by omega) b2]; simp, fun j hj => ?_, ?_⟩
        · obtain rfl : j = 0 := by omega
          rw [path_b a (by omega) a2, path_b b (by omega) b2]; rfl
        · rw [path_b a (by omega) a2, path_b b (by omega) b2]; simp; omega
      · refine ⟨0, by have := path_len a; omega, by have := path_len b; omega, fun j hj => by omega, ?_⟩
        rw [path_b a (by omega) a2]
        by_cases b3 : b < 246
        · rw [path_c b (by omega) b3]; simp
        · rw [path_d b (by omega)]; simp
    · by_cases a3 : a < 246
      · by_cases b3 : b < 246
        · by_cases e : (a - 21) / 15 = (b - 21) / 15
          · refine ⟨2, by rw [path_c a (by omega) a3]; simp, by rw [path_c b (by omega) b3]; simp, fun j hj => ?_, ?_⟩
            · rw [path_c a (by omega) a3, path_c b (by omega) b3, e]
              rcases (show j = 0 ∨ j = 1 by omega) with rfl | rfl <;> simp
            · rw [path_c a (by omega) a3, path_c b (by omega) b3]; simp; omega
          · refine ⟨1, by rw [path_c a (by omega) a3]; simp, by rw [path_c b (by omega) b3]; simp, fun j hj => ?_, ?_⟩
            · obtain rfl : j = 0 := by omega
              rw [path_c a (by omega) a3, path_c b (by omega) b3]; rfl
            · rw [path_c a (by omega) a3, path_c b (by omega) b3]; simp; omega
        · refine ⟨0, by have := path_len a; omega, by have := path_len b; omega, fun j hj => by omega, ?_⟩
          rw [path_c a (by omega) a3, path_d b (by omega)]; simp
      · by_cases e : (a - 246) / 225 = (b - 246) / 225
        · by_cases e2 : (a - 246) / 15 % 15 = (b - 246) / 15 % 15
          · refine ⟨3, by rw [path_d a (by omega)]; simp, by rw [path_d b (by omega)]; simp, fun j hj => ?_, ?_⟩
            · rw [path_d a (by omega), path_d b (by omega), e, e2]
              rcases (show j = 0 ∨ j = 1 ∨ j = 2 by omega) with rfl | rfl | rfl <;> simp
            · rw [path_d a (by omega), path_d b (by omega)]; simp; omega
          · refine ⟨2, by rw [path_d a (by omega)]; simp, by rw [path_d b (by omega)]; simp, fun j hj => ?_, ?_⟩
            · rw [path_d a (by omega), path_d b (by omega), e]
              rcases (show j = 0 ∨ j = 1 by omega) with rfl | rfl <;> simp
            · rw [path_d a (by omega), path_d b (by omega)]; simp; omega
        · refine ⟨1, by rw [path_d a (by omega)]; simp, by rw [path_d b (by omega)]; simp, fun j hj => ?_, ?_⟩
          · obtain rfl : j = 0 := by omega
            rw [path_d a (by omega), path_d b (by omega)]; simp
          · rw [path_d a (by omega), path_d b (by omega)]; simp; omega

theorem up_nil (f : Nat → Bool) (k : Nat) (h : ∀ j, j < k → f j = false) : upTo f k = [] := by
  induction k with
  | zero => rfl
  | succ k ih => rw [upTo_f f k (h k (by omega)), ih fun j hj => h j (by omega)]
theorem up_step (f : Nat → Bool) (x k : Nat) (hx : x < k) (hf : f x = true) (h : ∀ j, x < j → j < k → f j = false) : upTo f k = upTo f x ++ [(x : Int)] := by
  induction k with
  | zero => omega
  | succ k ih =>
    rcases Nat.lt_or_ge x k with hlt | hge
    · rw [upTo_f f k (h k hlt (by omega)), ih hlt fun j h1 h2 => h j h1 (by omega)]
    · obtain rfl : x = k := by omega
      exact upTo_t f x hf
theorem onAll_sing (n j : Nat) (hn : n < 3621) (hj : j < 258) : onAll [(n : Int)] j = onOne n j := by
  have := onAll_snoc [] n j
  rw [List.nil_append] at this
  rw [this, show ((n : Int)).toNat = n by omega, on_path n j hn hj]; simp [onAll]
/-- the nodes of one block's path, in order: its beginnings -/
theorem back_core (n : Nat) (hn : n < 3621) : (upTo (onAll [(n : Int)]) 258).length + 1 = (pathOf n).length ∧
    ∀ i, 1 ≤ i → i < (pathOf n).length → ∃ x : Nat, x < 258 ∧ numF ((pathOf n).take i) = some (x : Int) ∧ nodeOf x = (pathOf n).take i ∧ (upTo (onAll [(n : Int)]) 258).getD (i - 1) 0 = (x : Int) := by
  rw [upTo_congr _ (onOne n) 258 fun j hj => onAll_sing n j hn hj]
  suffices h : (upTo (onOne n) 258).length + 1 = (pathOf n).length ∧ ∀ i, 1 ≤ i → i < (pathOf n).length → ∃ x : Nat, x < 258 ∧ nodeOf x = (pathOf n).take i ∧ (upTo (onOne n) 258).getD (i - 1) 0 = (x : Int) by
    refine ⟨h.1, fun i h1 h2 => ?_⟩
    obtain ⟨x, hx, hn, hg⟩ := h.2 i h1 h2
    exact ⟨x, hx, (numF_iff _ _).2 ⟨x, hx, hn, rfl⟩, hn, hg⟩
  by_cases a : n < 6
  · rw [up_nil _ _ fun j _ => by simp [onOne, a], path_a n a]
    refine ⟨rfl, fun i h1 h2 => ?_⟩
    simp at h2; omega
  · by_cases b : n < 21
    · have hf : onOne n = fun j => j == 0 := by funext j; rw [onOne, if_neg a, if_pos b]
      rw [hf, up_step _ 0 258 (by omega) rfl (fun j h1 _ => by simp; omega), upTo_zero, path_b n (by omega) b]
      refine ⟨rfl, fun i h1 h2 => ?_⟩
      simp at h2
      obtain rfl : i = 1 := by omega
      exact ⟨0, by omega, rfl, rfl⟩
    · by_cases c : n < 246
      · have hf : onOne n = fun j => (j == 1 || j == 3 + (n - 21) / 15) := by funext j; rw [onOne, if_neg a, if_neg b, if_pos c]
        have hx : (n - 21) / 15 < 15 := by omega
        have h1 : upTo (onOne n) 258 = [1, ((3 + (n - 21) / 15 : Nat) : Int)] := by
          rw [hf, up_step _ (3 + (n - 21) / 15) 258 (by omega) (by simp) (fun j h1 _ => by simp; omega), up_step _ 1 _ (by omega) rfl (fun j h1 h2 => by simp; omega), up_nil _ 1 (fun j h => by simp; omega)]; rfl
        rw [h1, path_c n (by omega) c]
        refine ⟨rfl, fun i h1 h2 => ?_⟩
        simp at h2
        obtain rfl | rfl : i = 1 ∨ i = 2 := by omega
        · exact ⟨1, by omega, rfl, rfl⟩
        · exact ⟨_, by omega, node_7 _ hx, rfl⟩
      · have hf : onOne n = fun j => (j == 2 || (j == 18 + (n - 246) / 225 || j == 33 + (n - 246) / 15)) := by funext j; rw [onOne, if_neg a, if_neg b, if_neg c]
        have hx : (n - 246) / 225 < 15 := by omega
        have hy : (n - 246) / 15 < 225 := by omega
        have h1 : upTo (onOne n) 258 = [2, ((18 + (n - 246) / 225 : Nat) : Int), ((33 + (n - 246) / 15 : Nat) : Int)] := by
          rw [hf, up_step _ (33 + (n - 246) / 15) 258 (by omega) (by simp) (fun j h1 _ => by simp; omega), up_step _ (18 + (n - 246) / 225) _ (by omega) (by simp) (fun j h1 h2 => by simp; omega), up_step _ 2 _ (by omega) rfl (fun j h1 h2 => by simp; omega),
            up_nil _ 2 (fun j h => by simp; omega)]; rfl
        rw [h1, path_d n (by omega)]
        refine ⟨by simp, fun i h1 h2 => ?_⟩
        simp at h2
        obtain rfl | rfl | rfl : i = 1 ∨ i = 2 ∨ i = 3 := by omega
        · exact ⟨2, by omega, rfl, rfl⟩
        · exact ⟨_, by omega, node_8 _ hx, rfl⟩
        · refine ⟨_, by omega, (node_88 _ hy).trans ?_, rfl⟩
          rw [show (n - 246) / 15 / 15 = (n - 246) / 225 by omega]; rfl
end Go.Proofs.YtcloijjiemlbdaaDoor
