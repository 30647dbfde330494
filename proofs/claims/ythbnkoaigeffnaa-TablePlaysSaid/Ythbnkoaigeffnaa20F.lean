/- Scripts that came in; two structs compared; what a step does to the counts. -/
import Derived.Test.Ythbnkoaigeffnaa20E
import Derived.Laws.StructEq
namespace Go.Proofs.Ythbnkoaigeffnaa
set_option linter.unusedSimpArgs false
set_option linter.unusedVariables false
open Go.RowKit

/-- the slice value v reads as n steps -/
def Acts (w : World) (A : Option Addr) (n c : Nat) (d x m : Nat → Int) : Prop :=
  n ≤ c ∧ c ≤ 9223372036854775807 ∧ (0 < n → ∃ b o, A = some ⟨b, o, none⟩ ∧ ∀ i, i < n →
    w.cell? ⟨b, o + i * 3, none⟩ = some (.int .i64 (d i)) ∧ w.cell? ⟨b, o + i * 3 + 1, none⟩ = some (.int .i64 (x i)) ∧ w.cell? ⟨b, o + i * 3 + 2, none⟩ = some (.int .i64 (m i)))

theorem fd_fields : Try.prog.underlying 33 = some (.struct (Try.prog.fieldsOf 33)) := by kernel_rfl
theorem neq_fd (i m p : Int) (W : World) : (Go.binOp .neq 33 (.agg #[.int .i64 i, .int .i64 m, .int .i64 p]) (.agg #[.int .i64 i, .int .i64 m, .int .i64 p])).run Try.prog W = .ok (.bool false) W := by
  have hp : Try.prog.stoodInHeld 33 = false := by kernel_rfl
  rw [run_neq_struct, show (10000 : Nat) = 9999 + 1 from rfl, run_equalIn_agg W 9999 33 _ _ fd_fields hp]
  have hf : (Try.prog.fieldsOf 33).toList.map (fun f => (f.name, f.type, f.offset)) = [("Ino", 3, 0), ("Mode", 3, 1), ("Pos", 3, 2)] := by kernel_rfl
  generalize (Try.prog.fieldsOf 33).toList = l at hf
  rcases l with _ | ⟨f0, _ | ⟨f1, _ | ⟨f2, _ | ⟨f3, l⟩⟩⟩⟩
  · simp at hf
  · simp at hf
  · simp at hf
  · simp only [List.map_cons, List.map_nil, List.cons.injEq, Prod.mk.injEq, and_true] at hf
    obtain ⟨⟨a1, a2, a3⟩, ⟨b1, b2, b3⟩, c1, c2, c3⟩ := hf
    have pt : ∀ (xs : Array Value) (k : Nat) (v : Value), xs[k]? = some v → (part 3 xs k).run Try.prog W = .ok v W := fun xs k v h => by simp [part, isAgg, run_underlying Try.underlying3, h]
    simp only [Op.eqFields, a1, a2, a3, b1, b2, b3, c1, c2, c3]
    simp [pt _ 0 (.int .i64 i), pt _ 1 (.int .i64 m), pt _ 2 (.int .i64 p), run_equalIn_int W 9998 3 .i64 .i64 _ _ Try.underlying3]
  · simp at hf
theorem neq_fd_guard (xs ys : Array Value) (x y : Operand) (W : World) : (eqGuard .neq 33 x y (.agg xs) (.agg ys)).run Try.prog W = .ok () W :=
  run_eqGuard_agg W .neq 33 x y xs ys (by kernel_rfl)

/-- open descriptors of the inodes 1 .. n - 1 -/
def sumTo (S : Tb) (k : Nat) : Nat → Nat
  | 0 => 0
  | n + 1 => sumTo S k n + (if n = 0 then 0 else cntTo S n k)
theorem sum_zero (S : Tb) (n : Nat) : sumTo S 0 n = 0 := by
  induction n with
  | zero => rfl
  | succ n ih => simp [sumTo, ih, cntTo]
theorem sum_step (S : Tb) (k n : Nat) (hi : (S k).up = true → 1 ≤ (S k).ino) : sumTo S (k + 1) n = sumTo S k n + if (S k).up = true ∧ (S k).ino < n then 1 else 0 := by
  induction n with
  | zero =>
    rw [if_neg]
    · rfl
    · rintro ⟨h1, h2⟩; have := hi h1; omega
  | succ n ih =>
    rw [sumTo, ih, sumTo]
    cases hu : (S k).up with
    | true =>
      have h1 := hi hu
      simp only [true_and]
      by_cases hn : (S k).ino = n
      · rw [cnt_t S n k hu hn]
        split <;> split <;> split <;> omega
      · rw [cnt_f S n k (.inr hn)]
        split <;> split <;> split <;> omega
    | false =>
      rw [cnt_f S n k (.inl hu)]
      simp
theorem sum_all (S : Tb) (hok : Ok S) (k : Nat) (hk : k ≤ 8) : sumTo S k 40 = (upsTo S k).length := by
  induction k with
  | zero => rw [sum_zero]; rfl
  | succ k ih =>
    have h := Sl.ok_ino (hok k (by omega))
    rw [sum_step S k 40 (fun hu => by have : ¬ (S k).ino = 0 := fun e => by rw [h.1.1 e] at hu; cases hu
                                      omega), ih (by omega)]
    cases hu : (S k).up with
    | true => rw [ups_t S k hu, if_pos ⟨rfl, by omega⟩]; simp
    | false => rw [ups_f S k hu]; simp
/-- how many are open, behind a slot that turned -/
theorem ups_upd_out (S : Tb) (q : Nat) (s : Sl) (k : Nat) (hk : k ≤ q) : upsTo (upd S q s) k = upsTo S k := by
  induction k with
  | zero => rfl
  | succ k ih =>
    have e : (upd S q s k).up = (S k).up := by unfold upd; rw [if_neg (by omega)]
    cases hu : (S k).up with
    | true => rw [ups_t _ _ (e.trans hu), ups_t _ _ hu, ih (by omega)]
    | false => rw [ups_f _ _ (e.trans hu), ups_f _ _ hu, ih (by omega)]
theorem ups_upd_len (S : Tb) (q : Nat) (s : Sl) (k : Nat) (hk : q < k) : (upsTo (upd S q s) k).length + (if (S q).up then 1 else 0) = (upsTo S k).length + (if s.up then 1 else 0) := by
  induction k with
  | zero => omega
  | succ k ih =>
    by_cases hq : q = k
    · subst hq
      have e : (upd S q s q).up = s.up := by unfold upd; rw [if_pos rfl]
      have e2 := ups_upd_out S q s q (Nat.le_refl _)
      cases hu : (S q).up <;> cases hs : s.up
      · rw [ups_f _ _ (e.trans hs), ups_f _ _ hu, e2]; all_goals (try simp)
      · rw [ups_t _ _ (e.trans hs), ups_f _ _ hu, e2]; all_goals (try simp)
      · rw [ups_f _ _ (e.trans hs), ups_t _ _ hu, e2]; all_goals (try simp)
      · rw [ups_t _ _ (e.trans hs), ups_t _ _ hu, e2]; all_goals (try simp)
    · have ih := ih (by omega)
      have e : (upd S q s k).up = (S k).up := by unfold upd; rw [if_neg (by omega)]
      cases hu : (S k).up with
      | true => rw [ups_t _ _ (e.trans hu), ups_t _ _ hu]; simp only [List.length_append, List.length_cons, List.length_nil]; omega
      | false => rw [ups_f _ _ (e.trans hu), ups_f _ _ hu]; exact ih
theorem ups_open (S : Tb) (i m : Int) : ((upsTo (oS S i m) 8).length : Int) = (upsTo S 8).length + if oE S i m = 0 then 1 else 0 := by
  unfold oS oE
  cases h : okO i m with
  | false => simp
  | true =>
    rcases lst_spec S with ⟨h1, h2, h3⟩ | ⟨h1, h2⟩
    · have := ups_upd_len S (lst S) (if m = 8 then .dir i else .file i m 0) 8 h1
      have hs : (if m = 8 then Sl.dir i else Sl.file i m 0).up = true := by split <;> rfl
      rw [hs, h2] at this
      simp [h1]
      simp at this
      omega
    · simp [h1]
theorem ups_close (S : Tb) (fd : Int) : ((upsTo (cS S fd) 8).length : Int) = (upsTo S 8).length - if cE S fd = 0 then 1 else 0 := by
  unfold cS cE
  cases h : has S fd with
  | false => simp
  | true =>
    obtain ⟨h0, h8, hu⟩ := (has_iff S fd).1 h
    have := ups_upd_len S fd.toNat .shut 8 (by omega)
    rw [hu] at this
    simp [Sl.up] at this
    simp
    omega
theorem put_up (p : Int) (s : Sl) : (s.put p).up = s.up := by cases s <;> rfl
theorem ups_seek (S : Tb) (fd p : Int) : (upsTo (sS S fd p) 8).length = (upsTo S 8).length := by
  unfold sS
  split
  · by_cases h : fd.toNat < 8
    · have := ups_upd_len S fd.toNat ((S fd.toNat).put p) 8 h
      rw [put_up] at this
      omega
    · rw [ups_upd_out _ _ _ _ (by omega)]
  · rfl
/-- a slot that is open is the same behind an opening, behind a closing or seeking elsewhere -/
theorem open_same (S : Tb) (i m : Int) (q : Nat) (h : (S q).up = true) : oS S i m q = S q := by
  unfold oS
  split
  · unfold upd
    rcases lst_spec S with ⟨h1, h2, h3⟩ | ⟨h1, h2⟩
    · rw [if_neg]
      rintro rfl
      rw [h2] at h; cases h
    · rename_i hh; omega
  · rfl
theorem close_same (S : Tb) (fd : Int) (q : Nat) (h : (q : Int) ≠ fd) (h0 : 0 ≤ fd) : cS S fd q = S q := by
  unfold cS
  split
  · unfold upd; rw [if_neg (by omega)]
  · rfl
theorem seek_same (S : Tb) (fd p : Int) (q : Nat) (h : (q : Int) ≠ fd) (h0 : 0 ≤ fd) : sS S fd p q = S q := by
  unfold sS
  split
  · unfold upd; rw [if_neg (by omega)]
  · rfl
/-- what is told of a descriptor whose slot is the same -/
theorem get_same (S S' : Tb) (q : Nat) (hq : q < 8) (h : (S q).up = true → S' q = S q) : gE S q = 0 → gI S' q = gI S q ∧ gM S' q = gM S q ∧ gP S' q = gP S q ∧ gE S' q = 0 := by
  intro he
  have hu : (S q).up = true := by
    unfold gE has at he
    cases hx : (S q).up with
    | true => rfl
    | false => simp [hx] at he
  have e := h hu
  unfold gI gM gP gE has at *
  simp [e, hu]
  omega
end Go.Proofs.Ythbnkoaigeffnaa
