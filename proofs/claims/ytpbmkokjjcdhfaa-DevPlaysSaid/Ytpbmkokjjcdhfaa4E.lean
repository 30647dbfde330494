/- The device: Has, Read. -/
import Derived.Test.Ytpbmkokjjcdhfaa4D
import Derived.Laws.NewBlocks
namespace Go.Proofs.Ytpbmkokjjcdhfaa
set_option linter.unusedSimpArgs false
set_option linter.unusedVariables false
open Go.RowKit

/-- a new block that the call itself fills -/
theorem alloc_setCells : ∀ (vs : List Value) (w : World) (cs : Array Value) (t : TypeId) (o : Nat), (w.alloc (.cells cs t)).setCells w.heap.size o vs = w.alloc (.cells (splice cs o vs) t)
  | [], _, _, _, _ => rfl
  | v :: r, w, cs, t, o => by rw [World.setCells, World.setCell_alloc_at _ _ _ _ _ rfl, splice, alloc_setCells r]
theorem splice_all (vs : List Value) (cs : Array Value) (h : cs.size = vs.length) : splice cs 0 vs = vs.toArray := by
  apply Array.ext_getElem?
  intro j
  rw [splice_at _ _ _ _ (by omega)]
  by_cases hj : j < vs.length
  · rw [if_pos (by omega)]; simp
  · rw [if_neg (by omega), Array.getElem?_eq_none (by omega)]
    simp; omega
theorem alloc_fill (w : World) (cs : Array Value) (t : TypeId) (vs : List Value) (h : cs.size = vs.length) : (w.alloc (.cells cs t)).setCells w.heap.size 0 vs = w.alloc (.cells vs.toArray t) := by
  rw [alloc_setCells, splice_all _ _ h]

theorem frozen_heap {w : World} {g o : Nat} {cs : Array Value} {t : TypeId} (hb : w.heap[g]? = some (.cells cs t (0, 0))) : w.frozen? ⟨g, o, none⟩ = false := by
  simp only [World.frozen?, hb]; simp
/-- a block of octets -/
def OBlk (w : World) (g : Nat) (t : TypeId) (l : List UInt8) : Prop := w.heap[g]? = some (.cells (bcells l).toArray t (0, 0))
theorem oblk_new (w : World) (t : TypeId) (l : List UInt8) : OBlk (w.alloc (.cells (bcells l).toArray t)) w.heap.size t l := heap_alloc_new w _
theorem zero_block (w : World) : (zeroValue 65).run Try.prog w = .ok (.agg zeroB) w := by kernel_rfl
theorem info_size_block : (Try.prog.info? 65).map (·.size) = some 128 := by kernel_rfl

theorem wpList_loadB {ops : Array Oper} {rest : List Oper} {op : Oper} {a : Act} {w : World} {Q : Exit → Act → World → Prop} (hgd : op.guard = none) (x : Operand) (ho : op.op = .load 65 x)
    (b o : Nat) (hx : a.eval x = .pointer (some ⟨b, o, none⟩)) (l : List UInt8) (hl : l.length = 128) (hc : w.rangeAt b o (bcells l))
    (h : wpList Try.prog ops Q rest (a.put op.dst (.agg (bcells l).toArray)) w) : wpList Try.prog ops Q (op :: rest) a w :=
  wpList_load_mid hgd 65 x ho b o hx (bcells l) _ hc Try.underlying65 rfl (by rw [info_size_block, bcells_len, hl]) h
theorem wpList_boxB {ops : Array Oper} {rest : List Oper} {o1 o2 : Oper} {a : Act} {w : World} {Q : Exit → Act → World → Prop} (hg1 : o1.guard = none) (hg2 : o2.guard = none) (h1 : o1.op = .alloc 65)
    (p x : Operand) (h2 : o2.op = .store 65 p x) (hp : (a.put o1.dst (.pointer (some ⟨w.heap.size, 0, none⟩))).eval p = .pointer (some ⟨w.heap.size, 0, none⟩))
    (l : List UInt8) (hl : l.length = 128) (hx : (a.put o1.dst (.pointer (some ⟨w.heap.size, 0, none⟩))).eval x = .agg (bcells l).toArray)
    (h : wpList Try.prog ops Q rest ((a.put o1.dst (.pointer (some ⟨w.heap.size, 0, none⟩))).put o2.dst undef) (w.alloc (.cells (bcells l).toArray 65))) : wpList Try.prog ops Q (o1 :: o2 :: rest) a w := by
  refine wpList_plain hg1 fun K hK => ?_
  unfold Oper.wp execOp
  simp only [h1, Instr.alloc, Sem.run_bind, Sem.run_pure, Result.andThen_ok, zero_block, newVar, newRow]
  refine hK _ (w.alloc (.cells zeroB 65)) ?_
  have hb : (w.alloc (.cells zeroB 65)).heap[w.heap.size]? = some (.cells zeroB 65 (0, 0)) := heap_alloc_new w _
  have hzs : zeroB.size = 128 := by simp [zeroB]
  refine wpList_store_mid hg2 65 p x h2 w.heap.size 0 (bcells l).toArray hp hx ?_ ?_ (all_oneCell_toArray (bcells_one l)) ?_
  · intro j hj
    have hj' : j < 128 := by simpa [bcells_len, hl] using hj
    rw [Nat.zero_add]
    refine ⟨?_, frozen_heap hb⟩
    rw [cell_of_row _ _ _ _ _ _ hb, Array.getElem?_eq_getElem (by omega)]; rfl
  · rw [info_size_block]; simp [bcells_len, hl]
  · rw [alloc_fill _ _ _ _ (by rw [hzs]; simp [bcells_len, hl])]
    exact h

section
variable {w : World} {B : Nat} {h : DH} {S : DS}

/-- what a slice of octets that a method gave reads as -/
def BOut (base : Nat) (w : World) (v : Value) (l : List UInt8) : Prop :=
  (v = .slice none 0 0 ∧ l = []) ∨ (∃ g, v = .slice (some ⟨g, 0, none⟩) 128 128 ∧ l.length = 128 ∧ OBlk w g 65 l ∧ base ≤ g)
def BPost (l : List UInt8) (k : Int) (w : World) (e : Ending) (w' : World) : Prop := ∃ v, e = .returned (.tuple #[v, .int .i64 k]) ∧ BOut w.heap.size w' v l ∧ Kept w w'

def hasE (S : DS) (i : Int) : Int := if isB S.n i then 0 else 4
def hasL (S : DS) (i : Int) : List UInt8 := if isB S.n i then S.blk i.toNat else []
theorem has_any (i : Int) (w : World) (d : DevAt w B h S) : Calls Try.prog 18 #[.pointer (some ⟨h.P, 0, none⟩), .int .i64 i] w (BPost (hasL S i) (hasE S i) w) := by
  have HT := hid (there_any i w d)
  have hn := d.ok.n2
  cases hb : isB S.n i with
  | false =>
    have HE := hid (show hasE S i = 4 by simp [hasE, hb])
    have HL := hid (show hasL S i = [] by simp [hasL, hb])
    rw [HE.out, HL.out]
    rw [hb] at HT
    clear d HE HL hb
    go_enter Try.func18, Try.ntmps18
    go_wp2_with (go_at_call 32; refine HT.out.mono ?_; rintro e w2 ⟨rfl, rfl⟩)
    go_ret2
    exact ⟨_, rfl, .inl ⟨rfl, rfl⟩, Kept.refl _⟩
  | true =>
    obtain ⟨hi0, hi1⟩ := isB_t hb
    obtain ⟨k, rfl⟩ : ∃ k : Nat, i = (k : Int) := ⟨i.toNat, by omega⟩
    have HE := hid (show hasE S k = 0 by simp [hasE, hb])
    have HL := hid (show hasL S k = S.blk k by simp [hasL, hb])
    rw [HE.out, HL.out]
    rw [hb] at HT
    have c0 := d.c0
    have hkn : k < S.n := by omega
    have hbl := d.ok.blk k hkn
    have HR := hid (d.hB.range k hkn hbl)
    clear d HE HL hb
    generalize S.blk k = l at *
    generalize S.n = n at *
    obtain ⟨P, hP⟩ : ∃ P, P = h.P := ⟨_, rfl⟩
    obtain ⟨gB, hgB⟩ : ∃ gB, gB = h.gB := ⟨_, rfl⟩
    rw [← hP] at c0 HT ⊢
    rw [← hgB] at c0 HR
    clear hP hgB
    go_enter Try.func18, Try.ntmps18
    go_wp2_with (first
      | (go_at_call 32; refine HT.out.mono ?_; rintro e w2 ⟨rfl, rfl⟩)
      | (refine wpList_loadB rfl (.tmp 16) rfl gB (k * 128) rfl l hbl HR.out ?_)
      | (refine wpList_boxB rfl rfl rfl (.tmp 6) (.tmp 17) rfl rfl l hbl rfl ?_))
    go_ret2
    exact ⟨_, rfl, .inr ⟨w.heap.size, rfl, hbl, oblk_new w _ l, Nat.le_refl _⟩, (by repeat (first | exact Kept.refl _ | assumption | refine Kept.alloc ?_ _ | refine Kept.drew ?_ | refine Kept.drewN ?_ _ | refine Kept.setCell ?_ (by simp; try omega) _ | refine Kept.trans ?_ (by assumption)))⟩

theorem rangeAt_new (w : World) (t : TypeId) (l : List UInt8) (n : Nat) (hl : l.length = n) : (w.alloc (.cells (bcells l).toArray t)).there w.heap.size 0 n := by
  intro j hj
  have hb : (w.alloc (.cells (bcells l).toArray t)).heap[w.heap.size]? = some (.cells (bcells l).toArray t (0, 0)) := heap_alloc_new w _
  rw [Nat.zero_add]
  refine ⟨?_, frozen_heap hb⟩
  rw [cell_of_row _ _ _ _ _ _ hb, Array.getElem?_eq_getElem (by simp [bcells_len]; omega)]; rfl
/-- the new block is filled again -/
theorem wpList_refill {ops : Array Oper} {rest : List Oper} {op : Oper} {a : Act} {w : World} {Q : Exit → Act → World → Prop} (hgd : op.guard = none) (p x : Operand) (ho : op.op = .store 65 p x)
    (H : Nat) (hH : H = w.heap.size) (hp : a.eval p = .pointer (some ⟨H, 0, none⟩)) (l l' : List UInt8) (hl : l.length = 128) (hl' : l'.length = 128) (hx : a.eval x = .agg (bcells l').toArray)
    (h : wpList Try.prog ops Q rest (a.put op.dst undef) (w.alloc (.cells (bcells l').toArray 65))) : wpList Try.prog ops Q (op :: rest) a (w.alloc (.cells (bcells l).toArray 65)) := by
  subst hH
  refine wpList_store_mid hgd 65 p x ho w.heap.size 0 (bcells l').toArray hp hx ?_ ?_ (all_oneCell_toArray (bcells_one l')) ?_
  · have := rangeAt_new w 65 l 128 hl
    simpa [bcells_len, hl'] using this
  · rw [info_size_block]; simp [bcells_len, hl']
  · have e := alloc_fill w (bcells l).toArray 65 (bcells l') (by simp [bcells_len, hl, hl'])
    rw [show (bcells l').toArray.toList = bcells l' by simp, e]
    exact h

/-- a write that waits, in memory -/
theorem pcells_len (l : List (Nat × List UInt8)) (hl : ∀ p ∈ l, p.2.length = 128) : (pcells l).length = l.length * 129 := by
  induction l with
  | nil => rfl
  | cons a r ih =>
    have h1 := ih (fun p hp => hl p (List.mem_cons_of_mem _ hp))
    have h2 := hl a (List.mem_cons_self ..)
    rw [pcells, List.length_append, List.length_cons, bcells_len, h1, h2, List.length_cons]; omega
theorem pcells_at (l : List (Nat × List UInt8)) (hl : ∀ p ∈ l, p.2.length = 128) (k : Nat) (hk : k < l.length) :
    (pcells l)[k * 129]? = some (.int .i64 ((l[k]).1 : Int)) ∧ ∀ j, j < 128 → (pcells l)[k * 129 + 1 + j]? = some (.int .u8 (((l[k]).2.getD j 0).toNat : Int)) := by
  induction l generalizing k with
  | nil => simp at hk
  | cons a r ih =>
    have h2 := hl a (List.mem_cons_self ..)
    have hlen : (Value.int .i64 (a.1 : Int) :: bcells a.2).length = 129 := by rw [List.length_cons, bcells_len, h2]
    rw [pcells]
    rcases k with _ | k
    · refine ⟨by simp, fun j hj => ?_⟩
      rw [List.getElem?_append_left (by omega), show 0 * 129 + 1 + j = j + 1 by omega, List.getElem?_cons_succ, bcells_at _ _ (by omega)]
      rfl
    · have h1 := ih (fun p hp => hl p (List.mem_cons_of_mem _ hp)) k (by simpa using hk)
      refine ⟨?_, fun j hj => ?_⟩
      · rw [List.getElem?_append_right (by omega), hlen, show (k + 1) * 129 - 129 = k * 129 by omega, h1.1]; rfl
      · rw [List.getElem?_append_right (by omega), hlen, show (k + 1) * 129 + 1 + j - 129 = k * 129 + 1 + j by omega, h1.2 j hj]; rfl
theorem DevAt.pendAt (d : DevAt w B h S) (k : Nat) (hk : k < S.pend.length) : ∃ g c, h.vp = .slice (some ⟨g, 0, none⟩) S.pend.length c ∧ S.pend.length ≤ c ∧ c ≤ 9223372036854775807 ∧
    w.cell? ⟨g, k * 129, none⟩ = some (.int .i64 ((S.pend[k]).1 : Int)) ∧ w.rangeAt g (k * 129 + 1) (bcells (S.pend[k]).2) := by
  have hl : ∀ p ∈ S.pend, p.2.length = 128 := fun p hp => (d.ok.pend p hp).2
  obtain ⟨h1, h2⟩ := pcells_at S.pend hl k hk
  have hc := pcells_len S.pend hl
  rcases d.hp.2 with ⟨h0, hn⟩ | ⟨g, cap, cur, hv, hb, hg, hnc, hm, hs, hx⟩
  · omega
  · refine ⟨g, cap, hv, hnc, by unfold maxLen at hm; omega, ?_, ?_⟩
    · have hp := d.hp
      rw [hv] at hp
      exact (hp.cellAt (k * 129) (by omega)).trans h1
    · intro j v hv'
      have hj : j < 128 := by
        have := (List.getElem?_eq_some_iff.1 hv').1
        rw [bcells_len, hl _ (List.getElem_mem hk)] at this; exact this
      have hp := d.hp
      rw [hv] at hp
      rw [← hv', bcells_at _ _ (by rw [hl _ (List.getElem_mem hk)]; exact hj)]
      exact (hp.cellAt (k * 129 + 1 + j) (by omega)).trans (h2 j hj)

def rdE (S : DS) (i : Int) : Int := if isB S.n i = false then 4 else if S.pow = false then 10 else if S.mnt = false then 9 else if ((S.flt i).getD 0) % 2 = 1 then 9 else 0
def rdL (S : DS) (i : Int) : List UInt8 := if rdE S i = 0 then rdF S.blk S.pend i.toNat else []
set_option maxHeartbeats 2000000 in
theorem read_any (i : Int) (w : World) (d : DevAt w B h S) : Calls Try.prog 12 #[.pointer (some ⟨h.P, 0, none⟩), .int .i64 i] w (BPost (rdL S i) (rdE S i) w) := by
  have HT := hid (there_any i w d)
  have hn := d.ok.n2
  have HBP := hid (fun (k : Int) (hk : rdE S i = k) (h0 : k ≠ 0) (w' : World) (hw : Kept w w') => (⟨_, by rw [hk], .inl ⟨rfl, by rw [rdL, hk, if_neg h0]⟩, hw⟩ : BPost (rdL S i) (rdE S i) w (.returned (.tuple #[.slice none 0 0, .int .i64 k])) w'))
  cases hb : isB S.n i with
  | false =>
    have HE := hid (show rdE S i = 4 by simp [rdE, hb])
    rw [hb] at HT
    clear d hb
    go_enter Try.func12, Try.ntmps12
    go_wp2_with (go_at_call 32; refine HT.out.mono ?_; rintro e w2 ⟨rfl, rfl⟩)
    go_ret2
    exact HBP.out 4 HE.out (by decide) _ (Kept.refl _)
  | true =>
    obtain ⟨hi0, hi1⟩ := isB_t hb
    rw [hb] at HT
    have c0 := d.c0
    have c1 := d.c1
    have c2 := d.c2
    have c3 := d.c3
    have c5 := d.c5
    have c6 := d.c6
    cases hpw : S.pow with
    | false =>
      have HE := hid (show rdE S i = 10 by simp [rdE, hb, hpw])
      rw [hpw] at c5
      clear d hb hpw
      generalize S.mnt = mm at c6
      obtain ⟨P, hP⟩ : ∃ P, P = h.P := ⟨_, rfl⟩
      rw [← hP] at c0 c1 c2 c3 c5 c6 HT ⊢
      clear hP
      go_enter Try.func12, Try.ntmps12
      go_wp2_with (go_at_call 32; refine HT.out.mono ?_; rintro e w2 ⟨rfl, rfl⟩)
      go_ret2
      exact HBP.out 10 HE.out (by decide) _ (Kept.refl _)
    | true =>
      rw [hpw] at c5
      cases hmn : S.mnt with
      | false =>
        have HE := hid (show rdE S i = 9 by simp [rdE, hb, hpw, hmn])
        rw [hmn] at c6
        clear d hb hpw hmn
        obtain ⟨P, hP⟩ : ∃ P, P = h.P := ⟨_, rfl⟩
        rw [← hP] at c0 c1 c2 c3 c5 c6 HT ⊢
        clear hP
        go_enter Try.func12, Try.ntmps12
        go_wp2_with (go_at_call 32; refine HT.out.mono ?_; rintro e w2 ⟨rfl, rfl⟩)
        go_ret2
        exact HBP.out 9 HE.out (by decide) _ (Kept.refl _)
      | true =>
        rw [hmn] at c6
        have hfl : (S.flt i).getD 0 = 0 ∨ (S.flt i).getD 0 = 1 ∨ (S.flt i).getD 0 = 2 ∨ (S.flt i).getD 0 = 3 := by
          cases hf : S.flt i with
          | none => simp
          | some v => have := d.ok.flt i v hf; simp only [Option.getD_some]; omega
        have hlook := d.hF.look i (by omega) (by omega)
        by_cases hodd : (S.flt i).getD 0 % 2 = 1
        · have HE := hid (show rdE S i = 9 by simp [rdE, hb, hpw, hmn, hodd])
          clear d hb hpw hmn
          obtain ⟨P, hP⟩ : ∃ P, P = h.P := ⟨_, rfl⟩
          obtain ⟨gF, hgF⟩ : ∃ gF, gF = h.gF := ⟨_, rfl⟩
          rw [← hP] at c0 c1 c2 c3 c5 c6 HT ⊢
          rw [← hgF] at c3 hlook
          clear hP hgF
          generalize (S.flt i).getD 0 = v at *
          have hv : v = 1 ∨ v = 3 := by omega
          clear hodd hfl
          rcases hv with rfl | rfl
          all_goals (
            go_enter Try.func12, Try.ntmps12
            go_wp2_with (go_at_call 32; refine HT.out.mono ?_; rintro e w2 ⟨rfl, rfl⟩)
            go_ret2
            exact HBP.out 9 HE.out (by decide) _ (Kept.refl _))
        · have HE := hid (show rdE S i = 0 by simp [rdE, hb, hpw, hmn, hodd])
          obtain ⟨k, rfl⟩ : ∃ k : Nat, i = (k : Int) := ⟨i.toNat, by omega⟩
          have hkn : k < S.n := by omega
          have hbl := d.ok.blk k hkn
          have HR := hid (d.hB.range k hkn hbl)
          have HL := hid (show rdL S k = rdF S.blk S.pend k by rw [rdL, HE.out, if_pos rfl]; rfl)
          have hlok := (((Kept.refl w).alloc (.cells (bcells (S.blk k)).toArray 65)).dev d).hN.lookok k (by omega) (by omega)
          rw [HE.out, HL.out]
          rcases rd_nm S.blk S.pend k with ⟨hnm, hrd⟩ | ⟨q, hnm, hq, hrd⟩
          · rw [hrd]
            rw [hnm] at hlok
            simp only [Option.getD_none, Option.isSome_none] at hlok
            clear d hb hpw hmn HE HL hrd hnm HBP
            generalize S.blk k = l at *
            generalize S.n = n at *
            obtain ⟨P, hP⟩ : ∃ P, P = h.P := ⟨_, rfl⟩
            obtain ⟨gF, hgF⟩ : ∃ gF, gF = h.gF := ⟨_, rfl⟩
            obtain ⟨gN, hgN⟩ : ∃ gN, gN = h.gN := ⟨_, rfl⟩
            obtain ⟨gB, hgB⟩ : ∃ gB, gB = h.gB := ⟨_, rfl⟩
            rw [← hP] at c0 c1 c2 c3 c5 c6 HT ⊢
            rw [← hgF] at c3 hlook
            rw [← hgN] at c2 hlok
            rw [← hgB] at c0 HR
            clear hP hgF hgN hgB
            generalize (S.flt (k : Int)).getD 0 = v at *
            have hv : v = 0 ∨ v = 2 := by omega
            clear hodd hfl
            rcases hv with rfl | rfl
            all_goals (
              go_enter Try.func12, Try.ntmps12
              go_wp2_with (first
                | (go_at_call 32; refine HT.out.mono ?_; rintro e w2 ⟨rfl, rfl⟩)
                | (refine wpList_loadB rfl (.tmp 41) rfl gB (k * 128) rfl l hbl HR.out ?_)
                | (refine wpList_boxB rfl rfl rfl (.tmp 6) (.tmp 42) rfl rfl l hbl rfl ?_))
              go_ret2
              exact ⟨_, rfl, .inr ⟨w.heap.size, rfl, hbl, oblk_new w _ l, Nat.le_refl _⟩, (by repeat (first | exact Kept.refl _ | assumption | refine Kept.alloc ?_ _ | refine Kept.drew ?_ | refine Kept.drewN ?_ _ | refine Kept.setCell ?_ (by simp; try omega) _ | refine Kept.trans ?_ (by assumption)))⟩)
          · have hplen := d.ok.pend _ (List.getElem_mem hq)
            obtain ⟨g, c, hvp, hc1, hc2, -, hpr⟩ := d.pendAt q hq
            rw [hrd] at hpr
            rw [hnm] at hlok
            rw [hvp] at c1
            have hl2 : (rdF S.blk S.pend k).length = 128 := by rw [← hrd]; exact hplen.2
            simp only [Option.getD_some, Option.isSome_some] at hlok
            have c1' := ((Kept.refl w).alloc (.cells (bcells (S.blk k)).toArray 65)).keeps c1
            have c2' := ((Kept.refl w).alloc (.cells (bcells (S.blk k)).toArray 65)).keeps c2
            have HR2 := hid (World.rangeAt_alloc hpr (.cells (bcells (S.blk k)).toArray 65))
            clear d hb hpw hmn HE HL hrd hnm HBP hpr hplen hvp
            generalize rdF S.blk S.pend k = l2 at *
            generalize S.blk k = l at *
            generalize S.n = n at *
            generalize S.pend.length = np at *
            obtain ⟨P, hP⟩ : ∃ P, P = h.P := ⟨_, rfl⟩
            obtain ⟨gF, hgF⟩ : ∃ gF, gF = h.gF := ⟨_, rfl⟩
            obtain ⟨gN, hgN⟩ : ∃ gN, gN = h.gN := ⟨_, rfl⟩
            obtain ⟨gB, hgB⟩ : ∃ gB, gB = h.gB := ⟨_, rfl⟩
            rw [← hP] at c0 c1 c2 c3 c5 c6 HT c1' c2' ⊢
            rw [← hgF] at c3 hlook
            rw [← hgN] at c2 c2' hlok
            rw [← hgB] at c0 HR
            clear hP hgF hgN hgB
            generalize (S.flt (k : Int)).getD 0 = v at *
            have hv : v = 0 ∨ v = 2 := by omega
            clear hodd hfl
            have hq0 : (0 : Int) ≤ (q : Int) := by omega
            have hq1 : (q : Int) < (np : Int) := by omega
            rcases hv with rfl | rfl
            all_goals (
              go_enter Try.func12, Try.ntmps12
              go_wp2_with (first
                | (go_at_call 32; refine HT.out.mono ?_; rintro e w2 ⟨rfl, rfl⟩)
                | (refine wpList_loadB rfl (.tmp 41) rfl gB (k * 128) rfl l hbl HR.out ?_)
                | (refine wpList_boxB rfl rfl rfl (.tmp 6) (.tmp 42) rfl rfl l hbl rfl ?_)
                | (refine wpList_loadB rfl (.tmp 59) rfl g (q * 129 + 1) rfl l2 hl2 HR2.out ?_)
                | ((with_reducible refine wpList_refill ?_ (.tmp 6) (.tmp 60) ?_ w.heap.size ?_ ?_ l l2 hbl hl2 ?_ ?_); (focus rfl); (focus rfl); (focus rfl); (focus rfl); (focus rfl)))
              go_ret2
              exact ⟨_, rfl, .inr ⟨w.heap.size, rfl, hl2, oblk_new w _ l2, Nat.le_refl _⟩, (by repeat (first | exact Kept.refl _ | assumption | refine Kept.alloc ?_ _ | refine Kept.drew ?_ | refine Kept.drewN ?_ _ | refine Kept.setCell ?_ (by simp; try omega) _ | refine Kept.trans ?_ (by assumption)))⟩)
end
end Go.Proofs.Ytpbmkokjjcdhfaa
