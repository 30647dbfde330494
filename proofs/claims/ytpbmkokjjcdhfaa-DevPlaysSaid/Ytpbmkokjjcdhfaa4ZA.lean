/- The document's device: Noughts, fails, On, New. -/
import Derived.Test.Ytpbmkokjjcdhfaa4Z
namespace Go.Proofs.Ytpbmkokjjcdhfaa
set_option linter.unusedSimpArgs false
set_option linter.unusedVariables false
open Go.RowKit

def RPost (v : Value) (S' : DS) (B : Nat) (h : RH) (w : World) (e : Ending) (w' : World) : Prop := e = .returned v ∧ ∃ h', RefAt w' B h' S' ∧ RStep h h' w w'

theorem noughts_any (w : World) : Calls Try.prog 38 #[] w fun e w' => e = .returned (.string (bstr (rep 0))) ∧ Kept w w' := by
  have hmk : ∀ w, (Instr.makeSlice 31 (.int .i64 128) (.int .i64 128)).run Try.prog w = .ok (.slice (some ⟨w.heap.size, 0, none⟩) 128 128) (w.alloc (.cells zeroB 5)) := fun _ => by kernel_rfl
  have hz : zeroB = (bcells (rep 0)).toArray := rfl
  have hb : OBlk (w.alloc (.cells zeroB 5)) w.heap.size 5 (rep 0) := by rw [hz]; exact oblk_new w _ _
  have hcv := conv_blk (n := 128) (rep 0) (rep_len 0) hb.range 128
  have HB := hid (rfl : bstr (rep 0) = bstr (rep 0))
  clear hb hz
  generalize bstr (rep 0) = t at *
  generalize zeroB = Z at *
  go_enter Try.func38, Try.ntmps38
  go_wp2
  go_ret
  exact ⟨rfl, (Kept.refl w).alloc _⟩
section
variable {w : World} {B : Nat} {h : RH} {S : DS}
theorem rfails_any (w : World) (r : RefAt w B h S) (ok : S.ok) : Calls Try.prog 39 #[.pointer (some ⟨h.P, 0, none⟩)] w (RPost (.bool (!spendP S)) (spendS S) B h w) := by
  have hbd := ok.bud
  have c3 := r.c3
  have c4 := r.c4
  have f3 := r.fz 3
  have f4 := r.fz 4
  have HD := hid r
  have h4 := RStep.field (w := w) (h := h) 4 (.bool true)
  clear r ok
  obtain ⟨n, blk, pend, flt, fn, bud, pow, mnt⟩ := S
  dsimp only at hbd c3 c4
  cases pow with
  | false =>
    have HE := hid (show (!spendP ⟨n, blk, pend, flt, fn, bud, false, mnt⟩) = true by simp [spendP])
    have HS := hid (show spendS ⟨n, blk, pend, flt, fn, bud, false, mnt⟩ = ⟨n, blk, pend, flt, fn, bud, false, mnt⟩ by simp [spendS, spendP])
    have HN := hid (HD.out.field 4 (.bool true) ⟨n, blk, pend, flt, fn, bud, false, mnt⟩ rfl rfl rfl rfl rfl)
    have H4 := hid h4
    rw [HE.out, HS.out]
    clear h4 HD HE HS
    obtain ⟨P, hP⟩ : ∃ P, P = h.P := ⟨_, rfl⟩
    rw [← hP] at c3 c4 f3 f4 HN H4 ⊢
    clear hP
    go_enter Try.func39, Try.ntmps39
    go_wp2
    go_ret
    exact ⟨rfl, _, HN.out, H4.out⟩
  | true =>
    by_cases hb0 : bud = 0
    · subst hb0
      have HE := hid (show (!spendP ⟨n, blk, pend, flt, fn, 0, true, mnt⟩) = true by simp [spendP])
      have HS := hid (show spendS ⟨n, blk, pend, flt, fn, 0, true, mnt⟩ = ⟨n, blk, pend, flt, fn, 0, false, mnt⟩ by simp [spendS, spendP])
      have HN := hid (HD.out.field 4 (.bool true) ⟨n, blk, pend, flt, fn, 0, false, mnt⟩ rfl rfl rfl rfl rfl)
      have H4 := hid h4
      rw [HE.out, HS.out]
      clear h4 HD HE HS
      obtain ⟨P, hP⟩ : ∃ P, P = h.P := ⟨_, rfl⟩
      rw [← hP] at c3 c4 f3 f4 HN H4 ⊢
      clear hP
      go_enter Try.func39, Try.ntmps39
      go_wp2
      go_ret
      exact ⟨rfl, _, HN.out, H4.out⟩
    · have hne : (bud == 0) = false := by simpa using hb0
      have HE := hid (show (!spendP ⟨n, blk, pend, flt, fn, bud, true, mnt⟩) = false by simp [spendP, hb0])
      by_cases hb1 : 0 < bud
      · have HS := hid (show spendS ⟨n, blk, pend, flt, fn, bud, true, mnt⟩ = ⟨n, blk, pend, flt, fn, bud - 1, true, mnt⟩ by simp [spendS, spendP, hb0, hb1])
        have HN := hid (HD.out.field 3 (.int .i64 (bud - 1)) ⟨n, blk, pend, flt, fn, bud - 1, true, mnt⟩ rfl rfl rfl rfl rfl)
        have H4 := hid (RStep.field (w := w) (h := h) 3 (.int .i64 (bud - 1)))
        rw [HE.out, HS.out]
        clear h4 HD HE HS hb0
        obtain ⟨P, hP⟩ : ∃ P, P = h.P := ⟨_, rfl⟩
        rw [← hP] at c3 c4 f3 f4 HN H4 ⊢
        clear hP
        go_enter Try.func39, Try.ntmps39
        go_wp2
        go_ret
        exact ⟨rfl, _, HN.out, H4.out⟩
      · have HS := hid (show spendS ⟨n, blk, pend, flt, fn, bud, true, mnt⟩ = ⟨n, blk, pend, flt, fn, bud, true, mnt⟩ by simp [spendS, spendP, hb0, hb1])
        rw [HE.out, HS.out]
        have hd : decide (0 < bud) = false := decide_eq_false hb1
        clear h4 HE HS hb0 hb1
        obtain ⟨P, hP⟩ : ∃ P, P = h.P := ⟨_, rfl⟩
        rw [← hP] at c3 c4 f3 f4 ⊢
        clear hP
        go_enter Try.func39, Try.ntmps39
        go_wp2
        go_ret
        exact ⟨rfl, _, HD.out, RStep.refl _ _⟩

theorem ron_any (w : World) (r : RefAt w B h S) : Calls Try.prog 28 #[.pointer (some ⟨h.P, 0, none⟩)] w (RPost (.tuple #[]) { S with pow := true, bud := -1, pend := [] } B h w) := by
  have c2 := r.c2
  have c3 := r.c3
  have c4 := r.c4
  have f2 := r.fz 2
  have f3 := r.fz 3
  have f4 := r.fz 4
  obtain ⟨r1, s1⟩ := r.forgot
  have r2 := r1.field 3 (.int .i64 (-1)) { S with pend := [], bud := -1 } rfl rfl rfl rfl rfl
  have r3 := r2.field 4 (.bool false) { S with pend := [], bud := -1, pow := true } rfl rfl rfl rfl rfl
  have HR := hid r3
  have HS := hid ((s1.trans (RStep.field 3 (.int .i64 (-1)))).trans (RStep.field 4 (.bool false)))
  clear r r1 r2 r3 s1
  generalize S.bud = b0 at c3
  generalize S.pow = b1 at c4
  generalize h.vL = vL at c2
  obtain ⟨P, hP⟩ : ∃ P, P = h.P := ⟨_, rfl⟩
  dsimp only at HR HS
  rw [← hP] at c2 c3 c4 f2 f3 f4 HR HS ⊢
  clear hP
  go_enter Try.func28, Try.ntmps28
  go_wp2
  go_end0
  exact ⟨rfl, _, HR.out, HS.out⟩

theorem info_string : (Try.prog.info? 9).map (fun i => (i.zero, i.size, i.bytes)) = some (some (.string ByteArray.empty), 1, 16) := by kernel_rfl
theorem textsF_succ (k : Nat) : textsF (newS (k + 1)) = textsF (newS k) ++ [.string (bstr (rep 0))] := by simp [textsF, newS, List.range_succ, rep]
theorem faultsF_succ (k : Nat) : faultsF (newS (k + 1)) = faultsF (newS k) ++ [.int .i64 0] := by simp [faultsF, newS, List.range_succ]
/-- the document's device in the making: k blocks of it, m faults -/
structure RNew (w : World) (P k m : Nat) (vH vF : Value) : Prop where
  hP : w.heap[P]? = some (.cells #[vH, vF, .slice none 0 0, .int .i64 (-1), .bool false, .bool false] 55 (0, 0))
  hH : w.ownsRow P 9 1 vH k (textsF (newS k))
  hF : w.ownsRow P 3 1 vF m (faultsF (newS m))
theorem type_ne {w : World} {P : Nat} {cs : Array Value} {t : TypeId} {f : Nat × Nat} (hP : w.heap[P]? = some (.cells cs t f)) {base : Nat} {e : TypeId} {size n : Nat} {v : Value} {xs : List Value} (hr : w.ownsRow base e size v n xs) (hne : e ≠ t) : v.ownBlock ≠ some P := by
  intro hq
  obtain ⟨c, hc, -⟩ := row_block hr hq
  rw [hP] at hc; injection hc with e1; injection e1 with _ e2; exact hne e2.symm
theorem RNew.pushH {w w3 : World} {P k m : Nat} {vH vF v' : Value} (r : RNew w P k m vH vF) (tmp : Obj) (ho : w3.ownsRow P 9 1 v' (k + 1) (textsF (newS k) ++ [.string (bstr (rep 0))])) (hg : (w.alloc tmp).grownBy w3 vH.ownBlock) :
    RNew (w3.setCell ⟨P, 0, none⟩ v') P (k + 1) m v' vF ∧ w3.cell? ⟨P, 0, none⟩ = some vH ∧ w3.frozen? ⟨P, 0, none⟩ = false := by
  have k1 : 9 ≠ 55 := by decide
  have k2 : 3 ≠ 55 := by decide
  have k3 : 9 ≠ 3 := by decide
  have hPl := (Array.getElem?_eq_some_iff.1 r.hP).1
  have n1 := type_ne r.hP r.hH k1
  have e : ∀ q, q < w.heap.size → vH.ownBlock ≠ some q → w3.heap[q]? = w.heap[q]? := fun q hq h2 =>
    (hg.block q (by rw [World.size_alloc]; omega) (fun e => h2 e.symm)).trans (Below.heap_alloc w tmp q (by omega))
  have hP3 := (e P hPl n1).trans r.hP
  refine ⟨⟨?_, ?_, ?_⟩, by simp [World.cell?, hP3], by simp [World.frozen?, hP3]⟩
  · rw [heap_field hP3]; rfl
  · rw [textsF_succ]
    exact ownsRow_setCell_other ho (a := ⟨P, 0, none⟩) (type_ne hP3 ho k1) _
  · have h2 : w3.ownsRow P 3 1 vF m (faultsF (newS m)) := row_of_heap r.hF fun q hq => e q (r.hF.lt q hq).2 (fun e1 => by
      obtain ⟨c, hc, -⟩ := row_block r.hH e1
      exact type_ne hc r.hF k3.symm hq)
    exact ownsRow_setCell_other h2 (a := ⟨P, 0, none⟩) (type_ne hP3 h2 k2) _
theorem RNew.pushF {w w3 : World} {P k m : Nat} {vH vF v' : Value} (r : RNew w P k m vH vF) (tmp : Obj) (ho : w3.ownsRow P 3 1 v' (m + 1) (faultsF (newS m) ++ [.int .i64 0])) (hg : (w.alloc tmp).grownBy w3 vF.ownBlock) :
    RNew (w3.setCell ⟨P, 1, none⟩ v') P k (m + 1) vH v' ∧ w3.cell? ⟨P, 1, none⟩ = some vF ∧ w3.frozen? ⟨P, 1, none⟩ = false := by
  have k1 : 9 ≠ 55 := by decide
  have k2 : 3 ≠ 55 := by decide
  have k3 : 9 ≠ 3 := by decide
  have hPl := (Array.getElem?_eq_some_iff.1 r.hP).1
  have n1 := type_ne r.hP r.hF k2
  have e : ∀ q, q < w.heap.size → vF.ownBlock ≠ some q → w3.heap[q]? = w.heap[q]? := fun q hq h2 =>
    (hg.block q (by rw [World.size_alloc]; omega) (fun e => h2 e.symm)).trans (Below.heap_alloc w tmp q (by omega))
  have hP3 := (e P hPl n1).trans r.hP
  refine ⟨⟨?_, ?_, ?_⟩, by simp [World.cell?, hP3], by simp [World.frozen?, hP3]⟩
  · rw [heap_field hP3]; rfl
  · have h2 : w3.ownsRow P 9 1 vH k (textsF (newS k)) := row_of_heap r.hH fun q hq => e q (r.hH.lt q hq).2 (fun e1 => by
      obtain ⟨c, hc, -⟩ := row_block r.hF e1
      exact type_ne hc r.hH k3 hq)
    exact ownsRow_setCell_other h2 (a := ⟨P, 1, none⟩) (type_ne hP3 h2 k1) _
  · rw [faultsF_succ]
    exact ownsRow_setCell_other ho (a := ⟨P, 1, none⟩) (type_ne hP3 ho k2) _
theorem wpList_pushB {P : Program} {ops : Array Oper} {rest : List Oper} {o : Oper} {a : Act} {Q : Exit → Act → World → Prop} {w : World} (hgd : o.guard = none) (s x : Operand) (t : TypeId)
    (ho : o.op = .call { callee := .builtin .append, args := #[s, x], argTypes := #[t, t] }) (base : Nat)
    (e : TypeId) (z : Value) (size bytes : Nat) (ht : P.underlying t = some (.slice e)) (hinfo : (P.info? e).map (fun i => (i.zero, i.size, i.bytes)) = some (some z, size, bytes))
    (hzs : z.cells.size = size) (hsz : 0 < size) (hby : 0 < bytes)
    (v : Value) (n : Nat) (xs cs : List Value) (c H : Nat) (hs : a.eval s = v) (hown : w.ownsRow base e size v n xs) (hH : w.heap.size = H) (hx : a.eval x = .slice (some ⟨H, 0, none⟩) 1 c)
    (hl : cs.length = size) (h1 : ∀ u ∈ cs, u.oneCell' = true) (hn : (n + 1) * bytes ≤ 140737488355328) (hb : base ≤ w.heap.size)
    (h : ∀ v' w', w'.ownsRow base e size v' (n + 1) (xs ++ cs) → (w.alloc (.cells cs.toArray e)).grownBy w' v.ownBlock → (v'.ownBlock = v.ownBlock ∨ v'.ownBlock = some (w.heap.size + 1)) → wpList P ops Q rest (a.put o.dst v') w') :
    wpList P ops Q (o :: rest) a (w.alloc (.cells cs.toArray e)) := by
  subst hH
  obtain ⟨i, hi, hz, hsize, hbytes⟩ := info_parts hinfo
  have h63 : n + 1 ≤ maxLen := by
    have : (n + 1) * 1 ≤ (n + 1) * bytes := Nat.mul_le_mul_left _ hby
    unfold maxLen; omega
  refine wpList_append_own_at _ hgd s x t ho base e i z size bytes ht hi hz hsize hbytes hzs hsz v n xs hs (hown.alloc _) ⟨w.heap.size, 0, none⟩ 1 c cs hx (by omega) ?_ h1 h63 hn (by rw [World.size_alloc]; omega) ?_
  · exact World.news_of_block (B := w.heap.size) (cs := cs.toArray) (heap_alloc_new w _)
  · intro v' w' h2 h3 _ h5
    rw [World.size_alloc] at h5
    exact h v' w' h2 h3 h5
set_option maxRecDepth 100000 in
set_option maxHeartbeats 2000000 in
theorem rnew_any (n : Nat) (hn : n ≤ 8192) (w : World) : Calls Try.prog 22 #[.int .i64 (n : Int)] w fun e w' => ∃ h, e = .returned (.pointer (some ⟨h.P, 0, none⟩)) ∧ RefAt w' w.heap.size h (newS n) ∧ Kept w w' := by
  have HN := hid noughts_any
  obtain ⟨is, his, hzs, hss, hbs⟩ := info_parts info_string
  go_enter Try.func22, Try.ntmps22
  go_wp2
  go_loopw [4] (fun t wr => ∃ (k : Nat) (vH vF : Value), k ≤ n ∧ t = .int .i64 k ∧ RNew wr w.heap.size k k vH vF ∧ Kept w wr) (fun t _ => n - (intOf t).toNat)
  case atStart =>
    exact ⟨0, .slice none 0 0, .slice none 0 0, by omega, rfl, ⟨heap_alloc_new w _, World.ownsRow_nil _ _ _ _, World.ownsRow_nil _ _ _ _⟩, (Kept.refl w).alloc _⟩
  case round =>
    obtain ⟨k, vH, vF, hk, rfl, hr, hkr⟩ := hrel
    have HR := hid hr; have HK := hid hkr
    have hP0 : (wr.heap[w.heap.size]?) = _ := hr.hP
    have c0 : wr.cell? ⟨w.heap.size, 0, none⟩ = some vH := by simp [World.cell?, hP0]
    clear hr hkr
    by_cases hlt : k < n
    · clear hP0
      have hl2 : (k : Int) < (n : Int) := by omega
      go_wp2_with fail
      have f0 : wr.frozen? ⟨w.heap.size, 0, none⟩ = false := by simp [World.frozen?, HR.out.hP]
      go_region_law (first
        | (go_simp; go_at_call 38; (with_reducible refine (HN.out _).mono ?_); rintro e w2 ⟨rfl, k2⟩; have K2 := hid (HK.out.drew.trans k2); have R2 := hid (show RNew w2 w.heap.size k k vH vF from ⟨(k2.block _ (Array.getElem?_eq_some_iff.1 HR.out.hP).1).trans HR.out.hP, k2.row HR.out.hH, k2.row HR.out.hF⟩); have d0 : w2.cell? ⟨w.heap.size, 0, none⟩ = some vH := k2.keeps c0)
        | ((refine step_append_lies (w := (w2.alloc (.cells #[.string (bstr (rep 0))] 9))) (by rfl) (.tmp 16) (.tmp 18) 34 (by rfl) w.heap.size 9 is _ 1 16 Try.underlying34 his hzs hss hbs (by rfl) (by decide) vH k (textsF (newS k)) (by rfl) (R2.out.hH.alloc _) ⟨w2.heap.size, 0, none⟩ 1 1 [.string (bstr (rep 0))] (by rfl) (by rfl) ?_ ?_ (by decide) ?_ ?_ ?_ (w2.heap.size + 1) (by simp) ?_; (focus exact World.news_of_block (heap_alloc_new w2 _)); (focus (simp [Value.oneCell'])); (focus (unfold maxLen; omega)); (focus omega); (focus (have := K2.out.size; simp; omega))); intro g cap w3 hown3 hgr3 hat3 hlt3; obtain ⟨r3, k3, f3⟩ := R2.out.pushH _ hown3 hgr3; have R3 := hid r3; have K3 := hid ((K2.out.alloc _).grown hgr3 (fun q hq => (R2.out.hH.lt q hq).1)); clear hown3 hgr3 hat3 hlt3 r3))
      all_goals (
        have K4 := hid (K3.out.setCell (p := ⟨w.heap.size, 0, none⟩) (Nat.le_refl _) (Value.slice (some { block := g, off := 0 }) (k + 1) cap))
        generalize hv3 : (Value.slice (some { block := g, off := 0 }) (k + 1) cap) = v3 at *
        clear hv3
        generalize hw4 : w3.setCell { block := w.heap.size, off := 0 } v3 = w4 at *
        clear hw4
        have c1 : w4.cell? ⟨w.heap.size, 1, none⟩ = some vF := by simp [World.cell?, R3.out.hP]
        have c10 : (w4.alloc (.cells #[.int .i64 0] 3)).cell? ⟨w.heap.size, 1, none⟩ = some vF := (Kept.refl w4).alloc _ |>.keeps c1
        have hsz : w.heap.size ≤ w4.heap.size := K4.out.size
        clear k3 f3 d0 k2 c0
        go_wp2_with (at_builtin; (refine wpList_pushB (w := w4) rfl (.tmp 26) (.tmp 27) 23 rfl w.heap.size 3 (.int .i64 0) 1 8 Try.underlying23 info_int4 rfl (by decide) (by decide) vF k (faultsF (newS k)) [.int .i64 0] 1 _ rfl R3.out.hF rfl rfl rfl (by simp [Value.oneCell']) (by omega) hsz ?_); intro v' w' hown' hgr' hat'; obtain ⟨A', cv', rfl⟩ := ownsRow_shape hown'; obtain ⟨r5, k5, f5⟩ := R3.out.pushF _ hown' hgr'; have R5 := hid r5; have K5 := hid ((K4.out.alloc _).grown hgr' (fun q hq => (R3.out.hF.lt q hq).1)); clear hown' hgr' hat' r5)
        go_roundw
        case rel => exact ⟨k + 1, v3, _, by omega, by go_num, R5.out, K5.out.setCell (Nat.le_refl _) _⟩
        case measure => simp [intOf]; omega)
    · obtain rfl : k = n := by omega
      have hl2 : ¬ (k : Int) < (k : Int) := by omega
      go_wp2
      go_ret
      exact ⟨⟨w.heap.size, vH, vF, .slice none 0 0⟩, rfl, ⟨HR.out.hP, HR.out.hH, HR.out.hF, World.ownsRow_nil _ _ _ _, Nat.le_refl _⟩, HK.out⟩
end
end Go.Proofs.Ytpbmkokjjcdhfaa
