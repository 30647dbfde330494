/- The device: Write, where it is taken. -/
import Derived.Test.Ytpbmkokjjcdhfaa4G
import Derived.Deep.Cut
import Derived.Deep.AppendLies
import Derived.Deep.RegionLaw
namespace Go.Proofs.Ytpbmkokjjcdhfaa
set_option linter.unusedSimpArgs false
set_option linter.unusedVariables false
open Go.RowKit
attribute [local go_sem ↓] run_array_block

theorem range_setCell {w : World} {b o : Nat} {cs : List Value} (h : w.rangeAt b o cs) {p : Addr} (hb : b ≠ p.block) (v : Value) : (w.setCell p v).rangeAt b o cs := fun j u hu => (World.cell?_of_block (w := w) (a := ⟨b, o + j, none⟩) (Below.heap_setCell _ _ _ _ hb)).trans (h j u hu)
theorem range_heap {w w' : World} {b o : Nat} {cs : List Value} (h : w.rangeAt b o cs) (e : w'.heap[b]? = w.heap[b]?) : w'.rangeAt b o cs := fun j u hu => (World.cell?_of_block (w := w) (a := ⟨b, o + j, none⟩) e).trans (h j u hu)
theorem grown_drew {w w' : World} {r : Option Nat} (h : w.drew.grownBy w' r) : w.grownBy w' r := ⟨h.os, h.tape, h.output, h.size, h.block⟩
theorem info_write : (Try.prog.info? 67).map (fun i => (i.zero, i.size, i.bytes)) = some (some (.agg zeroW), 129, 136) := by kernel_rfl
section
variable {w : World} {B : Nat} {h : DH} {S : DS}
set_option maxRecDepth 100000 in
set_option maxHeartbeats 4000000 in
theorem write_ok (i : Int) (vb : Value) (l : List UInt8) (w : World) (d : DevAt w B h S) (hb : BIn h w vb l) (hok : wrE S i l.length = 0) (hpl : S.pend.length ≤ 1000) :
    Calls Try.prog 9 #[.pointer (some ⟨h.P, 0, none⟩), .int .i64 i, vb] w (DPost (.int .i64 (wrE S i l.length)) (wrS S i l) B h w) := by
  have HT := hid (there_any i w d)
  have hn := d.ok.n2
  have hbb : isB S.n i = true := by
    cases hbb : isB S.n i with
    | true => rfl
    | false => rw [wrE, if_pos hbb] at hok; cases hok
  have hl : l.length = 128 := by
    rcases Nat.decEq l.length 128 with hh | hh
    · rw [wrE, if_neg (by simp [hbb]), if_pos hh] at hok; cases hok
    · exact hh
  have hse : spendE S = 0 := by
    rcases Int.decEq (spendE S) 0 with hh | hh
    · rw [wrE, if_neg (by simp [hbb]), if_neg (by simp [hl]), if_pos hh] at hok; exact absurd hok hh
    · exact hh
  have hfl : (S.flt i).getD 0 = 0 ∨ (S.flt i).getD 0 = 1 := by
    rw [wrE, if_neg (by simp [hbb]), if_neg (by simp [hl]), if_neg (by simp [hse])] at hok
    cases hfc : S.flt i with
    | none => simp
    | some v =>
      have := d.ok.flt i v hfc
      rw [hfc] at hok
      simp only [Option.getD_some] at hok ⊢
      split at hok
      · cases hok
      · omega
  obtain ⟨hi0, hi1⟩ := isB_t hbb
  obtain ⟨q, rfl⟩ : ∃ q : Nat, i = (q : Int) := ⟨i.toNat, by omega⟩
  have HS := hid (show wrS S q l = { spendS S with pend := (spendS S).pend ++ [(q, l)] } by rw [wrS, if_neg (by simp [hbb, hl]), if_pos hok]; rfl)
  rw [hok, HS.out]
  have HSP := hid (spend_any w d)
  rw [hse] at HSP
  rw [hbb] at HT
  have hqn : q < S.n := by omega
  obtain ⟨A, c, rfl, hl1, hl2, hl3⟩ := hb
  obtain ⟨bb, bo, rfl, hrw, how⟩ := hl3 (by omega)
  have HRW := hid hrw; have HOW := hid how
  have HLL := hid hl
  rw [hl] at hl1 ⊢
  clear hl
  obtain ⟨T, hTe⟩ : ∃ T, T = spendS S := ⟨_, rfl⟩
  have hTn : T.n = S.n := by rw [hTe]; rfl
  have hTf : T.flt = S.flt := by rw [hTe]; rfl
  have hTp : T.pend = S.pend := by rw [hTe]; rfl
  rw [← hTe] at HSP ⊢
  have hqT : q < T.n := by omega
  have hpT : T.pend.length ≤ 1000 := by rw [hTp]; exact hpl
  have hT2 : T.n ≤ 8192 := by omega
  have HFL := hid (fun (w' : World) (h' : DH) (d' : DevAt w' B h' T) => (⟨d'.c3, by rw [← hTf]; exact d'.hF.look (q : Int) (by omega) (by omega)⟩ : w'.cell? ⟨h'.P, 3, none⟩ = some (.map (some h'.gF)) ∧ (Instr.lookup 59 (.map (some h'.gF)) (.int .i64 (q : Int)) false).run Try.prog w' = .ok (.int .i64 ((S.flt (q : Int)).getD 0)) w'))
  clear hok hbb HS hse hl3 hrw how hTe hTn hTf hTp hpl hn hqn
  clear hi1 d
  have hq8 : (q : Int) ≤ 8192 := by omega
  generalize (S.flt (q : Int)).getD 0 = v at *
  obtain ⟨P, hP⟩ : ∃ P, P = h.P := ⟨_, rfl⟩
  rw [← hP] at HT HSP ⊢
  have HPh := hid hP
  clear hP
  have hbits : (bits .and .i64 v 2 != 0) = false := by rcases hfl with rfl | rfl <;> decide
  clear hfl
  go_enter Try.func9, Try.ntmps9
  go_wp2_with (first
    | (go_at_call 32; refine HT.out.mono ?_; rintro e w2 ⟨rfl, rfl⟩)
    | (go_at_call 33; refine HSP.out.mono ?_; rintro e w1 ⟨rfl, h1, d1, s1⟩; have D1 := hid d1; have S1 := hid s1; obtain ⟨c3, hlook⟩ := HFL.out _ _ d1; rw [s1.P, ← HPh.out] at c3; clear d1 s1))
  have hP1 : h1.P = P := by rw [HPh.out]; exact S1.out.P
  have c1 := D1.out.c1
  have c2 := D1.out.c2
  have f1 := D1.out.fz 1
  have d1d : DevAt w1.drew B h1 T := D1.out.drew
  obtain ⟨Av, cv, hvp⟩ := ownsRow_shape D1.out.hp
  obtain ⟨w2, hput, hm2, ht2⟩ := d1d.hN.put (by omega) (q : Int) (T.pend.length : Int) (by omega) (by omega) (by omega) (by omega)
  have hPl := (Array.getElem?_eq_some_iff.1 D1.out.hP).1
  have hP2 : w2.heap[h1.P]? = w1.heap[h1.P]? := ht2.grown.block _ hPl (by simpa using D1.out.apart.PN)
  have k1 : w2.cell? ⟨h1.P, 1, none⟩ = some h1.vp := (World.cell?_of_block (w := w1) (a := ⟨h1.P, 1, none⟩) hP2).trans c1
  have k2 : w2.cell? ⟨h1.P, 2, none⟩ = some (.map (some h1.gN)) := (World.cell?_of_block (w := w1) (a := ⟨h1.P, 2, none⟩) hP2).trans c2
  have kf : w2.frozen? ⟨h1.P, 1, none⟩ = false := (World.frozen?_of_block (w := w1) (a := ⟨h1.P, 1, none⟩) hP2).trans f1
  rw [hP1] at c1 c2 k1 k2 kf f1
  rw [hvp] at c1 k1
  have HM2 := hid hm2; have HT2 := hid ht2; have HVP := hid hvp
  have HP1 := hid hP1
  clear hm2 ht2 hvp d1d hP2 hPl hlook c3 f1 hP1
  obtain ⟨gN, hgN⟩ : ∃ gN, gN = h1.gN := ⟨_, rfl⟩
  rw [← hgN] at c2 hput k2
  have HGN := hid hgN
  clear hgN
  obtain ⟨np, hnp⟩ : ∃ np, np = T.pend.length := ⟨_, rfl⟩
  rw [← hnp] at c1 k1 hput hpT
  have HNP := hid hnp
  clear hnp
  go_region_held3 (fun w' => w'.cell? ⟨P, 1, none⟩ = some (.slice Av np cv) ∧ w'.cell? ⟨P, 2, none⟩ = some (.map (some gN)))
    (first | exact ⟨c1, c2⟩ | exact ⟨k1, k2⟩) (fail)
  clear c1 c2 k2
  have hll := HLL.out
  have hr1 := S1.out.range HOW.out HRW.out
  have hou := S1.out.outs HOW.out
  have a1 := D1.out.apart
  have hbP : bb ≠ P := by rw [← HP1.out]; exact fun e => hou.2 (.inl e)
  have hr2 : w2.rangeAt bb bo (bcells l) := range_heap (w := w1) hr1 (HT2.out.grown.block _ hou.1 (by have := fun e => hou.2 (.inr (.inr (.inl e))); simpa using this))
  have hbs2 : bb < w2.heap.size := Nat.lt_of_lt_of_le hou.1 HT2.out.grown.size
  have hown2 : w2.ownsRow B 67 129 (.slice Av np cv) np (pcells T.pend) := by
    have h := D1.out.hp
    rw [HVP.out, ← HNP.out] at h
    refine World.ownsRow.kept (w := w1.drew) h HT2.out.grown (.inr ?_)
    have := a1.vN
    rw [HVP.out, ← HNP.out] at this
    exact this
  have hvP : (Value.slice Av np cv).ownBlock ≠ some P := by rw [← HP1.out]; have := a1.vP; rwa [HVP.out, ← HNP.out] at this
  have hvb : (Value.slice Av np cv).ownBlock ≠ some bb := fun e => hou.2 (.inr (.inr (.inr (.inr (by rw [HVP.out, ← HNP.out]; exact e)))))
  have hPs2 : P < w2.heap.size := by
    have := (Array.getElem?_eq_some_iff.1 D1.out.hP).1
    have h2 := HT2.out.grown.size
    rw [HP1.out] at this
    exact Nat.lt_of_lt_of_le this h2
  have hBs : B ≤ w2.heap.size := Nat.le_trans D1.out.size_le HT2.out.grown.size
  have hu := Try.underlying65
  have hi : (Try.prog.info? 65).map (·.size) = some (bcells l).length := by rw [info_size_block, bcells_len, hll]
  obtain ⟨iw, hiw, hzw, hsw, hbw⟩ := info_parts info_write
  have hO := hid hown2
  have hzv := zero_write
  have hz1 : ¬ zeroW = #[] := by intro e; have := zeroW_size; rw [e] at this; cases this
  have hz2 := zeroW_size
  have hz3 : (bcells l).length = 128 := by rw [bcells_len, hll]
  have hz4 : List.foldl (fun cs (x : Value × Nat) => cs.setIfInBounds (1 + x.snd) x.fst) (zeroW.setIfInBounds 0 (Value.int .i64 (q : Int))) (bcells l).zipIdx = (wcells (q : Int) l).toArray := by
    rw [foldl_splice (bcells l) 1 0]; exact splice_write _ _ hll
  have hz5 : (wcells (q : Int) l).length = 129 := wcells_len _ _ hll
  have hz6 : ∀ cs : Array Value, cs.size = 129 → List.foldl (fun cs (x : Value × Nat) => cs.setIfInBounds x.snd x.fst) cs (wcells (q : Int) l).zipIdx = (wcells (q : Int) l).toArray := by
    intro cs hcs
    have := foldl_splice (wcells (q : Int) l) 0 0 cs
    simp only [Nat.zero_add] at this
    rw [this, splice_all _ _ (by rw [hcs, hz5])]
  clear hr1 hou hown2 HT HSP HFL
  go_wp2_with fail
  refine wp_region_held_drew (S := fun w' => w'.rangeAt bb bo (bcells l)) (by kernel_rfl) hr2 (fun hHeld => ?_)
  refine wpAnyH_take (i := 0) (v := ?_) rfl (by kernel_rfl) (by kernel_rfl) (by kernel_rfl) (fun _ _ _ h => h) (Or.inl ⟨by rfl, ?_⟩) (by assumption) ?_
  rotate_left
  focus (intro w hSw; go_simp; first | done | with_reducible rfl)
  (try simp only [Act.put, List.setIfInBounds_toArray, List.set_cons_zero, List.set_cons_succ])
  refine wpAnyH_take (i := 1) (v := ?_) rfl (by kernel_rfl) (by kernel_rfl) (by kernel_rfl) (fun _ _ _ h => h) (Or.inl ⟨by rfl, ?_⟩) (by assumption) ?_
  rotate_left
  focus (intro w hSw; go_simp; first | done | with_reducible rfl)
  (try simp only [Act.put, List.setIfInBounds_toArray, List.set_cons_zero, List.set_cons_succ])
  refine wpAnyH_take (i := 2) (v := ?_) rfl (by kernel_rfl) (by kernel_rfl) (by kernel_rfl) (fun _ _ _ h => h) (Or.inl ⟨by rfl, ?_⟩) (by assumption) ?_
  rotate_left
  focus (intro w hSw; go_simp; first | done | with_reducible rfl)
  (try simp only [Act.put, List.setIfInBounds_toArray, List.set_cons_zero, List.set_cons_succ])
  refine wpAnyH_take (i := 3) (v := ?_) rfl (by kernel_rfl) (by kernel_rfl) (by kernel_rfl) (fun _ _ _ h => h) (Or.inl ⟨by rfl, ?_⟩) (by assumption) ?_
  rotate_left
  focus (intro w hSw; go_simp; first | done | with_reducible rfl)
  (try simp only [Act.put, List.setIfInBounds_toArray, List.set_cons_zero, List.set_cons_succ])
  refine wpAnyH_take (i := 5) (v := ?_) rfl (by kernel_rfl) (by kernel_rfl) (by kernel_rfl) (fun _ _ _ h => h) (Or.inl ⟨by rfl, ?_⟩) (by assumption) ?_
  rotate_left
  focus (intro w hSw; go_simp; first | done | with_reducible rfl)
  (try simp only [Act.put, List.setIfInBounds_toArray, List.set_cons_zero, List.set_cons_succ])
  refine wpAnyH_take (i := 6) (v := ?_) rfl (by kernel_rfl) (by kernel_rfl) (by kernel_rfl) (fun _ _ _ h => h) (Or.inl ⟨by rfl, ?_⟩) (by assumption) ?_
  rotate_left
  focus (intro w hSw; go_simp; first | done | with_reducible rfl)
  (try simp only [Act.put, List.setIfInBounds_toArray, List.set_cons_zero, List.set_cons_succ])
  refine wpAnyH_take (i := 7) (v := ?_) rfl (by kernel_rfl) (by kernel_rfl) (by kernel_rfl) (fun _ _ _ h => h) (Or.inl ⟨by rfl, ?_⟩) (by assumption) ?_
  rotate_left
  focus (intro w hSw; go_simp; first | done | with_reducible rfl)
  (try simp only [Act.put, List.setIfInBounds_toArray, List.set_cons_zero, List.set_cons_succ])
  refine wpAnyH_take (i := 8) (v := _) rfl (by kernel_rfl) (by kernel_rfl) (by kernel_rfl) (fun _ _ _ h => h) (yieldsIf_load_mid (by rfl) 65 (.tmp 47) rfl bb bo rfl (bcells l) _ (fun w hSw => hSw) hu rfl hi) (by assumption) ?_
  (try simp only [Act.put, List.setIfInBounds_toArray, List.set_cons_zero, List.set_cons_succ])
  refine wpAnyH_take (i := 9) (v := ?_) rfl (by kernel_rfl) (by kernel_rfl) (by kernel_rfl) (fun _ _ _ h => h) (Or.inl ⟨by rfl, ?_⟩) (by assumption) ?_
  rotate_left
  focus (intro w hSw; go_simp; first | done | with_reducible rfl)
  (try simp only [Act.put, List.setIfInBounds_toArray, List.set_cons_zero, List.set_cons_succ])
  refine wpAnyH_ready (rs := [4, 10]) (by kernel_rfl) (by simp) ?_
  refine AllReadyH.cons rfl (fun K hK => ?_) ?_
  · go_simp
    refine hK.out _ _ (hr2) (fun hHeld => ?_)
    clear hK K
    (try simp only [Act.put, List.setIfInBounds_toArray, List.set_cons_zero, List.set_cons_succ])
    refine wpAnyH_ready (rs := [10]) (by kernel_rfl) (by simp) ?_
    refine AllReadyH.cons rfl (fun K hK => ?_) ?_
    · go_simp
      refine hK.out _ _ (World.rangeAt_alloc hr2 _) (fun hHeld => ?_)
      clear hK K
      (try simp only [Act.put, List.setIfInBounds_toArray, List.set_cons_zero, List.set_cons_succ])
      refine wpAnyH_ready (rs := [11]) (by kernel_rfl) (by simp) ?_
      refine AllReadyH.cons rfl (fun K hK => ?_) ?_
      · (refine step_append_lies (w := (w2.alloc (.cells (wcells (q : Int) l).toArray 67)).drew) (by rfl) (.tmp 44) (.tmp 50) 60 (by rfl) B 67 iw (.agg zeroW) 129 136 Try.underlying60 hiw hzw hsw hbw zeroW_size (by decide) (.slice Av np cv) np (pcells T.pend) (by rfl) (hO.out.alloc _) ⟨w2.heap.size, 0, none⟩ 1 1 (wcells (q : Int) l) (by rfl) (by rw [wcells_len _ _ hll]) ?_ ?_ (by decide) ?_ ?_ ?_ (w2.heap.size + 1) (by simp) ?_; (focus exact World.news_of_block (heap_alloc_new w2 _)); (focus (intro u hu; rcases List.mem_cons.1 hu with rfl | hu; exact rfl; exact bcells_one l u hu)); (focus (unfold maxLen; omega)); (focus omega); (focus (simp; omega)); intro g cap w3 hown3 hgr3 hat3 hlt3; have O3 := hid hown3; have G3 := hid hgr3; have A3 := hid hat3; have hr3 : w3.rangeAt bb bo (bcells l) := range_heap (World.rangeAt_alloc hr2 _) (hgr3.block _ (by simp; omega) (fun e => hvb e.symm)); have k3 : w3.cell? ⟨P, 1, none⟩ = some (.slice Av np cv) := (World.cell?_of_block (w := w2) (a := ⟨P, 1, none⟩) ((hgr3.block _ (by simp; omega) (fun e => hvP e.symm)).trans (Below.heap_alloc w2 _ _ hPs2))).trans k1; have kf3 : w3.frozen? ⟨P, 1, none⟩ = false := (World.frozen?_of_block (w := w2) (a := ⟨P, 1, none⟩) ((hgr3.block _ (by simp; omega) (fun e => hvP e.symm)).trans (Below.heap_alloc w2 _ _ hPs2))).trans kf; clear hown3 hgr3 hat3 hlt3)
        refine hK.out _ _ (hr3) (fun hHeld => ?_)
        clear hK K
        (try simp only [Act.put, List.setIfInBounds_toArray, List.set_cons_zero, List.set_cons_succ])
        refine wpAnyH_take (i := 12) (v := ?_) rfl (by kernel_rfl) (by kernel_rfl) (by kernel_rfl) (fun _ _ _ h => h) (Or.inl ⟨by rfl, ?_⟩) (by assumption) ?_
        rotate_left
        focus (intro w hSw; go_simp; first | done | with_reducible rfl)
        (try simp only [Act.put, List.setIfInBounds_toArray, List.set_cons_zero, List.set_cons_succ])
        refine wpAnyH_take (i := 13) (v := ?_) rfl (by kernel_rfl) (by kernel_rfl) (by kernel_rfl) (fun _ _ _ h => h) (Or.inl ⟨by rfl, ?_⟩) (by assumption) ?_
        rotate_left
        focus (intro w hSw; go_simp; first | done | with_reducible rfl)
        (try simp only [Act.put, List.setIfInBounds_toArray, List.set_cons_zero, List.set_cons_succ])
        refine wpAnyH_ready (rs := [14]) (by kernel_rfl) (by simp) ?_
        refine AllReadyH.cons rfl (fun K hK => ?_) ?_
        · go_simp
          refine hK.out _ _ (range_setCell hr3 hbP _) (fun hHeld => ?_)
          clear hK K
          (try simp only [Act.put, List.setIfInBounds_toArray, List.set_cons_zero, List.set_cons_succ])
          refine wpAnyH_done (by kernel_rfl) ?_ _
          have PU := (D1.out.drew).pushed q l hqT hll HM2.out HT2.out (.slice (some ⟨g, 0, none⟩) (np + 1) cap) (by rw [← HNP.out]; exact O3.out) _ (by rw [HVP.out, ← HNP.out]; exact grown_drew G3.out) (by rw [HVP.out, ← HNP.out]; rcases A3.out with e | e; exact .inl e.symm; exact .inr (by rw [e]; rfl))
          rw [HP1.out] at PU
          have HPU := hid PU
          clear PU
          go_wp2_with fail
          go_ret
          exact ⟨rfl, _, HPU.out.1, S1.out.trans (((Kept.refl w1).drew.step h1).trans HPU.out.2)⟩
        exact AllReadyH.nil
      exact AllReadyH.nil
    exact AllReadyH.nil
  refine AllReadyH.cons rfl (fun K hK => ?_) ?_
  · go_simp
    refine hK.out _ _ (World.rangeAt_alloc hr2 _) (fun hHeld => ?_)
    clear hK K
    (try simp only [Act.put, List.setIfInBounds_toArray, List.set_cons_zero, List.set_cons_succ])
    refine wpAnyH_ready (rs := [4]) (by kernel_rfl) (by simp) ?_
    refine AllReadyH.cons rfl (fun K hK => ?_) ?_
    · go_simp
      refine hK.out _ _ (World.rangeAt_alloc hr2 _) (fun hHeld => ?_)
      clear hK K
      (try simp only [Act.put, List.setIfInBounds_toArray, List.set_cons_zero, List.set_cons_succ])
      refine wpAnyH_ready (rs := [11]) (by kernel_rfl) (by simp) ?_
      refine AllReadyH.cons rfl (fun K hK => ?_) ?_
      · (refine step_append_lies (w := (w2.alloc (.cells (wcells (q : Int) l).toArray 67)).drew) (by rfl) (.tmp 44) (.tmp 50) 60 (by rfl) B 67 iw (.agg zeroW) 129 136 Try.underlying60 hiw hzw hsw hbw zeroW_size (by decide) (.slice Av np cv) np (pcells T.pend) (by rfl) (hO.out.alloc _) ⟨w2.heap.size, 0, none⟩ 1 1 (wcells (q : Int) l) (by rfl) (by rw [wcells_len _ _ hll]) ?_ ?_ (by decide) ?_ ?_ ?_ (w2.heap.size + 1) (by simp) ?_; (focus exact World.news_of_block (heap_alloc_new w2 _)); (focus (intro u hu; rcases List.mem_cons.1 hu with rfl | hu; exact rfl; exact bcells_one l u hu)); (focus (unfold maxLen; omega)); (focus omega); (focus (simp; omega)); intro g cap w3 hown3 hgr3 hat3 hlt3; have O3 := hid hown3; have G3 := hid hgr3; have A3 := hid hat3; have hr3 : w3.rangeAt bb bo (bcells l) := range_heap (World.rangeAt_alloc hr2 _) (hgr3.block _ (by simp; omega) (fun e => hvb e.symm)); have k3 : w3.cell? ⟨P, 1, none⟩ = some (.slice Av np cv) := (World.cell?_of_block (w := w2) (a := ⟨P, 1, none⟩) ((hgr3.block _ (by simp; omega) (fun e => hvP e.symm)).trans (Below.heap_alloc w2 _ _ hPs2))).trans k1; have kf3 : w3.frozen? ⟨P, 1, none⟩ = false := (World.frozen?_of_block (w := w2) (a := ⟨P, 1, none⟩) ((hgr3.block _ (by simp; omega) (fun e => hvP e.symm)).trans (Below.heap_alloc w2 _ _ hPs2))).trans kf; clear hown3 hgr3 hat3 hlt3)
        refine hK.out _ _ (hr3) (fun hHeld => ?_)
        clear hK K
        (try simp only [Act.put, List.setIfInBounds_toArray, List.set_cons_zero, List.set_cons_succ])
        refine wpAnyH_take (i := 12) (v := ?_) rfl (by kernel_rfl) (by kernel_rfl) (by kernel_rfl) (fun _ _ _ h => h) (Or.inl ⟨by rfl, ?_⟩) (by assumption) ?_
        rotate_left
        focus (intro w hSw; go_simp; first | done | with_reducible rfl)
        (try simp only [Act.put, List.setIfInBounds_toArray, List.set_cons_zero, List.set_cons_succ])
        refine wpAnyH_take (i := 13) (v := ?_) rfl (by kernel_rfl) (by kernel_rfl) (by kernel_rfl) (fun _ _ _ h => h) (Or.inl ⟨by rfl, ?_⟩) (by assumption) ?_
        rotate_left
        focus (intro w hSw; go_simp; first | done | with_reducible rfl)
        (try simp only [Act.put, List.setIfInBounds_toArray, List.set_cons_zero, List.set_cons_succ])
        refine wpAnyH_ready (rs := [14]) (by kernel_rfl) (by simp) ?_
        refine AllReadyH.cons rfl (fun K hK => ?_) ?_
        · go_simp
          refine hK.out _ _ (range_setCell hr3 hbP _) (fun hHeld => ?_)
          clear hK K
          (try simp only [Act.put, List.setIfInBounds_toArray, List.set_cons_zero, List.set_cons_succ])
          refine wpAnyH_done (by kernel_rfl) ?_ _
          have PU := (D1.out.drew).pushed q l hqT hll HM2.out HT2.out (.slice (some ⟨g, 0, none⟩) (np + 1) cap) (by rw [← HNP.out]; exact O3.out) _ (by rw [HVP.out, ← HNP.out]; exact grown_drew G3.out) (by rw [HVP.out, ← HNP.out]; rcases A3.out with e | e; exact .inl e.symm; exact .inr (by rw [e]; rfl))
          rw [HP1.out] at PU
          have HPU := hid PU
          clear PU
          go_wp2_with fail
          go_ret
          exact ⟨rfl, _, HPU.out.1, S1.out.trans (((Kept.refl w1).drew.step h1).trans HPU.out.2)⟩
        exact AllReadyH.nil
      exact AllReadyH.nil
    exact AllReadyH.nil
  exact AllReadyH.nil
end
end Go.Proofs.Ytpbmkokjjcdhfaa
