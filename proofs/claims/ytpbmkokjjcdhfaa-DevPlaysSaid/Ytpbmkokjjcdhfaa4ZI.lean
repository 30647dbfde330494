/- DevPlays: the walk. -/
import Derived.Test.Ytpbmkokjjcdhfaa4ZH
import Derived.Deep.CutBlock
import Derived.Deep.DeepCutAuto
namespace Go.Proofs.Ytpbmkokjjcdhfaa
set_option linter.unusedSimpArgs false
set_option linter.unusedVariables false
open Go.RowKit

structure Nic (n k : Nat) (S : DS) : Prop where
  n : S.n = n
  fn : S.fn ≤ k
  pd : S.pend.length ≤ k
section
variable {n k : Nat} {S : DS}
theorem Nic.up (h : Nic n k S) : Nic n (k + 1) S := ⟨h.n, by have := h.fn; omega, by have := h.pd; omega⟩
theorem Nic.spend (h : Nic n k S) : Nic n k (spendS S) := ⟨h.n, h.fn, h.pd⟩
theorem Nic.wr (h : Nic n k S) (i : Int) (l : List UInt8) : Nic n (k + 1) (wrS S i l) := by
  unfold wrS
  split
  · exact h.up
  · split
    · exact ⟨h.n, h.up.fn, by have := h.pd; simp only [List.length_append, List.length_cons, List.length_nil]; omega⟩
    · exact h.spend.up
theorem Nic.fl (h : Nic n k S) : Nic n (k + 1) (flS S) := by
  unfold flS
  split
  · exact ⟨h.n, h.up.fn, by simp⟩
  · exact h.spend.up
theorem Nic.era (h : Nic n k S) : Nic n (k + 1) (eraS S) := by
  unfold eraS
  split
  · exact ⟨h.n, h.up.fn, by simp⟩
  · exact h.spend.up
theorem Nic.cr (h : Nic n k S) (L : List Int) : Nic n (k + 1) (crS S L) := ⟨h.n, h.up.fn, by simp [crS]⟩
theorem Nic.on (h : Nic n k S) : Nic n (k + 1) { S with pow := true, bud := -1, pend := [] } := ⟨h.n, h.up.fn, by simp⟩
theorem Nic.flt (h : Nic n k S) (i j : Int) : Nic n (k + 1) (fltS S i j) := by
  unfold fltS
  split
  · exact ⟨h.n, h.up.fn, h.up.pd⟩
  · exact ⟨h.n, by have := h.fn; show S.fn + 1 ≤ k + 1; omega, h.up.pd⟩
theorem Nic.sp (h : Nic n k S) (i : Int) (l : List UInt8) : Nic n (k + 1) (spS S i l) := by
  unfold spS
  split
  · exact ⟨h.n, h.up.fn, h.up.pd⟩
  · exact h.up
end
structure PL (w : World) (P R n N k : Nat) (h : DH) (r : RH) (S : DS) (wr : World) : Prop where
  kn : k ≤ N
  k50 : k ≤ 50
  t : Two wr w.heap.size P R S S h r
  nic : Nic n k S
  kept : Kept w wr
theorem far_in {w wc : World} {P R : Nat} {S T : DS} {h : DH} {r : RH} {v : Value} {L : List Int} (f : Ints w v L) (k : Kept w wc) (t : Two wc w.heap.size P R S T h r) : NIn h wc v L ∧ RIn r wc v L := by
  obtain ⟨A, c, hv, h1, h2, -, h3⟩ := f
  have key : 0 < L.length → ∃ b o, A = some ⟨b, o, none⟩ ∧ Free h r wc b ∧ ∀ i, i < L.length → wc.cell? ⟨b, o + i, none⟩ = some (.int .i64 (L.getD i 0)) := by
    intro h0
    obtain ⟨b, o, hA, hc⟩ := h3 h0
    exact ⟨b, o, hA, t.low_free (cell_lt (hc 0 h0)), fun i hi => k.keeps (hc i hi)⟩
  refine ⟨⟨A, c, hv, h1, h2, fun h0 => ?_⟩, ⟨A, c, hv, h1, h2, fun h0 => ?_⟩⟩
  · obtain ⟨b, o, hA, hf, hc⟩ := key h0
    exact ⟨b, o, hA, ⟨hf.lt, hf.f⟩, hc⟩
  · obtain ⟨b, o, hA, hf, hc⟩ := key h0
    exact ⟨b, o, hA, ⟨hf.lt, hf.r⟩, hc⟩
theorem fltS_set (S : DS) (q : Nat) (k : Int) : ∃ f fn, fltS S (q : Int) k = { S with flt := f, fn := fn } ∧ ∀ j : Nat, (f (j : Int)).getD 0 = if j = q then k else (S.flt (j : Int)).getD 0 := by
  unfold fltS
  by_cases h : k = 0
  · refine ⟨_, _, by rw [if_pos h], fun j => ?_⟩
    by_cases e : j = q
    · subst e; simp [h]
    · simp [e, show ¬ (j : Int) = (q : Int) by omega]
  · refine ⟨_, _, by rw [if_neg h], fun j => ?_⟩
    by_cases e : j = q
    · subst e; simp
    · simp [e, show ¬ (j : Int) = (q : Int) by omega]
structure OW (w : World) (P R : Nat) (S : DS) (h : DH) (r : RH) (g : Nat) (wi : World) : Prop where
  t : Two wi w.heap.size P R S S h r
  kept : Kept w wi
  f : Free h r wi g
  b : ∃ G, BlkT wi g 5 128 G
theorem OW.set {w : World} {P R : Nat} {S : DS} {h : DH} {r : RH} {g : Nat} {wi : World} (o : OW w P R S h r g wi) (hg : w.heap.size ≤ g) (j : Nat) (hj : j < 128) (v : Value) : OW w P R S h r g (wi.setCell ⟨g, j, none⟩ v) := by
  obtain ⟨G, hG⟩ := o.b
  exact ⟨o.t.setCell o.f.f o.f.r v, o.kept.setCell hg v, ⟨by have := o.f.lt; simpa [World.setCell] using this, o.f.f, o.f.r⟩, ⟨_, hG.set1 j hj v⟩⟩
set_option maxRecDepth 100000 in
set_option maxHeartbeats 8000000 in
theorem plays_good {w : World} (n : Nat) (hn1 : 1 ≤ n) (hn2 : n ≤ 8192) (N : Nat) (F : Nat → Ac) (v : Value) (hA : Acts w v N F) (hF : ∀ i, (F i).ii ≤ 9223372036854775807) :
    Calls Try.prog 7 #[.int .i64 (n : Int), v] w fun e w' => e = .returned (.bool true) ∧ Kept w w' := by
  have HN := hid (new_any n hn1 hn2)
  have RN := hid (rnew_any n hn2)
  have AW := hid awake_any
  have HAC := hid (fun (c : UInt8) => all_at c _ rfl)
  have HSM := hid (fun (w' : World) (h : DH) (r : RH) (S : DS) (P R : Nat) (t : Two w' w.heap.size P R S S h r) (hp : S.pend.length ≤ 1000) => t_same w' t hp)
  obtain ⟨A, c, rfl, hnc, hc63, hcell⟩ := hA
  have HCE := hid hcell
  have HII := hid hF
  clear hcell hF
  have hd1 : decide ((n : Int) < 1) = false := decide_eq_false (by omega)
  have hd2 : decide (8192 < (n : Int)) = false := decide_eq_false (by omega)
  go_enter Try.func7, Try.ntmps7
  go_wp2_with (first
    | (go_at_call 8; refine (HN.out _).mono ?_; rintro e w1 ⟨h0, rfl, d0, k0⟩; have D0 := hid d0; have K0 := hid k0; clear d0 k0)
    | (go_at_call 22; refine (RN.out _).mono ?_; rintro e w2 ⟨r0, rfl, d1, k1⟩; have D1 := hid d1; have K1 := hid k1; clear d1 k1))
  obtain ⟨P, hP⟩ : ∃ P, P = h0.P := ⟨_, rfl⟩
  obtain ⟨R, hR⟩ : ∃ R, R = r0.P := ⟨_, rfl⟩
  have T0 := hid (⟨K1.out.dev D0.out, D1.out.lower K0.out.size, hP.symm, hR.symm⟩ : Two w2 w.heap.size P R (newS n) (newS n) h0 r0)
  have KB := hid (K0.out.trans K1.out)
  rw [← hP, ← hR]
  clear hd1 hd2 hP hR D0 D1 K0 K1
  go_loopw [8] (fun t wr => ∃ (k : Nat) (h : DH) (r : RH) (S : DS), t = .int .i64 k ∧ PL w P R n N k h r S wr) (fun t _ => 50 - (intOf t).toNat)
  case atStart => exact ⟨0, h0, r0, newS n, rfl, ⟨by omega, by omega, T0.out, ⟨rfl, by simp [newS], by simp [newS]⟩, KB.out⟩⟩
  case round =>
    obtain ⟨k, h, r, S, rfl, hl⟩ := hrel
    have HL := hid hl
    have hk1 := hl.kn; have hk2 := hl.k50
    clear hl T0 KB
    by_cases hlt : k < N ∧ k < 50
    · obtain ⟨hlt, hlt2⟩ := hlt
      have q0 : (0 : Int) ≤ (k : Int) := by omega
      have q1 : (k : Int) < (N : Int) := by omega
      have q2 : (k : Int) < 50 := by omega
      obtain ⟨b, o, rfl, hat⟩ := HCE.out (by omega)
      have hac := HL.out.kept.acAt (hat k hlt)
      have hii := HII.out k
      have HFW := hid (hat k hlt).fr
      clear hat
      generalize F k = ac at *
      obtain ⟨dd, ii, kk, cc, sh, fv, far⟩ := ac
      obtain ⟨Af, cf, hfv⟩ := hac.fr.shape
      dsimp only at hfv hii HFW
      subst hfv
      have c0 := hac.c0; have c1 := hac.c1; have c2 := hac.c2; have c3 := hac.c3; have c4 := hac.c4; have c5 := hac.c5
      have HFR := hid hac.fr
      dsimp only at c0 c1 c2 c3 c4 c5 HFR
      clear hac
      go_upto_region 11 with fail
      have TB := hid (((Kept.refl wr).alloc (.cells #[.int .i64 dd, .int .i64 ii, .int .i64 kk, .int .u8 (cc.toNat : Int), .bool sh, .slice Af far.length cf] 30)).two HL.out.t)
      have KB := hid (HL.out.kept.trans ((Kept.refl wr).alloc (.cells #[.int .i64 dd, .int .i64 ii, .int .i64 kk, .int .u8 (cc.toNat : Int), .bool sh, .slice Af far.length cf] 30)))
      have FB := hid (((Kept.refl wr).alloc (.cells #[.int .i64 dd, .int .i64 ii, .int .i64 kk, .int .u8 (cc.toNat : Int), .bool sh, .slice Af far.length cf] 30)).ints HFR.out)
      have g0 : (wr.alloc (.cells #[.int .i64 dd, .int .i64 ii, .int .i64 kk, .int .u8 (cc.toNat : Int), .bool sh, .slice Af far.length cf] 30)).cell? ⟨wr.heap.size, 0, none⟩ = some (.int .i64 dd) := by simp [go_sem]
      have g1 : (wr.alloc (.cells #[.int .i64 dd, .int .i64 ii, .int .i64 kk, .int .u8 (cc.toNat : Int), .bool sh, .slice Af far.length cf] 30)).cell? ⟨wr.heap.size, 1, none⟩ = some (.int .i64 ii) := by simp [go_sem]
      have g2 : (wr.alloc (.cells #[.int .i64 dd, .int .i64 ii, .int .i64 kk, .int .u8 (cc.toNat : Int), .bool sh, .slice Af far.length cf] 30)).cell? ⟨wr.heap.size, 2, none⟩ = some (.int .i64 kk) := by simp [go_sem]
      have g3 : (wr.alloc (.cells #[.int .i64 dd, .int .i64 ii, .int .i64 kk, .int .u8 (cc.toNat : Int), .bool sh, .slice Af far.length cf] 30)).cell? ⟨wr.heap.size, 3, none⟩ = some (.int .u8 (cc.toNat : Int)) := by simp [go_sem]
      have g4 : (wr.alloc (.cells #[.int .i64 dd, .int .i64 ii, .int .i64 kk, .int .u8 (cc.toNat : Int), .bool sh, .slice Af far.length cf] 30)).cell? ⟨wr.heap.size, 4, none⟩ = some (.bool sh) := by simp [go_sem]
      have g5 : (wr.alloc (.cells #[.int .i64 dd, .int .i64 ii, .int .i64 kk, .int .u8 (cc.toNat : Int), .bool sh, .slice Af far.length cf] 30)).cell? ⟨wr.heap.size, 5, none⟩ = some (.slice Af far.length cf) := by simp [go_sem]
      have HX := hid (HL.out.t.new_free ((Kept.refl wr).alloc (.cells #[.int .i64 dd, .int .i64 ii, .int .i64 kk, .int .u8 (cc.toNat : Int), .bool sh, .slice Af far.length cf] 30)) (Nat.le_refl _) (by simp))
      have HNI := hid HL.out.nic
      have HLT := hid hlt
      clear HL c0 c1 c2 c3 c4 c5 HFR HCE q0 q1 q2
      generalize (wr.alloc (.cells #[.int .i64 dd, .int .i64 ii, .int .i64 kk, .int .u8 (cc.toNat : Int), .bool sh, .slice Af far.length cf] 30)) = wb at *
      generalize wr.heap.size = bx at *
      go_cut [10] (fun t10 wx => t10 = .bool (isB n ii) ∧ wx = wb)
      case first => as_aux_lemma =>
        by_cases h0 : 0 ≤ ii
        · by_cases h1 : ii < (n : Int)
          · go_wp2_with fail
            go_meet
            exact ⟨by simp [isB]; omega, rfl⟩
          · have h1' : decide (ii < (n : Int)) = false := decide_eq_false h1
            go_wp2_with fail
            go_meet
            exact ⟨by simp [isB]; omega, rfl⟩
        · have h0' : decide (0 ≤ ii) = false := decide_eq_false h0
          go_wp2_with fail
          go_meet
          exact ⟨by simp [isB]; omega, rfl⟩
      case rest =>
        obtain ⟨rfl, rfl⟩ := hcut
        have TB' := TB
        go_upto_if 78 with (go_at_call 10; (with_reducible refine (HAC.out _ _).mono ?_); rintro e w2 ⟨g7, rfl, o7, l7, k7⟩; have T2 := hid (k7.two TB.out); have O7 := hid o7; have K2 := hid (KB.out.trans k7); have KW := hid k7; have n0 := k7.keeps g0; have n1 := k7.keeps g1; have n2 := k7.keeps g2; have n3 := k7.keeps g3; have n4 := k7.keeps g4; have n5 := k7.keeps g5; have X2 := hid ((k7.bs h r).free HX.out); have F2 := hid (k7.ints FB.out); have G7 := hid (TB.out.new_free k7 l7 o7.lt); have HG7 := hid (Nat.le_trans KB.out.size l7); clear o7 l7 k7)
        clear TB' TB KB FB HX g0 g1 g2 g3 g4 g5
        go_cut [11] (fun t11 wx => t11 = .slice (some ⟨g7, 0, none⟩) (if sh then 127 else 128) 128 ∧ wx = w2)
        case first => as_aux_lemma =>
          cases sh <;> (
            go_wp2_with fail
            go_meet
            exact ⟨rfl, rfl⟩)
        case rest =>
          obtain ⟨rfl, rfl⟩ := hcut
          obtain ⟨m, hm⟩ : ∃ m, m = if sh then 127 else 128 := ⟨_, rfl⟩
          have hm8 : m ≤ 128 := by rw [hm]; split <;> omega
          have hmm : (m = 128) = (sh = false) := by rw [hm]; cases sh <;> simp
          rw [← hm]
          obtain ⟨lb, hlb⟩ : ∃ lb, lb = (rep cc).take m := ⟨_, rfl⟩
          have hll : lb.length = m := by rw [hlb, List.length_take, rep_len]; omega
          have RG := hid (show wc.rangeAt g7 0 (bcells lb) from by
            intro j u hu
            rw [hlb, bcells_take, List.getElem?_take] at hu
            split at hu
            · exact O7.out.range j u hu
            · cases hu)
          have BI := hid (⟨some ⟨g7, 0, none⟩, 128, by rw [hll], by rw [hll]; exact hm8, by omega, fun _ => ⟨g7, 0, rfl, RG.out, G7.out.lt, G7.out.f⟩⟩ : BIn h wc (.slice (some ⟨g7, 0, none⟩) m 128) lb)
          have hcv := conv_blk lb hll RG.out 128
          have HLL := hid hll
          have HMM := hid hmm; have HM := hid hm
          clear hm hmm hlb hll
          generalize hts : bstr lb = ts at *
          have HTS := hid hts
          clear hts
          have HOK := hid T2.out.d.ok
          have HPD := hid (show S.pend.length ≤ 1000 by have := HNI.out.pd; omega)
          have HFN := hid (show S.fn ≤ 1000 by have := HNI.out.fn; omega)
          go_upto_if 116 with fail
          clear hcv
          have HSN := hid HNI.out.n
          by_cases d0 : dd = 0
          · subst d0
            --CASE0
            as_aux_lemma =>
              go_upto_region 78 with (first
                | (go_at_call 12; refine (t_read ii _ T2.out).mono ?_; rintro e w3 ⟨vb, rfl, hb, k3⟩; obtain ⟨A3, z3, y3, rfl, -, hcv3⟩ := conv_bout hb; have T3 := hid (k3.two T2.out); have m1 := k3.keeps n1; have K3 := hid (K2.out.trans k3); clear hb k3)
                | (go_at_call 23; refine (r_read ii _ T3.out HOK.out).mono ?_; rintro e w4 ⟨rfl, rfl⟩))
              have TZ := T3; have KZ := K3; have NZ := hid HNI.out.up
              by_cases h40 : n < 40
              · have h40' : (n : Int) < 40 := by omega
                go_wp2_with (go_at_call 31; (with_reducible refine (HSM.out _ _ _ _ _ _ TZ.out ?_).mono ?_); (focus (have := NZ.out.pd; omega)); rintro e w9 ⟨rfl, k9⟩)
                go_roundw
                case rel => exact ⟨k + 1, _, _, _, by go_num, ⟨by have := HLT.out; omega, by omega, k9.two TZ.out, NZ.out, KZ.out.trans k9⟩⟩
                case measure => simp [intOf]; omega
              · have h40' : decide ((n : Int) < 40) = false := decide_eq_false (by omega)
                go_wp2_with fail
                go_roundw
                case rel => exact ⟨k + 1, _, _, _, by go_num, ⟨by have := HLT.out; omega, by omega, TZ.out, NZ.out, KZ.out⟩⟩
                case measure => simp [intOf]; omega
            --END0
          · have e0 : (dd == 0) = false := by simpa using d0
            by_cases d1 : dd = 1
            · subst d1
              --CASE1
              as_aux_lemma =>
                have HRW := hid (fun (w' : World) (S' : DS) (h' : DH) (r' : RH) (t : Two w' w.heap.size P R S' S h' r') => (by rw [← HTS.out]; exact r_write ii lb w' t HOK.out HPD.out m HLL.out : Calls Try.prog 24 #[.pointer (some ⟨R, 0, none⟩), .int .i64 ii, .string ts] w' (TPost (.int .i64 (wrE S ii m)) S' (wrS S ii lb) w.heap.size P R h' r' w')))
                have HTW := hid (t_write ii _ lb wc.drew ((Kept.refl wc).drew.two T2.out) (show BIn h wc.drew _ lb from BI.out) HPD.out m HLL.out)
                have NZ := hid (HNI.out.wr ii lb)
                generalize wrE S ii m = we at *
                generalize wrS S ii lb = S' at *
                go_wp2_with fail
                go_region_held3 (fun w' => w'.cell? ⟨bx, 1, none⟩ = some (.int .i64 ii))
                  (first | exact n1 | assumption)
                  (first
                  | (go_at_call 24; (with_reducible refine (HRW.out _ _ _ _ T3.out).mono ?_); rintro e w4 ⟨rfl, h4, r4, t4, b4⟩; have T4 := hid t4; have K4 := hid (T3.out.kept b4 rfl K3.out); have G4 := hid (b4.free G3.out); have O4 := hid (O3.out.of_heap (b4.heap G3.out)); have o1 := b4.keeps X3.out m1; clear t4 b4)
                  | (go_at_call 9; (with_reducible refine HTW.out.mono ?_); rintro e w3 ⟨rfl, h3, r3, t3, b3⟩; have T3 := hid t3; have K3 := hid (((Kept.refl wc).drew.two T2.out).kept b3 rfl K2.out.drew); have G3 := hid (b3.free (q := g7) ⟨G7.out.lt, G7.out.f, G7.out.r⟩); have X3 := hid (b3.free (q := bx) ⟨X2.out.lt, X2.out.f, X2.out.r⟩); have O3 := hid (OBlk.of_heap O7.out (b3.heap (q := g7) ⟨G7.out.lt, G7.out.f, G7.out.r⟩)); have m1 := b3.keeps (q := bx) ⟨X2.out.lt, X2.out.f, X2.out.r⟩ n1; clear t3 b3))
                all_goals (
                  have OW0 := hid (⟨T4.out, K4.out, G4.out, ⟨_, O4.out.blk⟩⟩ : OW w P R S' h4 r4 g7 w4)
                  go_wp2_with fail
                  go_loopw [17] (fun t wi => ∃ j : Nat, j ≤ m ∧ t = .int .i64 j ∧ OW w P R S' h4 r4 g7 wi) (fun t _ => m - (intOf t).toNat)
                  case atStart => exact ⟨0, by omega, rfl, OW0.out⟩
                  case round =>
                    obtain ⟨j, hj, rfl, how⟩ := hrel
                    have HOW := hid how
                    clear how
                    by_cases hjm : j < m
                    · obtain ⟨G, hG⟩ := HOW.out.b
                      have hx := hG.cell j (by omega)
                      have hfx := hG.frozen j
                      clear hG
                      generalize G j = gj at *
                      have q0 : (0 : Int) ≤ (j : Int) := by omega
                      have q1 : (j : Int) < (m : Int) := by omega
                      go_wp2_with fail
                      go_roundw
                      case rel => exact ⟨j + 1, by omega, by go_num, HOW.out.set HG7.out j (by omega) _⟩
                      case measure => simp [intOf]; omega
                    · have hjm2 : j = m := by omega
                      have hjm3 : ¬ (j : Int) < (m : Int) := by omega
                      have TZ := hid HOW.out.t; have KZ := hid HOW.out.kept
                      by_cases h40 : n < 40
                      · have h40' : (n : Int) < 40 := by omega
                        go_wp2_with (go_at_call 31; (with_reducible refine (HSM.out _ _ _ _ _ _ TZ.out ?_).mono ?_); (focus (have := NZ.out.pd; omega)); rintro e w9 ⟨rfl, k9⟩)
                        go_roundw
                        case rel => exact ⟨k + 1, _, _, _, by go_num, ⟨by have := HLT.out; omega, by omega, k9.two TZ.out, NZ.out, KZ.out.trans k9⟩⟩
                        case measure => simp [intOf]; omega
                      · have h40' : decide ((n : Int) < 40) = false := decide_eq_false (by omega)
                        go_wp2_with fail
                        go_roundw
                        case rel => exact ⟨k + 1, _, _, _, by go_num, ⟨by have := HLT.out; omega, by omega, TZ.out, NZ.out, KZ.out⟩⟩
                        case measure => simp [intOf]; omega
                  )
              --END1
            · have e1 : (dd == 1) = false := by simpa using d1
              by_cases d2 : dd = 2
              · subst d2
                --CASE2
                as_aux_lemma =>
                  go_upto_region 78 with (first
                    | (go_at_call 11; refine (t_flush _ T2.out).mono ?_; rintro e w3 ⟨rfl, h3, r3, t3, b3⟩; have T3 := hid t3; have K3 := hid (T2.out.kept b3 rfl K2.out); have X3 := hid (b3.free X2.out); have m5 := b3.keeps X2.out n5; clear t3 b3)
                    | (go_at_call 25; refine (r_flush _ T3.out HOK.out).mono ?_; rintro e w4 ⟨rfl, h4, r4, t4, b4⟩; have TZ := hid t4; have KZ := hid (T3.out.kept b4 rfl K3.out); clear t4 b4))
                  have NZ := hid (HNI.out.fl)
                  by_cases h40 : n < 40
                  · have h40' : (n : Int) < 40 := by omega
                    go_wp2_with (go_at_call 31; (with_reducible refine (HSM.out _ _ _ _ _ _ TZ.out ?_).mono ?_); (focus (have := NZ.out.pd; omega)); rintro e w9 ⟨rfl, k9⟩)
                    go_roundw
                    case rel => exact ⟨k + 1, _, _, _, by go_num, ⟨by have := HLT.out; omega, by omega, k9.two TZ.out, NZ.out, KZ.out.trans k9⟩⟩
                    case measure => simp [intOf]; omega
                  · have h40' : decide ((n : Int) < 40) = false := decide_eq_false (by omega)
                    go_wp2_with fail
                    go_roundw
                    case rel => exact ⟨k + 1, _, _, _, by go_num, ⟨by have := HLT.out; omega, by omega, TZ.out, NZ.out, KZ.out⟩⟩
                    case measure => simp [intOf]; omega
                --END2
              · have e2 : (dd == 2) = false := by simpa using d2
                by_cases d3 : dd = 3
                · subst d3
                  --CASE3
                  as_aux_lemma =>
                    by_cases hb : -1 ≤ ii
                    · have HC := hid (t_budget ii wc T2.out hii)
                      rw [if_pos hb, if_pos hb] at HC
                      go_upto_region 78 with (go_at_call 26; refine HC.out.mono ?_; rintro e w3 ⟨rfl, h3, r3, t3, b3⟩; have T3 := hid t3; have K3 := hid (T2.out.kept b3 rfl K2.out); have m1 := b3.keeps X2.out n1; have s3 := t3.rr.c3; have f3 := t3.rr.fz 3; rw [t3.rP] at s3 f3; have HFD := hid (t3.field 3 (.int .i64 ii) { S with bud := ii } rfl rfl rfl rfl rfl); clear t3 b3)
                      have TZ := hid HFD.out.1; have KZ := hid (T3.out.kept HFD.out.2 rfl K3.out)
                      have NZ := hid (show Nic n (k + 1) { S with bud := ii } from ⟨HNI.out.n, HNI.out.up.fn, HNI.out.up.pd⟩)
                      by_cases h40 : n < 40
                      · have h40' : (n : Int) < 40 := by omega
                        go_wp2_with (go_at_call 31; (with_reducible refine (HSM.out _ _ _ _ _ _ TZ.out ?_).mono ?_); (focus (have := NZ.out.pd; omega)); rintro e w9 ⟨rfl, k9⟩)
                        go_roundw
                        case rel => exact ⟨k + 1, _, _, _, by go_num, ⟨by have := HLT.out; omega, by omega, k9.two TZ.out, NZ.out, KZ.out.trans k9⟩⟩
                        case measure => simp [intOf]; omega
                      · have h40' : decide ((n : Int) < 40) = false := decide_eq_false (by omega)
                        go_wp2_with fail
                        go_roundw
                        case rel => exact ⟨k + 1, _, _, _, by go_num, ⟨by have := HLT.out; omega, by omega, TZ.out, NZ.out, KZ.out⟩⟩
                        case measure => simp [intOf]; omega
                    · have HC := hid (t_budget ii wc T2.out hii)
                      rw [if_neg hb, if_neg hb] at HC
                      have hb' : decide (-1 ≤ ii) = false := decide_eq_false hb
                      go_upto_region 78 with (go_at_call 26; refine HC.out.mono ?_; rintro e w3 ⟨rfl, h3, r3, t3, b3⟩; have TZ := hid t3; have KZ := hid (T2.out.kept b3 rfl K2.out); have m1 := b3.keeps X2.out n1; clear t3 b3)
                      have NZ := hid HNI.out.up
                      by_cases h40 : n < 40
                      · have h40' : (n : Int) < 40 := by omega
                        go_wp2_with (go_at_call 31; (with_reducible refine (HSM.out _ _ _ _ _ _ TZ.out ?_).mono ?_); (focus (have := NZ.out.pd; omega)); rintro e w9 ⟨rfl, k9⟩)
                        go_roundw
                        case rel => exact ⟨k + 1, _, _, _, by go_num, ⟨by have := HLT.out; omega, by omega, k9.two TZ.out, NZ.out, KZ.out.trans k9⟩⟩
                        case measure => simp [intOf]; omega
                      · have h40' : decide ((n : Int) < 40) = false := decide_eq_false (by omega)
                        go_wp2_with fail
                        go_roundw
                        case rel => exact ⟨k + 1, _, _, _, by go_num, ⟨by have := HLT.out; omega, by omega, TZ.out, NZ.out, KZ.out⟩⟩
                        case measure => simp [intOf]; omega
                  --END3
                · have e3 : (dd == 3) = false := by simpa using d3
                  by_cases d4 : dd = 4
                  · subst d4
                    --CASE4
                    as_aux_lemma =>
                      have HNI2 := hid (far_in HFW.out K2.out T2.out)
                      go_upto_region 78 with (first
                        | (go_at_call 13; refine (t_crash _ far _ T2.out HNI2.out.1).mono ?_; rintro e w3 ⟨rfl, h3, r3, t3, b3⟩; have T3 := hid t3; have K3 := hid (T2.out.kept b3 rfl K2.out); have X3 := hid (b3.free X2.out); have m5 := b3.keeps X2.out n5; clear t3 b3)
                        | (go_at_call 27; refine (r_crash _ far _ T3.out HOK.out (far_in HFW.out K3.out T3.out).2).mono ?_; rintro e w4 ⟨rfl, h4, r4, t4, b4⟩; have TZ := hid t4; have KZ := hid (T3.out.kept b4 rfl K3.out); clear t4 b4))
                      have NZ := hid (HNI.out.cr far)
                      by_cases h40 : n < 40
                      · have h40' : (n : Int) < 40 := by omega
                        go_wp2_with (go_at_call 31; (with_reducible refine (HSM.out _ _ _ _ _ _ TZ.out ?_).mono ?_); (focus (have := NZ.out.pd; omega)); rintro e w9 ⟨rfl, k9⟩)
                        go_roundw
                        case rel => exact ⟨k + 1, _, _, _, by go_num, ⟨by have := HLT.out; omega, by omega, k9.two TZ.out, NZ.out, KZ.out.trans k9⟩⟩
                        case measure => simp [intOf]; omega
                      · have h40' : decide ((n : Int) < 40) = false := decide_eq_false (by omega)
                        go_wp2_with fail
                        go_roundw
                        case rel => exact ⟨k + 1, _, _, _, by go_num, ⟨by have := HLT.out; omega, by omega, TZ.out, NZ.out, KZ.out⟩⟩
                        case measure => simp [intOf]; omega
                    --END4
                  · have e4 : (dd == 4) = false := by simpa using d4
                    by_cases d5 : dd = 5
                    · subst d5
                      --CASE5
                      as_aux_lemma =>
                        go_upto_region 78 with (first
                          | (go_at_call 14; refine (t_on _ T2.out).mono ?_; rintro e w3 ⟨rfl, h3, r3, t3, b3⟩; have T3 := hid t3; have K3 := hid (T2.out.kept b3 rfl K2.out); have X3 := hid (b3.free X2.out); have m5 := b3.keeps X2.out n5; clear t3 b3)
                          | (go_at_call 28; refine (r_on _ T3.out).mono ?_; rintro e w4 ⟨rfl, h4, r4, t4, b4⟩; have TZ := hid t4; have KZ := hid (T3.out.kept b4 rfl K3.out); clear t4 b4))
                        have NZ := hid (HNI.out.on)
                        by_cases h40 : n < 40
                        · have h40' : (n : Int) < 40 := by omega
                          go_wp2_with (go_at_call 31; (with_reducible refine (HSM.out _ _ _ _ _ _ TZ.out ?_).mono ?_); (focus (have := NZ.out.pd; omega)); rintro e w9 ⟨rfl, k9⟩)
                          go_roundw
                          case rel => exact ⟨k + 1, _, _, _, by go_num, ⟨by have := HLT.out; omega, by omega, k9.two TZ.out, NZ.out, KZ.out.trans k9⟩⟩
                          case measure => simp [intOf]; omega
                        · have h40' : decide ((n : Int) < 40) = false := decide_eq_false (by omega)
                          go_wp2_with fail
                          go_roundw
                          case rel => exact ⟨k + 1, _, _, _, by go_num, ⟨by have := HLT.out; omega, by omega, TZ.out, NZ.out, KZ.out⟩⟩
                          case measure => simp [intOf]; omega
                      --END5
                    · have e5 : (dd == 5) = false := by simpa using d5
                      by_cases d6 : dd = 6
                      · subst d6
                        --CASE6
                        as_aux_lemma =>
                          have HC := hid (t_fault ii kk wc T2.out HFN.out)
                          cases hbb : isB n ii with
                          | false =>
                            have hE : fltE S ii kk = 4 := by rw [fltE, HSN.out, if_pos hbb]
                            rw [hE, if_neg (by decide)] at HC
                            clear hE
                            go_upto_region 78 with (go_at_call 16; refine HC.out.mono ?_; rintro e w3 ⟨rfl, h3, r3, t3, b3⟩; have T3 := hid t3; have K3 := hid (T2.out.kept b3 rfl K2.out); have m1 := b3.keeps X2.out n1; have m2 := b3.keeps X2.out n2; have m4 := b3.keeps X2.out n4; clear t3 b3)
                            have TZ := T3; have KZ := K3; have NZ := hid HNI.out.up
                            by_cases h40 : n < 40
                            · have h40' : (n : Int) < 40 := by omega
                              go_wp2_with (go_at_call 31; (with_reducible refine (HSM.out _ _ _ _ _ _ TZ.out ?_).mono ?_); (focus (have := NZ.out.pd; omega)); rintro e w9 ⟨rfl, k9⟩)
                              go_roundw
                              case rel => exact ⟨k + 1, _, _, _, by go_num, ⟨by have := HLT.out; omega, by omega, k9.two TZ.out, NZ.out, KZ.out.trans k9⟩⟩
                              case measure => simp [intOf]; omega
                            · have h40' : decide ((n : Int) < 40) = false := decide_eq_false (by omega)
                              go_wp2_with fail
                              go_roundw
                              case rel => exact ⟨k + 1, _, _, _, by go_num, ⟨by have := HLT.out; omega, by omega, TZ.out, NZ.out, KZ.out⟩⟩
                              case measure => simp [intOf]; omega
                          | true =>
                            by_cases hk0 : kk < 0
                            · have hE : fltE S ii kk = 1 := by rw [fltE, HSN.out, if_neg (by rw [hbb]; decide), if_pos (.inl hk0)]
                              rw [hE, if_neg (by decide)] at HC
                              clear hE
                              go_upto_region 78 with (go_at_call 16; refine HC.out.mono ?_; rintro e w3 ⟨rfl, h3, r3, t3, b3⟩; have T3 := hid t3; have K3 := hid (T2.out.kept b3 rfl K2.out); have m1 := b3.keeps X2.out n1; have m2 := b3.keeps X2.out n2; have m4 := b3.keeps X2.out n4; clear t3 b3)
                              have TZ := T3; have KZ := K3; have NZ := hid HNI.out.up
                              by_cases h40 : n < 40
                              · have h40' : (n : Int) < 40 := by omega
                                go_wp2_with (go_at_call 31; (with_reducible refine (HSM.out _ _ _ _ _ _ TZ.out ?_).mono ?_); (focus (have := NZ.out.pd; omega)); rintro e w9 ⟨rfl, k9⟩)
                                go_roundw
                                case rel => exact ⟨k + 1, _, _, _, by go_num, ⟨by have := HLT.out; omega, by omega, k9.two TZ.out, NZ.out, KZ.out.trans k9⟩⟩
                                case measure => simp [intOf]; omega
                              · have h40' : decide ((n : Int) < 40) = false := decide_eq_false (by omega)
                                go_wp2_with fail
                                go_roundw
                                case rel => exact ⟨k + 1, _, _, _, by go_num, ⟨by have := HLT.out; omega, by omega, TZ.out, NZ.out, KZ.out⟩⟩
                                case measure => simp [intOf]; omega
                            · have hk0' : decide (kk < 0) = false := decide_eq_false hk0
                              by_cases hk3 : 3 < kk
                              · have hE : fltE S ii kk = 1 := by rw [fltE, HSN.out, if_neg (by rw [hbb]; decide), if_pos (.inr hk3)]
                                rw [hE, if_neg (by decide)] at HC
                                clear hE
                                go_upto_region 78 with (go_at_call 16; refine HC.out.mono ?_; rintro e w3 ⟨rfl, h3, r3, t3, b3⟩; have T3 := hid t3; have K3 := hid (T2.out.kept b3 rfl K2.out); have m1 := b3.keeps X2.out n1; have m2 := b3.keeps X2.out n2; have m4 := b3.keeps X2.out n4; clear t3 b3)
                                have TZ := T3; have KZ := K3; have NZ := hid HNI.out.up
                                by_cases h40 : n < 40
                                · have h40' : (n : Int) < 40 := by omega
                                  go_wp2_with (go_at_call 31; (with_reducible refine (HSM.out _ _ _ _ _ _ TZ.out ?_).mono ?_); (focus (have := NZ.out.pd; omega)); rintro e w9 ⟨rfl, k9⟩)
                                  go_roundw
                                  case rel => exact ⟨k + 1, _, _, _, by go_num, ⟨by have := HLT.out; omega, by omega, k9.two TZ.out, NZ.out, KZ.out.trans k9⟩⟩
                                  case measure => simp [intOf]; omega
                                · have h40' : decide ((n : Int) < 40) = false := decide_eq_false (by omega)
                                  go_wp2_with fail
                                  go_roundw
                                  case rel => exact ⟨k + 1, _, _, _, by go_num, ⟨by have := HLT.out; omega, by omega, TZ.out, NZ.out, KZ.out⟩⟩
                                  case measure => simp [intOf]; omega
                              · have hk3' : decide (3 < kk) = false := decide_eq_false hk3
                                have hE : fltE S ii kk = 0 := by rw [fltE, HSN.out, if_neg (by rw [hbb]; decide), if_neg (by omega)]
                                rw [hE, if_pos rfl] at HC
                                clear hE
                                obtain ⟨hi0, hi1⟩ := isB_t hbb
                                obtain ⟨q, rfl⟩ : ∃ q : Nat, ii = (q : Int) := ⟨ii.toNat, by omega⟩
                                obtain ⟨f', fn', hfe, hff⟩ := fltS_set S q kk
                                have NZ := hid (HNI.out.flt (q : Int) kk)
                                rw [hfe] at HC NZ
                                have HFF := hid hff
                                clear hfe hff hk0 hk3
                                have hq : q < S.n := by rw [HSN.out]; omega
                                go_upto_region 58 with (go_at_call 16; refine HC.out.mono ?_; rintro e w3 ⟨rfl, h3, r3, t3, b3⟩; have T3 := hid t3; have K3 := hid (T2.out.kept b3 rfl K2.out); have m1 := b3.keeps X2.out n1; have m2 := b3.keeps X2.out n2; have m4 := b3.keeps X2.out n4; clear t3 b3)
                                obtain ⟨gF, cF, hvF, hnF, -, hcF, hfzF⟩ := T3.out.rr.atF q hq
                                have s1 := T3.out.rr.c1
                                rw [T3.out.rP, hvF, HSN.out] at s1
                                rw [HSN.out] at hnF
                                have s2 := hcF q hq
                                have HST := hid (((Kept.refl _).drew.two T3.out).rr.setF q kk f' HFF.out fn' hvF)
                                have HTR := hid (((Kept.refl _).drew.two T3.out).rstep HST.out.2 HST.out.1)
                                clear hcF hvF
                                generalize (S.flt (q : Int)).getD 0 = v0 at *
                                go_still_tail 8, (by kernel_rfl)
                                change wpList _ _ _ _ _ (World.drew _)
                                have TZ := hid (show Two ((w3.setCell ⟨gF, q, none⟩ (.int .i64 kk)).drew) w.heap.size P R _ _ _ _ from HTR.out.1); have KZ := hid (((Kept.refl _).drew.two T3.out).kept HTR.out.2 rfl K3.out.drew)
                                by_cases h40 : n < 40
                                · have h40' : (n : Int) < 40 := by omega
                                  go_wp2_with (go_at_call 31; (with_reducible refine (HSM.out _ _ _ _ _ _ TZ.out ?_).mono ?_); (focus (have := NZ.out.pd; omega)); rintro e w9 ⟨rfl, k9⟩)
                                  go_roundw
                                  case rel => exact ⟨k + 1, _, _, _, by go_num, ⟨by have := HLT.out; omega, by omega, k9.two TZ.out, NZ.out, KZ.out.trans k9⟩⟩
                                  case measure => simp [intOf]; omega
                                · have h40' : decide ((n : Int) < 40) = false := decide_eq_false (by omega)
                                  go_wp2_with fail
                                  go_roundw
                                  case rel => exact ⟨k + 1, _, _, _, by go_num, ⟨by have := HLT.out; omega, by omega, TZ.out, NZ.out, KZ.out⟩⟩
                                  case measure => simp [intOf]; omega
                        --END6
                      · have e6 : (dd == 6) = false := by simpa using d6
                        by_cases d7 : dd = 7
                        · subst d7
                          --CASE7
                          as_aux_lemma =>
                            obtain ⟨mb, hmb⟩ : ∃ mb : Bool, (Int.tmod kk 2 == 0) = mb := ⟨_, rfl⟩
                            have hmb2 : (Int.tmod kk 2 != 0) = !mb := by rw [← hmb]; rfl
                            have HC := hid (t_mount mb wc T2.out)
                            go_upto_region 78 with (go_at_call 17; refine HC.out.mono ?_; rintro e w3 ⟨rfl, h3, r3, t3, b3⟩; have T3 := hid t3; have K3 := hid (T2.out.kept b3 rfl K2.out); have m2 := b3.keeps X2.out n2; have s3 := t3.rr.c5; have f3 := t3.rr.fz 5; rw [t3.rP] at s3 f3; have HFD := hid (t3.field 5 (.bool (!mb)) { S with mnt := mb } rfl rfl rfl rfl rfl); clear t3 b3)
                            have TZ := hid HFD.out.1; have KZ := hid (T3.out.kept HFD.out.2 rfl K3.out)
                            have NZ := hid (show Nic n (k + 1) { S with mnt := mb } from ⟨HNI.out.n, HNI.out.up.fn, HNI.out.up.pd⟩)
                            by_cases h40 : n < 40
                            · have h40' : (n : Int) < 40 := by omega
                              go_wp2_with (go_at_call 31; (with_reducible refine (HSM.out _ _ _ _ _ _ TZ.out ?_).mono ?_); (focus (have := NZ.out.pd; omega)); rintro e w9 ⟨rfl, k9⟩)
                              go_roundw
                              case rel => exact ⟨k + 1, _, _, _, by go_num, ⟨by have := HLT.out; omega, by omega, k9.two TZ.out, NZ.out, KZ.out.trans k9⟩⟩
                              case measure => simp [intOf]; omega
                            · have h40' : decide ((n : Int) < 40) = false := decide_eq_false (by omega)
                              go_wp2_with fail
                              go_roundw
                              case rel => exact ⟨k + 1, _, _, _, by go_num, ⟨by have := HLT.out; omega, by omega, TZ.out, NZ.out, KZ.out⟩⟩
                              case measure => simp [intOf]; omega
                          --END7
                        · have e7 : (dd == 7) = false := by simpa using d7
                          by_cases d8 : dd = 8
                          · subst d8
                            --CASE8
                            as_aux_lemma =>
                              have HC := hid (t_spoil ii _ lb wc T2.out BI.out m HLL.out)
                              cases hbb : isB n ii with
                              | false =>
                                have hE : spE S ii m = 4 := by rw [spE, HSN.out, if_pos hbb]
                                have hS : spS S ii lb = S := by rw [spS, if_neg (by rw [HLL.out, hE]; decide)]
                                rw [hE, hS] at HC
                                clear hE hS
                                go_upto_region 78 with (go_at_call 29; refine HC.out.mono ?_; rintro e w3 ⟨rfl, h3, r3, t3, b3⟩; have T3 := hid t3; have K3 := hid (T2.out.kept b3 rfl K2.out); have m1 := b3.keeps X2.out n1; have m2 := b3.keeps X2.out n2; have m4 := b3.keeps X2.out n4; clear t3 b3)
                                have TZ := T3; have KZ := K3; have NZ := hid HNI.out.up
                                by_cases h40 : n < 40
                                · have h40' : (n : Int) < 40 := by omega
                                  go_wp2_with (go_at_call 31; (with_reducible refine (HSM.out _ _ _ _ _ _ TZ.out ?_).mono ?_); (focus (have := NZ.out.pd; omega)); rintro e w9 ⟨rfl, k9⟩)
                                  go_roundw
                                  case rel => exact ⟨k + 1, _, _, _, by go_num, ⟨by have := HLT.out; omega, by omega, k9.two TZ.out, NZ.out, KZ.out.trans k9⟩⟩
                                  case measure => simp [intOf]; omega
                                · have h40' : decide ((n : Int) < 40) = false := decide_eq_false (by omega)
                                  go_wp2_with fail
                                  go_roundw
                                  case rel => exact ⟨k + 1, _, _, _, by go_num, ⟨by have := HLT.out; omega, by omega, TZ.out, NZ.out, KZ.out⟩⟩
                                  case measure => simp [intOf]; omega
                              | true =>
                                cases sh with
                                | true =>
                                  have hE : spE S ii m = 1 := by rw [spE, HSN.out, if_neg (by rw [hbb]; decide), if_pos (by rw [HM.out]; decide)]
                                  have hS : spS S ii lb = S := by rw [spS, if_neg (by rw [HLL.out, hE]; decide)]
                                  rw [hE, hS] at HC
                                  clear hE hS
                                  go_upto_region 78 with (go_at_call 29; refine HC.out.mono ?_; rintro e w3 ⟨rfl, h3, r3, t3, b3⟩; have T3 := hid t3; have K3 := hid (T2.out.kept b3 rfl K2.out); have m1 := b3.keeps X2.out n1; have m2 := b3.keeps X2.out n2; have m4 := b3.keeps X2.out n4; clear t3 b3)
                                  have TZ := T3; have KZ := K3; have NZ := hid HNI.out.up
                                  by_cases h40 : n < 40
                                  · have h40' : (n : Int) < 40 := by omega
                                    go_wp2_with (go_at_call 31; (with_reducible refine (HSM.out _ _ _ _ _ _ TZ.out ?_).mono ?_); (focus (have := NZ.out.pd; omega)); rintro e w9 ⟨rfl, k9⟩)
                                    go_roundw
                                    case rel => exact ⟨k + 1, _, _, _, by go_num, ⟨by have := HLT.out; omega, by omega, k9.two TZ.out, NZ.out, KZ.out.trans k9⟩⟩
                                    case measure => simp [intOf]; omega
                                  · have h40' : decide ((n : Int) < 40) = false := decide_eq_false (by omega)
                                    go_wp2_with fail
                                    go_roundw
                                    case rel => exact ⟨k + 1, _, _, _, by go_num, ⟨by have := HLT.out; omega, by omega, TZ.out, NZ.out, KZ.out⟩⟩
                                    case measure => simp [intOf]; omega
                                | false =>
                                  have hE : spE S ii m = 0 := by rw [spE, HSN.out, if_neg (by rw [hbb]; decide), if_neg (by rw [HM.out]; decide)]
                                  obtain ⟨hi0, hi1⟩ := isB_t hbb
                                  obtain ⟨q, rfl⟩ : ∃ q : Nat, ii = (q : Int) := ⟨ii.toNat, by omega⟩
                                  have hS : spS S (q : Int) lb = { S with blk := upd S.blk q lb } := by rw [spS, if_pos (by rw [HLL.out, hE]), Int.toNat_natCast]
                                  rw [hE, hS] at HC
                                  clear hE hS
                                  have hq : q < S.n := by rw [HSN.out]; omega
                                  go_upto_region 72 with (go_at_call 29; refine HC.out.mono ?_; rintro e w3 ⟨rfl, h3, r3, t3, b3⟩; have T3 := hid t3; have K3 := hid (T2.out.kept b3 rfl K2.out); have m1 := b3.keeps X2.out n1; have m2 := b3.keeps X2.out n2; have m4 := b3.keeps X2.out n4; clear t3 b3)
                                  obtain ⟨gH, cH, hvH, hnH, -, hcH, hfzH⟩ := T3.out.rr.atH q hq
                                  have s1 := T3.out.rr.c0
                                  rw [T3.out.rP, hvH, HSN.out] at s1
                                  rw [HSN.out] at hnH
                                  have s2 := hcH q hq
                                  have HST := hid (((Kept.refl _).drew.two T3.out).rr.setH q lb hvH)
                                  have HTR := hid (((Kept.refl _).drew.two T3.out).rstep HST.out.2 HST.out.1)
                                  rw [HTS.out] at HTR
                                  clear hcH hvH
                                  generalize bstr (S.blk q) = told at *
                                  go_still_tail 7, (by kernel_rfl)
                                  change wpList _ _ _ _ _ (World.drew _)
                                  have TZ := hid (show Two ((w3.setCell ⟨gH, q, none⟩ (.string ts)).drew) w.heap.size P R _ _ _ _ from HTR.out.1); have KZ := hid (((Kept.refl _).drew.two T3.out).kept HTR.out.2 rfl K3.out.drew)
                                  have NZ := hid (show Nic n (k + 1) { S with blk := upd S.blk q lb } from ⟨HNI.out.n, HNI.out.up.fn, HNI.out.up.pd⟩)
                                  by_cases h40 : n < 40
                                  · have h40' : (n : Int) < 40 := by omega
                                    go_wp2_with (go_at_call 31; (with_reducible refine (HSM.out _ _ _ _ _ _ TZ.out ?_).mono ?_); (focus (have := NZ.out.pd; omega)); rintro e w9 ⟨rfl, k9⟩)
                                    go_roundw
                                    case rel => exact ⟨k + 1, _, _, _, by go_num, ⟨by have := HLT.out; omega, by omega, k9.two TZ.out, NZ.out, KZ.out.trans k9⟩⟩
                                    case measure => simp [intOf]; omega
                                  · have h40' : decide ((n : Int) < 40) = false := decide_eq_false (by omega)
                                    go_wp2_with fail
                                    go_roundw
                                    case rel => exact ⟨k + 1, _, _, _, by go_num, ⟨by have := HLT.out; omega, by omega, TZ.out, NZ.out, KZ.out⟩⟩
                                    case measure => simp [intOf]; omega
                            --END8
                          · have e8 : (dd == 8) = false := by simpa using d8
                            by_cases d9 : dd = 9
                            · subst d9
                              --CASE9
                              as_aux_lemma =>
                                go_upto_region 78 with (first
                                  | (go_at_call 20; refine (t_erase _ T2.out).mono ?_; rintro e w3 ⟨rfl, h3, r3, t3, b3⟩; have T3 := hid t3; have K3 := hid (T2.out.kept b3 rfl K2.out); have X3 := hid (b3.free X2.out); have m5 := b3.keeps X2.out n5; clear t3 b3)
                                  | (go_at_call 30; refine (r_erase _ T3.out HOK.out).mono ?_; rintro e w4 ⟨rfl, h4, r4, t4, b4⟩; have TZ := hid t4; have KZ := hid (T3.out.kept b4 rfl K3.out); clear t4 b4))
                                have NZ := hid (HNI.out.era)
                                by_cases h40 : n < 40
                                · have h40' : (n : Int) < 40 := by omega
                                  go_wp2_with (go_at_call 31; (with_reducible refine (HSM.out _ _ _ _ _ _ TZ.out ?_).mono ?_); (focus (have := NZ.out.pd; omega)); rintro e w9 ⟨rfl, k9⟩)
                                  go_roundw
                                  case rel => exact ⟨k + 1, _, _, _, by go_num, ⟨by have := HLT.out; omega, by omega, k9.two TZ.out, NZ.out, KZ.out.trans k9⟩⟩
                                  case measure => simp [intOf]; omega
                                · have h40' : decide ((n : Int) < 40) = false := decide_eq_false (by omega)
                                  go_wp2_with fail
                                  go_roundw
                                  case rel => exact ⟨k + 1, _, _, _, by go_num, ⟨by have := HLT.out; omega, by omega, TZ.out, NZ.out, KZ.out⟩⟩
                                  case measure => simp [intOf]; omega
                              --END9
                            · have e9 : (dd == 9) = false := by simpa using d9
                              --CASE10
                              as_aux_lemma =>
                                have HC := hid (t_has ii wc T2.out)
                                cases hbb : isB n ii with
                                | false =>
                                  have hE : hasE S ii = 4 := by rw [hasE, HSN.out, hbb]; rfl
                                  have hS : hasL S ii = [] := by rw [hasL, HSN.out, hbb]; rfl
                                  rw [hE, hS] at HC
                                  clear hE hS
                                  go_upto_region 78 with (go_at_call 18; refine HC.out.mono ?_; rintro e w3 ⟨vb, rfl, hb, k3⟩; obtain rfl := bout_none hb; have TZ := hid (k3.two T2.out); have KZ := hid (K2.out.trans k3); clear hb k3)
                                  have NZ := hid HNI.out.up
                                  by_cases h40 : n < 40
                                  · have h40' : (n : Int) < 40 := by omega
                                    go_wp2_with (go_at_call 31; (with_reducible refine (HSM.out _ _ _ _ _ _ TZ.out ?_).mono ?_); (focus (have := NZ.out.pd; omega)); rintro e w9 ⟨rfl, k9⟩)
                                    go_roundw
                                    case rel => exact ⟨k + 1, _, _, _, by go_num, ⟨by have := HLT.out; omega, by omega, k9.two TZ.out, NZ.out, KZ.out.trans k9⟩⟩
                                    case measure => simp [intOf]; omega
                                  · have h40' : decide ((n : Int) < 40) = false := decide_eq_false (by omega)
                                    go_wp2_with fail
                                    go_roundw
                                    case rel => exact ⟨k + 1, _, _, _, by go_num, ⟨by have := HLT.out; omega, by omega, TZ.out, NZ.out, KZ.out⟩⟩
                                    case measure => simp [intOf]; omega
                                | true =>
                                  have hE : hasE S ii = 0 := by rw [hasE, HSN.out, hbb]; rfl
                                  obtain ⟨hi0, hi1⟩ := isB_t hbb
                                  obtain ⟨q, rfl⟩ : ∃ q : Nat, ii = (q : Int) := ⟨ii.toNat, by omega⟩
                                  have hS : hasL S (q : Int) = S.blk q := by rw [hasL, HSN.out, hbb, if_pos rfl]; rfl
                                  rw [hE, hS] at HC
                                  clear hE hS
                                  have hq : q < S.n := by rw [HSN.out]; omega
                                  have HBQ := hid (HOK.out.blk q hq)
                                  have HCV := hid (fun (w' : World) (g : Nat) (ob : OBlk w' g 65 (S.blk q)) => conv_blk (n := 128) (S.blk q) HBQ.out ob.range 128)
                                  go_upto_region 21 with (go_at_call 18; refine HC.out.mono ?_; rintro e w3 ⟨vb, rfl, hb, k3⟩; obtain ⟨gb, rfl, ob, lb3⟩ := bout_some hb (by intro e; have := HBQ.out; rw [e] at this; cases this); have T3 := hid (k3.two T2.out); have K3 := hid (K2.out.trans k3); have hcv := (fun nq => HCV.out (w3.drewN nq) _ ob); have m1 := k3.keeps n1; clear hb k3 ob lb3)
                                  obtain ⟨gH, cH, hvH, hnH, -, hcH, hfzH⟩ := T3.out.rr.atH q hq
                                  have s1 := T3.out.rr.c0
                                  rw [T3.out.rP, hvH, HSN.out] at s1
                                  rw [HSN.out] at hnH
                                  have s2 := hcH q hq
                                  clear hcH hvH HC HCV
                                  generalize bstr (S.blk q) = told at *
                                  go_quiet (fail)
                                  have TZ := hid (((Kept.refl _).drewN nq).two T3.out); have KZ := hid (K3.out.drewN nq); have NZ := hid HNI.out.up
                                  by_cases h40 : n < 40
                                  · have h40' : (n : Int) < 40 := by omega
                                    go_wp2_with (go_at_call 31; (with_reducible refine (HSM.out _ _ _ _ _ _ TZ.out ?_).mono ?_); (focus (have := NZ.out.pd; omega)); rintro e w9 ⟨rfl, k9⟩)
                                    go_roundw
                                    case rel => exact ⟨k + 1, _, _, _, by go_num, ⟨by have := HLT.out; omega, by omega, k9.two TZ.out, NZ.out, KZ.out.trans k9⟩⟩
                                    case measure => simp [intOf]; omega
                                  · have h40' : decide ((n : Int) < 40) = false := decide_eq_false (by omega)
                                    go_wp2_with fail
                                    go_roundw
                                    case rel => exact ⟨k + 1, _, _, _, by go_num, ⟨by have := HLT.out; omega, by omega, TZ.out, NZ.out, KZ.out⟩⟩
                                    case measure => simp [intOf]; omega
                              --END10
    · by_cases h1 : k < N
      · have q1 : (k : Int) < (N : Int) := by omega
        have q2 : decide ((k : Int) < 50) = false := decide_eq_false (by omega)
        clear hlt
        as_aux_lemma =>
        go_wp2_with (first
          | (go_at_call 31; (with_reducible refine (HSM.out _ _ _ _ _ _ HL.out.t ?_).mono ?_); (focus (have := HL.out.nic.pd; omega)); rintro e w9 ⟨rfl, k9⟩)
          | (go_at_call 15; refine (AW.out _).mono ?_; rintro e w10 ⟨rfl, kA⟩))
        go_ret
        exact ⟨rfl, (HL.out.kept.trans k9).trans kA⟩
      · have q1 : decide ((k : Int) < (N : Int)) = false := decide_eq_false (by omega)
        clear hlt
        as_aux_lemma =>
        go_wp2_with (first
          | (go_at_call 31; (with_reducible refine (HSM.out _ _ _ _ _ _ HL.out.t ?_).mono ?_); (focus (have := HL.out.nic.pd; omega)); rintro e w9 ⟨rfl, k9⟩)
          | (go_at_call 15; refine (AW.out _).mono ?_; rintro e w10 ⟨rfl, kA⟩))
        go_ret
        exact ⟨rfl, (HL.out.kept.trans k9).trans kA⟩
end Go.Proofs.Ytpbmkokjjcdhfaa
