/- HaymowNames: title.visit, for each of the two functions that are called. -/
import Derived.Test.YtiiogglflpladaaDoorMD
namespace Go.Proofs.YtiiogglflpladaaDoor
set_option linter.unusedSimpArgs false
set_option linter.unusedVariables false
open Go.RowKit

/-- a rune with its octets, as the program hands it on -/
def item (l : List UInt8) : Value := .agg #[.int .i32 ((dec l).1 : Int), .string (bstr (l.take (dec l).2)), .bool (decide (Stray l))]
/-- what a walk over a text turns: nothing below N, and no block of cells -/
def VS (N : Nat) (w w' : World) : Prop := w'.os = w.os ∧ w'.tape = w.tape ∧ w'.output = w.output ∧ w.heap.size ≤ w'.heap.size ∧ (∀ k : Nat, k < N → k < w.heap.size → w'.heap[k]? = w.heap[k]?) ∧ ∀ (k : Nat) (c : Array Value) (t : TypeId) (fz : Nat × Nat), w.heap[k]? = some (.cells c t fz) → w'.heap[k]? = some (.cells c t fz)
/-- a call that leaves each text's iterator alone -/
def KI (w w' : World) : Prop := w.heap.size ≤ w'.heap.size ∧ ∀ (k : Nat) (s : ByteArray) (p : Nat), w.heap[k]? = some (.stringIter s p) → w'.heap[k]? = some (.stringIter s p)
theorem VS.refl (N : Nat) (w : World) : VS N w w := ⟨rfl, rfl, rfl, Nat.le_refl _, fun _ _ _ => rfl, fun _ _ _ _ h => h⟩
theorem VS.trans {N : Nat} {a b c : World} (h : VS N a b) (k : VS N b c) : VS N a c :=
  ⟨k.1.trans h.1, k.2.1.trans h.2.1, k.2.2.1.trans h.2.2.1, Nat.le_trans h.2.2.2.1 k.2.2.2.1, fun i hi hs => (k.2.2.2.2.1 i hi (Nat.lt_of_lt_of_le hs h.2.2.2.1)).trans (h.2.2.2.2.1 i hi hs), fun i c t f e => k.2.2.2.2.2 i c t f (h.2.2.2.2.2 i c t f e)⟩
theorem Kept.vs {w w' : World} (h : Kept w w') (N : Nat) : VS N w w' := ⟨h.os, h.tape, h.output, h.size, fun k _ hk => h.block k hk, fun k c t f e => (h.block k (Array.getElem?_eq_some_iff.1 e).1).trans e⟩
theorem vs_iterAt (N : Nat) (w : World) (k : Nat) (s : ByteArray) (p q : Nat) (hk : w.heap[k]? = some (.stringIter s p)) (hN : N ≤ k) : VS N w (w.iterAt k s q) := by
  refine ⟨rfl, rfl, rfl, by rw [Lib.iterAt_size]; exact Nat.le_refl _, fun i hi _ => Lib.iterAt_other w k i s q (by omega), fun i c t f e => ?_⟩
  rw [Lib.iterAt_other w k i s q (by rintro rfl; rw [hk] at e; cases e)]
  exact e
theorem Kept.vs_to {N : Nat} {W w w' : World} (h : Kept W w) (k : VS N w w') (hN : W.heap.size ≤ N) : Kept W w' :=
  ⟨k.1.trans h.os, k.2.1.trans h.tape, k.2.2.1.trans h.output, Nat.le_trans h.size k.2.2.2.1, fun i hi => (k.2.2.2.2.1 i (by omega) (Nat.lt_of_lt_of_le hi h.size)).trans (h.block i hi)⟩
theorem ki_kept {w w' : World} (h : Kept w w') : KI w w' := ⟨h.size, fun k s p e => (h.block k (Array.getElem?_eq_some_iff.1 e).1).trans e⟩

set_option maxHeartbeats 4000000 in
set_option maxRecDepth 100000 in
theorem visit_cut (u v : Value) (l : List UInt8) (J : List UInt8 → World → Prop) (Q : World → Prop)
    (hcb : ∀ r wr, r ≠ [] → J r wr → Calls Tryd.prog 36 #[item r, u, v] wr fun e w' => ∃ b, e = .returned (.bool b) ∧ KI wr w' ∧ (b = true → J (r.drop (dec r).2) w') ∧ (b = false → Q w'))
    (hend : ∀ wr, J [] wr → Q wr) (w : World) (hvs : ∀ r wr w', J r wr → VS w.heap.size wr w' → J r w') (hl : l.length ≤ 1000) (h0 : J l w) :
    Calls Tryd.prog 35 #[.string (bstr l), .func (.func 36) #[] #[u, v]] w fun e w' => e = .returned (.tuple #[]) ∧ Q w' := by
  have HCB := hid hcb; have HVS := hid hvs; have HEND := hid hend; have H0 := hid h0
  clear hcb hvs hend h0
  obtain ⟨s, hs⟩ : ∃ s, bstr l = s := ⟨_, rfl⟩
  have hsz : s.size = l.length := by rw [← hs, bstr_size]
  rw [hs]
  have HS := hid hs
  clear hs
  go_enter Tryd.func35, Tryd.ntmps35
  go_wp2
  go_loopw [] (fun wr => ∃ pos : Nat, pos ≤ l.length ∧ wr.heap[w.heap.size]? = some (.stringIter s pos) ∧ J (l.drop pos) wr) (fun wr => s.size - wr.iterPos w.heap.size)
  case atStart =>
    refine ⟨0, by omega, ?_, HVS.out _ _ _ H0.out (((Kept.refl w).alloc _).vs _)⟩
    have := World.iter_heap w s 0
    simpa using this
  case round =>
    obtain ⟨pos, hpl, hit, hJ⟩ := hrel
    have HJ := hid hJ
    clear hJ
    by_cases hp : pos < s.size
    · have hnx : ∀ ty, (Instr.next (.pointer (some ⟨w.heap.size, 0, none⟩)) true ty).run Tryd.prog wr = _ := fun ty => Lib.run_next_any_at wr w.heap.size s pos ty hit hp
      have hde : Utf8.decode s pos = dec (l.drop pos) := by rw [← HS.out, dec_at]
      rw [hde] at hnx
      obtain ⟨r, hr⟩ : ∃ r, l.drop pos = r := ⟨_, rfl⟩
      rw [hr] at hnx hde HJ
      have hrl : r.length = l.length - pos := by rw [← hr, List.length_drop]
      have hr0 : r ≠ [] := by intro e; rw [e, List.length_nil] at hrl; omega
      obtain ⟨d1, -, d3⟩ := dec_width r hr0
      have hr1 : r.drop (dec r).2 = l.drop (pos + (dec r).2) := by rw [← hr, List.drop_drop]
      have hmx := dec_max r
      have hit2 := Lib.iterAt_heap wr w.heap.size s pos (pos + (dec r).2) hit
      have hvs2 := vs_iterAt w.heap.size wr w.heap.size s pos (pos + (dec r).2) hit (Nat.le_refl _)
      have hlen2 : w.heap.size < (wr.iterAt w.heap.size s (pos + (dec r).2)).heap.size := (Array.getElem?_eq_some_iff.1 hit2).1
      obtain ⟨n, hn⟩ : ∃ n, (dec r).2 = n := ⟨_, rfl⟩
      obtain ⟨d, hd⟩ : ∃ d, (dec r).1 = d := ⟨_, rfl⟩
      have hext : s.extract pos (pos + n) = bstr (r.take n) := by rw [← HS.out, bstr_extract, hr]; congr 2; omega
      have hpre : s.extract pos s.size = bstr r := by rw [← HS.out, bstr_extract, hr, bstr_size, List.take_of_length_le (by omega)]
      rw [hn] at hnx hit2 hvs2 hlen2 d1 d3 hr1
      rw [hd] at hnx hmx
      obtain ⟨di, hdi⟩ : ∃ di : Int, (d : Int) = di := ⟨_, rfl⟩
      have HDI := hid hdi
      rw [hdi] at hnx
      have key : ∀ (b : Bool) (W : World), b = decide (Stray r) → VS w.heap.size wr W → W.heap[w.heap.size]? = some (.stringIter s (pos + n)) → Calls Tryd.prog 36 #[.agg #[.int .i32 di, .string (s.extract pos (pos + n)), .bool b], u, v] W fun e w' => ∃ b, e = .returned (.bool b) ∧ w'.heap[w.heap.size]? = some (.stringIter s (pos + n)) ∧ (b = true → J (l.drop (pos + n)) w') ∧ (b = false → Q w') := by
        intro b W hb hW hi
        have := HCB.out r W hr0 (HVS.out _ _ _ HJ.out hW)
        rw [item, hd, hn, hdi, ← hext, ← hb] at this
        refine this.mono ?_
        rintro e w' ⟨b, rfl, k1, k2, k3⟩
        exact ⟨b, rfl, k1.2 _ _ _ hi, fun hb => by rw [← hr1]; exact k2 hb, k3⟩
      have KEY := hid key
      clear key hdi
      obtain ⟨W2, hW2⟩ : ∃ W2, wr.iterAt w.heap.size s (pos + n) = W2 := ⟨_, rfl⟩
      rw [hW2] at hnx hit2 hvs2 hlen2
      have HR0 := hid hr0; have HEXT := hid hext; have HPRE := hid hpre; have HN := hid hn; have HD := hid hd; have HMX := hid hmx; have HRL := hid hrl; have HVS2 := hid hvs2; have HIT2 := hid hit2; have D1 := hid d1; have D3 := hid d3; have HPL := hid hpl; have HSZ := hid hsz
      have hposn : pos + n ≤ s.size := by omega
      have hsz1 : s.size ≤ 1000 := by omega
      have HLEN2 := hid hlen2; have HIT := hid hit
      clear hW2 hit hde hr1 hrl hr hr0 hext hpre hmx hvs2 hit2 d1 d3 hn hd hpl hl hsz hlen2
      by_cases hS : Stray r
      · have HST := hid (show true = decide (Stray r) from (decide_eq_true hS).symm)
        have hq := (stray_iff r HR0.out).1 hS
        have HP := hid (show Lib.hasPrefix (s.extract pos s.size).data.toList (⟨#[239, 191, 189]⟩ : ByteArray).data.toList = false by rw [HPRE.out]; exact hq.2)
        obtain rfl : di = 65533 := by rw [← HDI.out, ← HD.out, hq.1]; rfl
        obtain rfl : n = 1 := by rw [← HN.out, show dec r = (65533, 1) from hS]
        clear hq hS
        go_wp2_with (first | (go_at_call 50; refine (hasPrefix_any _ _ _).mono ?_; rintro e w' ⟨rfl, rfl⟩; rw [HP.out]) | (go_at_call 36; (with_reducible refine (KEY.out _ _ HST.out ?_ ?_).mono ?_); (exact HVS2.out.trans (((Kept.refl W2).alloc _).vs _)); (exact ((Kept.refl W2).alloc _).block _ HLEN2.out |>.trans HIT2.out); rintro e w' ⟨b, rfl, i1, j1, q1⟩))
        · rename_i hbb
          refine bodyPost_ret (results_none rfl _ _ _) rfl ?_
          exact ⟨rfl, q1 (by simpa using hbb)⟩
        · rename_i hbb
          have := D1.out
          refine ⟨⟨pos + 1, by have := HSZ.out; omega, i1, j1 (by simpa using hbb)⟩, ?_⟩
          simp only [World.iterPos, i1, HIT.out]
          omega
      · have HST := hid (show false = decide (Stray r) from (decide_eq_false hS).symm)
        have HRLN := hid (show Lib.runeLen di = (n : Int) by
          have := dec_runeLen r.length (r.getD 0 0).toNat (r.getD 1 0).toNat (r.getD 2 0).toNat (r.getD 3 0).toNat hS
          rw [← HDI.out, ← HD.out, ← HN.out]; exact this)
        by_cases h65 : di = 65533
        · have HP := hid (show Lib.hasPrefix (s.extract pos s.size).data.toList (⟨#[239, 191, 189]⟩ : ByteArray).data.toList = true by
            rw [HPRE.out]
            cases e : Lib.hasPrefix r [239, 191, 189] with
            | true => exact e
            | false => exact absurd ((stray_iff r HR0.out).2 ⟨by rw [HD.out]; have := HDI.out; omega, e⟩) hS)
          clear hS
          subst h65
          go_wp2_with (first | (go_at_call 50; refine (hasPrefix_any _ _ _).mono ?_; rintro e w' ⟨rfl, rfl⟩; rw [HP.out]) | (go_at_call 51; refine (runeLen_any _ _).mono ?_; rintro e w' ⟨rfl, rfl⟩; rw [HRLN.out]) | (go_at_call 36; (with_reducible refine (KEY.out _ _ HST.out ?_ ?_).mono ?_); (exact HVS2.out.trans (((Kept.refl W2).alloc _).vs _)); (exact ((Kept.refl W2).alloc _).block _ HLEN2.out |>.trans HIT2.out); rintro e w' ⟨b, rfl, i1, j1, q1⟩))
          · rename_i hbb
            refine bodyPost_ret (results_none rfl _ _ _) rfl ?_
            exact ⟨rfl, q1 (by simpa using hbb)⟩
          · rename_i hbb
            have := D1.out
            refine ⟨⟨pos + n, by have := HSZ.out; omega, i1, j1 (by simpa using hbb)⟩, ?_⟩
            simp only [World.iterPos, i1, HIT.out]
            omega
        · clear hS
          go_wp2_with (first | (go_at_call 51; refine (runeLen_any _ _).mono ?_; rintro e w' ⟨rfl, rfl⟩; rw [HRLN.out]) | (go_at_call 36; (with_reducible refine (KEY.out _ _ HST.out ?_ ?_).mono ?_); (exact HVS2.out.trans (((Kept.refl W2).alloc _).vs _)); (exact ((Kept.refl W2).alloc _).block _ HLEN2.out |>.trans HIT2.out); rintro e w' ⟨b, rfl, i1, j1, q1⟩))
          · rename_i hbb
            refine bodyPost_ret (results_none rfl _ _ _) rfl ?_
            exact ⟨rfl, q1 (by simpa using hbb)⟩
          · rename_i hbb
            have := D1.out
            refine ⟨⟨pos + n, by have := HSZ.out; omega, i1, j1 (by simpa using hbb)⟩, ?_⟩
            simp only [World.iterPos, i1, HIT.out]
            omega
    · have hnx : ∀ ty, (Instr.next (.pointer (some ⟨w.heap.size, 0, none⟩)) true ty).run Tryd.prog wr = _ := fun ty => Lib.run_next_end_at wr w.heap.size s pos ty hit hp
      have e0 : l.drop pos = [] := List.drop_of_length_le (by omega)
      rw [e0] at HJ
      go_wp2
      go_end0
      exact ⟨rfl, HEND.out _ HJ.out⟩
set_option maxHeartbeats 4000000 in
set_option maxRecDepth 100000 in
theorem visit_is (u v : Value) (l : List UInt8) (J : List UInt8 → World → Prop) (Q : World → Prop)
    (hcb : ∀ r wr, r ≠ [] → J r wr → Calls Tryd.prog 41 #[item r, u, v] wr fun e w' => ∃ b, e = .returned (.bool b) ∧ KI wr w' ∧ (b = true → J (r.drop (dec r).2) w') ∧ (b = false → Q w'))
    (hend : ∀ wr, J [] wr → Q wr) (w : World) (hvs : ∀ r wr w', J r wr → VS w.heap.size wr w' → J r w') (hl : l.length ≤ 1000) (h0 : J l w) :
    Calls Tryd.prog 35 #[.string (bstr l), .func (.func 41) #[] #[u, v]] w fun e w' => e = .returned (.tuple #[]) ∧ Q w' := by
  have HCB := hid hcb; have HVS := hid hvs; have HEND := hid hend; have H0 := hid h0
  clear hcb hvs hend h0
  obtain ⟨s, hs⟩ : ∃ s, bstr l = s := ⟨_, rfl⟩
  have hsz : s.size = l.length := by rw [← hs, bstr_size]
  rw [hs]
  have HS := hid hs
  clear hs
  go_enter Tryd.func35, Tryd.ntmps35
  go_wp2
  go_loopw [] (fun wr => ∃ pos : Nat, pos ≤ l.length ∧ wr.heap[w.heap.size]? = some (.stringIter s pos) ∧ J (l.drop pos) wr) (fun wr => s.size - wr.iterPos w.heap.size)
  case atStart =>
    refine ⟨0, by omega, ?_, HVS.out _ _ _ H0.out (((Kept.refl w).alloc _).vs _)⟩
    have := World.iter_heap w s 0
    simpa using this
  case round =>
    obtain ⟨pos, hpl, hit, hJ⟩ := hrel
    have HJ := hid hJ
    clear hJ
    by_cases hp : pos < s.size
    · have hnx : ∀ ty, (Instr.next (.pointer (some ⟨w.heap.size, 0, none⟩)) true ty).run Tryd.prog wr = _ := fun ty => Lib.run_next_any_at wr w.heap.size s pos ty hit hp
      have hde : Utf8.decode s pos = dec (l.drop pos) := by rw [← HS.out, dec_at]
      rw [hde] at hnx
      obtain ⟨r, hr⟩ : ∃ r, l.drop pos = r := ⟨_, rfl⟩
      rw [hr] at hnx hde HJ
      have hrl : r.length = l.length - pos := by rw [← hr, List.length_drop]
      have hr0 : r ≠ [] := by intro e; rw [e, List.length_nil] at hrl; omega
      obtain ⟨d1, -, d3⟩ := dec_width r hr0
      have hr1 : r.drop (dec r).2 = l.drop (pos + (dec r).2) := by rw [← hr, List.drop_drop]
      have hmx := dec_max r
      have hit2 := Lib.iterAt_heap wr w.heap.size s pos (pos + (dec r).2) hit
      have hvs2 := vs_iterAt w.heap.size wr w.heap.size s pos (pos + (dec r).2) hit (Nat.le_refl _)
      have hlen2 : w.heap.size < (wr.iterAt w.heap.size s (pos + (dec r).2)).heap.size := (Array.getElem?_eq_some_iff.1 hit2).1
      obtain ⟨n, hn⟩ : ∃ n, (dec r).2 = n := ⟨_, rfl⟩
      obtain ⟨d, hd⟩ : ∃ d, (dec r).1 = d := ⟨_, rfl⟩
      have hext : s.extract pos (pos + n) = bstr (r.take n) := by rw [← HS.out, bstr_extract, hr]; congr 2; omega
      have hpre : s.extract pos s.size = bstr r := by rw [← HS.out, bstr_extract, hr, bstr_size, List.take_of_length_le (by omega)]
      rw [hn] at hnx hit2 hvs2 hlen2 d1 d3 hr1
      rw [hd] at hnx hmx
      obtain ⟨di, hdi⟩ : ∃ di : Int, (d : Int) = di := ⟨_, rfl⟩
      have HDI := hid hdi
      rw [hdi] at hnx
      have key : ∀ (b : Bool) (W : World), b = decide (Stray r) → VS w.heap.size wr W → W.heap[w.heap.size]? = some (.stringIter s (pos + n)) → Calls Tryd.prog 41 #[.agg #[.int .i32 di, .string (s.extract pos (pos + n)), .bool b], u, v] W fun e w' => ∃ b, e = .returned (.bool b) ∧ w'.heap[w.heap.size]? = some (.stringIter s (pos + n)) ∧ (b = true → J (l.drop (pos + n)) w') ∧ (b = false → Q w') := by
        intro b W hb hW hi
        have := HCB.out r W hr0 (HVS.out _ _ _ HJ.out hW)
        rw [item, hd, hn, hdi, ← hext, ← hb] at this
        refine this.mono ?_
        rintro e w' ⟨b, rfl, k1, k2, k3⟩
        exact ⟨b, rfl, k1.2 _ _ _ hi, fun hb => by rw [← hr1]; exact k2 hb, k3⟩
      have KEY := hid key
      clear key hdi
      obtain ⟨W2, hW2⟩ : ∃ W2, wr.iterAt w.heap.size s (pos + n) = W2 := ⟨_, rfl⟩
      rw [hW2] at hnx hit2 hvs2 hlen2
      have HR0 := hid hr0; have HEXT := hid hext; have HPRE := hid hpre; have HN := hid hn; have HD := hid hd; have HMX := hid hmx; have HRL := hid hrl; have HVS2 := hid hvs2; have HIT2 := hid hit2; have D1 := hid d1; have D3 := hid d3; have HPL := hid hpl; have HSZ := hid hsz
      have hposn : pos + n ≤ s.size := by omega
      have hsz1 : s.size ≤ 1000 := by omega
      have HLEN2 := hid hlen2; have HIT := hid hit
      clear hW2 hit hde hr1 hrl hr hr0 hext hpre hmx hvs2 hit2 d1 d3 hn hd hpl hl hsz hlen2
      by_cases hS : Stray r
      · have HST := hid (show true = decide (Stray r) from (decide_eq_true hS).symm)
        have hq := (stray_iff r HR0.out).1 hS
        have HP := hid (show Lib.hasPrefix (s.extract pos s.size).data.toList (⟨#[239, 191, 189]⟩ : ByteArray).data.toList = false by rw [HPRE.out]; exact hq.2)
        obtain rfl : di = 65533 := by rw [← HDI.out, ← HD.out, hq.1]; rfl
        obtain rfl : n = 1 := by rw [← HN.out, show dec r = (65533, 1) from hS]
        clear hq hS
        go_wp2_with (first | (go_at_call 50; refine (hasPrefix_any _ _ _).mono ?_; rintro e w' ⟨rfl, rfl⟩; rw [HP.out]) | (go_at_call 41; (with_reducible refine (KEY.out _ _ HST.out ?_ ?_).mono ?_); (exact HVS2.out.trans (((Kept.refl W2).alloc _).vs _)); (exact ((Kept.refl W2).alloc _).block _ HLEN2.out |>.trans HIT2.out); rintro e w' ⟨b, rfl, i1, j1, q1⟩))
        · rename_i hbb
          refine bodyPost_ret (results_none rfl _ _ _) rfl ?_
          exact ⟨rfl, q1 (by simpa using hbb)⟩
        · rename_i hbb
          have := D1.out
          refine ⟨⟨pos + 1, by have := HSZ.out; omega, i1, j1 (by simpa using hbb)⟩, ?_⟩
          simp only [World.iterPos, i1, HIT.out]
          omega
      · have HST := hid (show false = decide (Stray r) from (decide_eq_false hS).symm)
        have HRLN := hid (show Lib.runeLen di = (n : Int) by
          have := dec_runeLen r.length (r.getD 0 0).toNat (r.getD 1 0).toNat (r.getD 2 0).toNat (r.getD 3 0).toNat hS
          rw [← HDI.out, ← HD.out, ← HN.out]; exact this)
        by_cases h65 : di = 65533
        · have HP := hid (show Lib.hasPrefix (s.extract pos s.size).data.toList (⟨#[239, 191, 189]⟩ : ByteArray).data.toList = true by
            rw [HPRE.out]
            cases e : Lib.hasPrefix r [239, 191, 189] with
            | true => exact e
            | false => exact absurd ((stray_iff r HR0.out).2 ⟨by rw [HD.out]; have := HDI.out; omega, e⟩) hS)
          clear hS
          subst h65
          go_wp2_with (first | (go_at_call 50; refine (hasPrefix_any _ _ _).mono ?_; rintro e w' ⟨rfl, rfl⟩; rw [HP.out]) | (go_at_call 51; refine (runeLen_any _ _).mono ?_; rintro e w' ⟨rfl, rfl⟩; rw [HRLN.out]) | (go_at_call 41; (with_reducible refine (KEY.out _ _ HST.out ?_ ?_).mono ?_); (exact HVS2.out.trans (((Kept.refl W2).alloc _).vs _)); (exact ((Kept.refl W2).alloc _).block _ HLEN2.out |>.trans HIT2.out); rintro e w' ⟨b, rfl, i1, j1, q1⟩))
          · rename_i hbb
            refine bodyPost_ret (results_none rfl _ _ _) rfl ?_
            exact ⟨rfl, q1 (by simpa using hbb)⟩
          · rename_i hbb
            have := D1.out
            refine ⟨⟨pos + n, by have := HSZ.out; omega, i1, j1 (by simpa using hbb)⟩, ?_⟩
            simp only [World.iterPos, i1, HIT.out]
            omega
        · clear hS
          go_wp2_with (first | (go_at_call 51; refine (runeLen_any _ _).mono ?_; rintro e w' ⟨rfl, rfl⟩; rw [HRLN.out]) | (go_at_call 41; (with_reducible refine (KEY.out _ _ HST.out ?_ ?_).mono ?_); (exact HVS2.out.trans (((Kept.refl W2).alloc _).vs _)); (exact ((Kept.refl W2).alloc _).block _ HLEN2.out |>.trans HIT2.out); rintro e w' ⟨b, rfl, i1, j1, q1⟩))
          · rename_i hbb
            refine bodyPost_ret (results_none rfl _ _ _) rfl ?_
            exact ⟨rfl, q1 (by simpa using hbb)⟩
          · rename_i hbb
            have := D1.out
            refine ⟨⟨pos + n, by have := HSZ.out; omega, i1, j1 (by simpa using hbb)⟩, ?_⟩
            simp only [World.iterPos, i1, HIT.out]
            omega
    · have hnx : ∀ ty, (Instr.next (.pointer (some ⟨w.heap.size, 0, none⟩)) true ty).run Tryd.prog wr = _ := fun ty => Lib.run_next_end_at wr w.heap.size s pos ty hit hp
      have e0 : l.drop pos = [] := List.drop_of_length_le (by omega)
      rw [e0] at HJ
      go_wp2
      go_end0
      exact ⟨rfl, HEND.out _ HJ.out⟩
end Go.Proofs.YtiiogglflpladaaDoor
