/- The walk of HaymowNodes. -/
import Derived.Test.YtepljgondmkljaaDoorNJ
import Derived.StillTailTactics
import Derived.Deep.CutRange
import Derived.Deep.DeepCutAuto
import Derived.Deep.CutBlock
set_option linter.unusedSimpArgs false
set_option linter.unusedVariables false
namespace Go.Proofs.YtepljgondmkljaaDoor
open Go.RowKit
/-- a slice of numbers of kind k that is read -/
def IntsK (k : IntKind) (hi : Int) (w : World) (v : Value) (n : Nat) (f : Nat → Int) : Prop :=
  ∃ A c, v = .slice A n c ∧ n ≤ c ∧ c ≤ 9223372036854775807 ∧ (0 < n → ∃ b o, A = some ⟨b, o, none⟩ ∧ ∀ i, i < n → w.cell? ⟨b, o + i, none⟩ = some (.int k (f i)) ∧ 0 ≤ f i ∧ f i ≤ hi)
theorem rem_3621 (x : Int) (h0 : 0 ≤ x) (h1 : x ≤ 65535) : IntKind.u16.wrap (x.tmod 3621) = x % 3621 := by
  rw [Int.tmod_eq_emod_of_nonneg h0, IntKind.wrap_u16]; omega
def pcells (l : List (Nat × Nat)) : List Value := l.flatMap fun p => [.int .i64 (p.1 : Int), .int .u32 (p.2 : Int)]
theorem pcells_app (a b : List (Nat × Nat)) : pcells (a ++ b) = pcells a ++ pcells b := by simp [pcells]
theorem pcells_len (l : List (Nat × Nat)) : (pcells l).length = l.length * 2 := by
  induction l with
  | nil => rfl
  | cons p r ih => rw [show pcells (p :: r) = [.int .i64 (p.1 : Int), .int .u32 (p.2 : Int)] ++ pcells r from rfl, List.length_append, ih]; simp; omega
theorem pcells_at (l : List (Nat × Nat)) (k : Nat) (p : Nat × Nat) (h : l[k]? = some p) : (pcells l)[k * 2]? = some (.int .i64 (p.1 : Int)) ∧ (pcells l)[k * 2 + 1]? = some (.int .u32 (p.2 : Int)) := by
  induction l generalizing k with
  | nil => simp at h
  | cons q r ih =>
    rw [show pcells (q :: r) = [.int .i64 (q.1 : Int), .int .u32 (q.2 : Int)] ++ pcells r from rfl]
    cases k with
    | zero => simp at h; subst h; exact ⟨rfl, rfl⟩
    | succ k =>
      rw [show (k + 1) * 2 = k * 2 + 2 by omega, show k * 2 + 2 + 1 = (k * 2 + 1) + 2 by omega, List.getElem?_append_right (by simp), List.getElem?_append_right (by simp)]
      simpa using ih k (by simpa using h)
theorem ptrs_own {w : World} {base : Nat} {e : TypeId} {v : Value} {n : Nat} {l : List (Nat × Nat)} (h : w.ownsRow base e 2 v n (pcells l)) : Ptrs w v l := by
  have hl : l.length = n := by have := h.1; rw [pcells_len] at this; omega
  rcases h.2 with ⟨rfl, hn⟩ | ⟨g, cap, cur, rfl, hb, hg, hnc, hm, hs, hx⟩
  · refine ⟨none, 0, by rw [hl, hn], by omega, by omega, fun h0 => by omega⟩
  · refine ⟨_, cap, by rw [hl], by omega, by unfold maxLen at hm; omega, fun _ => ⟨g, 0, rfl, fun i p hp => ?_⟩⟩
    have hi : i < n := by rw [← hl]; exact (List.getElem?_eq_some_iff.1 hp).1
    obtain ⟨e1, e2⟩ := pcells_at l i p hp
    rw [Nat.zero_add]
    exact ⟨(h.cellAt (g := g) (cap := cap) _ (by omega)).trans e1, (h.cellAt (g := g) (cap := cap) _ (by omega)).trans e2⟩
theorem nodes_at (L : List Int) (v : Value) (w : World) (hL : Ints w v L) (ht : Tab w) (hin : InAll L) : Calls Tryd.prog 4 #[v] w fun e w' => ∃ (N : List Int) (nN : Nat) (A : Option Addr) (c : Nat), e = .returned (.tuple #[.slice A nN c, .int .i64 0]) ∧ N = upTo (onAll L) 258 ∧ N.length = nN ∧ nN ≤ 258 ∧ Ints w' (.slice A nN c) N ∧ Kept w w' := by
  refine (nodes_all L v w hL ht).mono fun e w' hp => ?_
  obtain ⟨hp, hk⟩ := hp
  obtain ⟨-, vN, rfl, hN⟩ := hp.resolve_right (fun h => h.1 hin)
  obtain ⟨A, c, rfl⟩ := hN.shape
  exact ⟨_, _, A, c, rfl, rfl, rfl, upTo_len _ _, hN, hk⟩
theorem kid_blk {H A : Int → Option (Nat × Nat)} {nm : List Int} {k : Nat} {n : Int} (h : blkF (nm ++ [(k : Int)]) = some n) : kidP H A nm k = (H n).getD (0, 0) := by unfold kidP; rw [h]
theorem kid_num {H A : Int → Option (Nat × Nat)} {nm : List Int} {k : Nat} {n : Int} (h0 : blkF (nm ++ [(k : Int)]) = none) (h : numF (nm ++ [(k : Int)]) = some n) : kidP H A nm k = (A n).getD (0, 0) := by unfold kidP; rw [h0]; dsimp only; rw [h]
theorem kid_none {H A : Int → Option (Nat × Nat)} {nm : List Int} {k : Nat} (h0 : blkF (nm ++ [(k : Int)]) = none) (h : numF (nm ++ [(k : Int)]) = none) : kidP H A nm k = (0, 0) := by unfold kidP; rw [h0]; dsimp only; rw [h]
def kidsL (H A : Int → Option (Nat × Nat)) (nm : List Int) (k : Nat) : List (Nat × Nat) := (List.range k).map (kidP H A nm)
theorem kids_succ (H A : Int → Option (Nat × Nat)) (nm : List Int) (k : Nat) : kidsL H A nm (k + 1) = kidsL H A nm k ++ [kidP H A nm k] := by simp [kidsL, List.range_succ]
theorem kids_len (H A : Int → Option (Nat × Nat)) (nm : List Int) (k : Nat) : (kidsL H A nm k).length = k := by simp [kidsL]
theorem kids_at (H A : Int → Option (Nat × Nat)) (nm : List Int) (n k : Nat) (h : k < n) : (kidsL H A nm n)[k]? = some (kidP H A nm k) := by simp [kidsL, h]
theorem nodeOf_len (n : Nat) : (nodeOf n).length ≤ 3 := by
  unfold nodeOf
  split
  · simp
  · split
    · simp
    · split <;> simp
theorem MT.trans {g : Nat} {w w1 w2 : World} (h : MT g w w1) (h' : MT g w1 w2) : MT g w w2 := ⟨h.1.trans h'.1, h.2⟩
/-- an entry made and stored to: the map is turned at this key -/
theorem VMap.turn {w : World} {g : Nat} {m : Int → Option Value} {mty et : TypeId} {z : Value} (hM : Tryd.prog.underlying mty = some (.map 3 et)) (hz : ∀ w, (zeroValue et).run Tryd.prog w = .ok z w) (h : VMap w g m) (k : Int) (v : Value) :
    ∃ (s : Nat) (u : Value) (w1 w2 : World), (Instr.mapEntry mty (.map (some g)) (.int .i64 k)).run Tryd.prog w = .ok (.tuple #[u, .int .i64 (s : Int)]) w1 ∧ (Instr.entryStore mty (.map (some g)) (.int .i64 (s : Int)) v).run Tryd.prog w1 = .ok () w2 ∧ VMap w2 g (fun j => if j = k then some v else m j) ∧ MT g w w1 ∧ MT g w w2 := by
  obtain ⟨es, c, hm⟩ := h.isMap
  obtain ⟨o, s, u, h1, h2⟩ := h.entry hM hz k
  obtain ⟨o2, h3, h4⟩ := h2.store v mty
  have hm2 : ∃ es' c', ({ w with heap := w.heap.setIfInBounds g o } : World).heap[g]? = some (.map es' c') := by
    obtain ⟨es', c', hb, -⟩ := h2
    exact ⟨es', c', hb⟩
  obtain ⟨es', c', hm2⟩ := hm2
  exact ⟨s, u, _, _, h1, h3, h4, mt_set hm o, (mt_set hm o).trans (mt_set hm2 o2)⟩
theorem drop_at (N : List Int) (j : Nat) (x : Int) (h : N[j]? = some x) : N.drop j = x :: N.drop (j + 1) := by
  obtain ⟨h1, h2⟩ := List.getElem?_eq_some_iff.1 h
  rw [List.drop_eq_getElem_cons h1, h2]
theorem sorted_at (N : List Int) (h : N.Pairwise (· < ·)) (j : Nat) (x : Int) (hx : N[j]? = some x) : ∀ m ∈ N.drop (j + 1), x < m := by
  have h2 : (N.drop j).Pairwise (· < ·) := h.sublist (List.drop_sublist j N)
  rw [drop_at N j x hx] at h2
  exact (List.pairwise_cons.1 h2).1
theorem path_at (n : Int) (h0 : 0 ≤ n) (hn : n < 3621) (w : World) (ht : Tab w) : Calls Tryd.prog 10 #[.int .i64 n] w fun e w' => ∃ (P : List Int) (lp : Nat) (A : Option Addr) (c : Nat), e = .returned (.tuple #[.slice A lp c, .int .i64 0]) ∧ P = pathOf n.toNat ∧ P.length = lp ∧ 1 ≤ lp ∧ lp ≤ 4 ∧ Ints w' (.slice A lp c) P ∧ Kept w w' := by
  refine (path_any n h0 hn w ht).mono fun e w' hp => ?_
  obtain ⟨v, rfl, hi, hk⟩ := hp
  obtain ⟨A, c, rfl⟩ := hi.shape
  exact ⟨_, _, A, c, rfl, rfl, rfl, (path_len _).1, (path_len _).2, hi, hk⟩
theorem tyIU : 3 ≠ 5 := by decide
structure St1 (w : World) (gh : Nat) (lv : Value) (i : Nat) (L : List Int) (H : Int → Option (Nat × Nat)) (wr : World) : Prop where
  le : i ≤ 20
  row : wr.ownsRow w.heap.size 3 1 lv i (L.map (Value.int .i64))
  inall : InAll L
  ok : HOk H L
  map : PMap wr gh H
  kept : Kept w wr
set_option maxRecDepth 100000 in
set_option maxHeartbeats 4000000 in
theorem nodes_walk {w : World} (ht : Tab w) (hT : HTab w) (v1 v2 : Value) (n1 n2 : Nat) (f1 f2 : Nat → Int) (h1 : IntsK .u16 65535 w v1 n1 f1) (h2 : IntsK .u32 4294967295 w v2 n2 f2) (o : Int) (ho : 0 ≤ o ∧ o ≤ 65535) :
    Calls Tryd.prog 3 #[v1, v2, .int .u16 o] w fun e w' => e = .returned (.bool true) ∧ Kept w w' := by
  have HT := hid ht; have HH := hid hT
  obtain ⟨A1, c1, rfl, c11, c12, hc1⟩ := h1
  obtain ⟨A2, c2, rfl, c21, c22, hc2⟩ := h2
  have HC1 := hid hc1; have HC2 := hid hc2
  clear ht hT hc1 hc2
  have hmm := @run_makeMap Tryd.prog
  go_enter Tryd.func3, Tryd.ntmps3
  go_upto_block 0 with fail
  have HM0 := hid (show PMap (w.alloc (.map #[] 0)) w.heap.size (fun _ => none) from vmap_new w)
  go_cut [8, 9, 10] (fun lv iv nv wr => ∃ i L H, St1 w w.heap.size lv i L H wr)
  case first =>
    --CASE1
    go_wp2_with fail
    go_loopw [9, 8] (fun t lv wr => ∃ i L H, t = .int .i64 (i : Nat) ∧ St1 w w.heap.size lv i L H wr) (fun t _ _ => 20 - (intOf t).toNat)
    case atStart => exact ⟨0, [], _, rfl, by omega, World.ownsRow_nil _ _ _ _, by simp [InAll], (by intro n p h; cases h), HM0.out, (by repeat (first | exact Kept.refl _ | assumption | refine Kept.alloc ?_ _ | refine Kept.drew ?_ | refine Kept.drewN ?_ _ | refine Kept.setCell ?_ (by simp; try omega) _ | refine Kept.trans ?_ (by assumption)))⟩
    case round =>
      obtain ⟨i, L, H, rfl, hst⟩ := hrel
      have ST := hid hst
      have hle := hst.le
      clear hst HM0
      have e0 : (0 : Int) ≤ (i : Int) := by omega
      by_cases e1 : (i : Int) < (n1 : Int)
      · by_cases e2 : (i : Int) < 20
        · by_cases e3 : (i : Int) < (n2 : Int)
          · obtain ⟨b1, o1, rfl, g1⟩ := HC1.out (by omega)
            obtain ⟨b2, o2, rfl, g2⟩ := HC2.out (by omega)
            obtain ⟨m1, l1, u1⟩ := g1 i (by omega)
            obtain ⟨m2, l2, u2⟩ := g2 i (by omega)
            replace m1 := ST.out.kept.keeps m1
            replace m2 := ST.out.kept.keeps m2
            clear g1 g2
            generalize f1 i = x at *
            generalize f2 i = y at *
            have hr : IntKind.u16.wrap (x % 3621) = x % 3621 := by rw [IntKind.wrap_u16]; omega
            have hz2 : 0 ≤ x % 3621 ∧ x % 3621 < 3621 := by omega
            have hzw : IntKind.i64.wrap (x % 3621) = x % 3621 := by rw [IntKind.wrap_i64]; omega
            have hs1 : IntKind.i64.wrap (1 + (i : Int)) = 1 + (i : Int) := by rw [IntKind.wrap_i64]; omega
            obtain ⟨w1, hput, hp1, hp2⟩ := ST.out.map.put (x % 3621) (1 + i, y.toNat)
            rw [ptrV, show (((1 + i : Nat)) : Int) = 1 + (i : Int) by omega, show ((y.toNat : Nat) : Int) = y by omega] at hput
            have ST1 := hid (show w1.ownsRow w.heap.size 3 1 _ i (L.map (Value.int .i64)) from hp2.row ST.out.row)
            have KP1 := hid (hp2.kept ST.out.kept (Nat.le_refl _))
            have MP1 := hid hp1
            clear hp1 hp2
            go_wp2_with (at_builtin; refine wpList_pushB rfl (.tmp 70) (.tmp 72) 26 rfl w.heap.size 3 _ 1 8 Tryd.underlying26 info_int rfl (by decide) (by decide) _ i (L.map (Value.int .i64)) [.int .i64 (x % 3621)] 1 w1.heap.size rfl ST1.out rfl rfl rfl (by simp [Value.oneCell']) (by omega) ?_ ?_; (focus exact KP1.out.size); intro v' w' hown' hgr hat')
            go_roundw
            case rel =>
              refine ⟨i + 1, L ++ [x % 3621], _, by go_num, by omega, by rw [List.map_append]; exact hown', ?_, ?_, MP1.out.grown ST1.out hgr, (KP1.out.alloc _).grown hgr (fun q hq => (ST1.out.lt q hq).1)⟩
              · intro n hn
                rcases List.mem_append.1 hn with hn | hn
                · exact ST.out.inall n hn
                · rw [List.mem_singleton] at hn; subst hn; exact hz2
              · intro n p hp
                by_cases hn : n = x % 3621
                · simp only [hn, if_true, Option.some.injEq] at hp
                  subst hp
                  refine ⟨⟨?_, ?_, ?_⟩, by simp [hn]⟩ <;> dsimp only <;> omega
                · simp only [hn, if_false] at hp
                  obtain ⟨q1, q2⟩ := ST.out.ok n p hp
                  exact ⟨q1, List.mem_append.2 (.inl q2)⟩
            case measure => simp [intOf]; omega
          · have hst := ST.out
            clear ST
            go_wp2_with fail
            go_meet
            exact ⟨i, L, H, hst⟩
        · have hst := ST.out
          clear ST
          go_wp2_with fail
          go_meet
          exact ⟨i, L, H, hst⟩
      · have hst := ST.out
        clear ST
        go_wp2_with fail
        go_meet
        exact ⟨i, L, H, hst⟩
    --END1
  case rest =>
  obtain ⟨i, L, H, hst⟩ := hcut
  have ST := hid hst
  have HTc := hid (hst.kept.tab HT.out)
  clear hst HM0
  have hs0 : ∀ q : Nat, q ≤ 258 → IntKind.i64.wrap ((q : Int) - 1) = (q : Int) - 1 := fun q hq => by rw [IntKind.wrap_i64]; omega
  go_upto_block 2 with (go_at_call 4; (with_reducible refine (nodes_at L _ _ (ints_own ST.out.row).1 HTc.out ST.out.inall).mono ?_); rintro e w2 ⟨N, nN, AN, cN, rfl, hNe, hnN, hn258, hN, k2⟩; have HNE := hid hNe; have HNN := hid hnN; have HN0 := hid hN; have hs1 := hs0 nN hn258; have K2 := hid k2; clear hN k2 hNe hnN)
  have HRG := hid (show ∀ m ∈ N, 0 ≤ m ∧ m < 258 from fun m hm => by
    rw [HNE.out, mem_upTo] at hm
    obtain ⟨j, h1, -, rfl⟩ := hm
    omega)
  have HSO := hid (show N.Pairwise (· < ·) from by rw [HNE.out]; exact upTo_sorted _ _)
  have HMB := hid (show BMap ((w2.alloc (.map #[] 0)).alloc (.map #[] 0)) w2.heap.size (fun _ => none) from ((Kept.refl _).alloc _).vmap (vmap_new w2))
  have HMA := hid (show PMap ((w2.alloc (.map #[] 0)).alloc (.map #[] 0)) (w2.heap.size + 1) (fun _ => none) from by
    have := vmap_new (w2.alloc (.map #[] 0))
    rwa [World.size_alloc] at this)
  have KL := hid (((Kept.refl w2).alloc (.map #[] 0)).alloc (.map #[] 0))
  go_cut [15] (fun t wr => ∃ A B, Done wr H N A B ∧ PMap wr (w2.heap.size + 1) A ∧ BMap wr w2.heap.size B ∧ Kept w2 wr)
  case first => as_aux_lemma =>
    generalize ((w2.alloc (.map #[] 0)).alloc (.map #[] 0)) = wL at *
    go_wp2_with fail
    go_loopw [15] (fun t wr => ∃ j : Nat, ∃ A B, j ≤ nN ∧ t = .int .i64 ((j : Int) - 1) ∧ Done wr H (N.drop j) A B ∧ PMap wr (w2.heap.size + 1) A ∧ BMap wr w2.heap.size B ∧ Kept w2 wr) (fun t _ => (intOf t + 1).toNat)
    case atStart => exact ⟨nN, _, _, by omega, rfl, by rw [List.drop_of_length_le (by rw [HNN.out]; omega)]; exact done_nil _ _, HMA.out, HMB.out, KL.out⟩
    case round =>
      obtain ⟨j, A, B, hj, rfl, hD, hA, hB, hk⟩ := hrel
      have DO := hid hD; have MA := hid hA; have MB := hid hB; have KR := hid hk
      clear hD hA hB hk HMA HMB KL
      cases j with
      | zero =>
        --CASE2
        go_wp2_with fail
        go_meet
        exact ⟨A, B, DO.out, MA.out, MB.out, KR.out⟩
        --END2
      | succ j =>
        have hj1 : ((j + 1 : Nat) : Int) - 1 = (j : Int) := by omega
        rw [hj1]
        have e0 : (0 : Int) ≤ (j : Int) := by omega
        have e1 : (j : Int) < (nN : Int) := by omega
        obtain ⟨x, hx⟩ : ∃ x, N[j]? = some x := ⟨_, List.getElem?_eq_getElem (by rw [HNN.out]; omega)⟩
        obtain ⟨bN, oN, rfl, gN⟩ := HN0.out.cells (by omega)
        have mx := KR.out.keeps (gN j (by omega))
        rw [List.getD_eq_getElem?_getD, hx, Option.getD_some] at mx
        have hxr := HRG.out x (List.mem_of_getElem? hx)
        have HX := hid hx
        have MX := hid mx
        clear hx gN
        have TR := hid ((ST.out.kept.trans K2.out).trans KR.out)
        go_upto_block 4 with (go_at_call 5; (with_reducible refine (node_any x hxr.1 hxr.2 _).mono ?_); rintro e w3 ⟨vm, rfl, hm, k3⟩; have NM := hid hm; have K3 := hid k3; clear hm k3)
        have TM := hid (TR.out.trans K3.out)
        go_wp2_with fail
        go_loopw [19, 18] (fun t kv wq => ∃ k : Nat, k ≤ 15 ∧ t = .int .i64 (k : Int) ∧ wq.ownsRow w3.heap.size 29 2 kv k (pcells (kidsL H A (nodeOf x.toNat) k)) ∧ Kept w3 wq) (fun t _ _ => 15 - (intOf t).toNat)
        case atStart => exact ⟨0, by omega, rfl, World.ownsRow_nil _ _ _ _, Kept.refl _⟩
        case round =>
          obtain ⟨k, hk15, rfl, hrow, hkq⟩ := hrel
          have RO := hid hrow; have KQ := hid hkq
          clear hrow hkq mx
          by_cases e2 : (k : Int) < 15
          · --CASE3
            have e3 : (0 : Int) ≤ (k : Int) := by omega
            obtain ⟨nm, hnm⟩ : ∃ nm, nodeOf x.toNat = nm := ⟨_, rfl⟩
            rw [hnm] at RO NM
            have HNM := hid hnm
            clear hnm
            rename World => wq
            have hlm : nm.length ≤ 3 := by rw [← HNM.out]; exact nodeOf_len _
            go_upto_region 25 with (first
              | (at_builtin; refine wpList_append_ints (W := wq) rfl (.tmp 104) (.tmp 105) rfl _ 0 [] nm vm rfl (World.ownsRow_made wq #[] 0 (Nat.le_refl _) (by decide) rfl) rfl (((KQ.out.ints NM.out)).alloc _) ?_ ?_ ?_; (focus omega); (focus exact (Kept.refl wq).alloc _); intro v5 w5 r1 q1 hdum; rw [Nat.zero_add, List.nil_append] at r1; have R1 := hid r1; have Q1 := hid q1; clear r1 q1 hdum)
              | (at_builtin; refine wpList_pushI (W := wq) rfl (.tmp 106) (.tmp 108) rfl v5 nm.length nm k 1 _ rfl R1.out rfl rfl ?_ Q1.out ?_; (focus omega); intro v6 w6 r1 q1; have R2 := hid r1; have Q2 := hid q1; clear r1 q1))
            have IP := hid (ints_own R2.out).1
            have kq6 : Kept wq w6 := Q2.out
            have hgq : wq.heap.size ≤ w6.heap.size := kq6.size
            go_upto_region 26 with fail
            have c0 : (w6.alloc (.cells #[.int .i64 0, .int .u32 0] 29)).cell? ⟨w6.heap.size, 0, none⟩ = some (.int .i64 0) := by simp [go_sem]
            have c1 : (w6.alloc (.cells #[.int .i64 0, .int .u32 0] 29)).cell? ⟨w6.heap.size, 1, none⟩ = some (.int .u32 0) := by simp [go_sem]
            have d0 : (w6.alloc (.cells #[.int .i64 0, .int .u32 0] 29)).frozen? ⟨w6.heap.size, 0, none⟩ = false := by simp [go_sem]
            have d1 : (w6.alloc (.cells #[.int .i64 0, .int .u32 0] 29)).frozen? ⟨w6.heap.size, 1, none⟩ = false := by simp [go_sem]
            have kqb := kq6.alloc (.cells #[.int .i64 0, .int .u32 0] 29)
            have IB := hid (IP.out.alloc (.cells #[.int .i64 0, .int .u32 0] 29))
            have TB := hid (((TM.out.trans KQ.out).trans kqb).tab HT.out)
            have MHB := hid (((((K2.out.trans KR.out).trans K3.out).trans KQ.out).trans kqb).vmap ST.out.map)
            have MAB := hid (((K3.out.trans KQ.out).trans kqb).vmap MA.out)
            clear kq6 R1 R2 Q1 Q2 IP
            generalize (w6.alloc (.cells #[.int .i64 0, .int .u32 0] 29)) = wb at *
            generalize w6.heap.size = gp at *
            cases hb : blkF (nm ++ [(k : Int)]) with
            | some n =>
              have HKI := hid (kid_blk (H := H) (A := A) hb)
              have HB := hid hb
              clear hb
              go_upto_region 28 with (go_at_call 6; (with_reducible refine (block_yes _ n HB.out v6 _ IB.out TB.out).mono ?_); rintro e w7 ⟨rfl, k7⟩; have hlk := PMap.look (k7.vmap MHB.out) n; have e0' := k7.free c0 d0; have e1' := k7.free c1 d1; have c0' := k7.keeps c0; have c1' := k7.keeps c1; have kq7 := kqb.trans k7)
              clear c0 c1 d0 d1 IB TB MHB MAB
              obtain ⟨⟨p1, p2⟩, hpp⟩ : ∃ p, (H n).getD (0, 0) = p := ⟨_, rfl⟩
              rw [hpp, ptrV] at hlk
              dsimp only at hlk
              have HKP := hid (HKI.out.trans hpp)
              clear hpp HKI
              go_wp2_with (at_builtin; refine wpList_pushB rfl (.tmp 131) (.tmp 133) 35 rfl w3.heap.size 29 _ 2 16 Tryd.underlying35 info_ptr rfl (by decide) (by decide) _ k (pcells (kidsL H A nm k)) [.int .i64 (p1 : Int), .int .u32 (p2 : Int)] 1 w7.heap.size rfl (Kept.row (show Kept wq _ from (by repeat (first | exact Kept.refl _ | assumption | refine Kept.alloc ?_ _ | refine Kept.drew ?_ | refine Kept.drewN ?_ _ | refine Kept.setCell ?_ (by simp; try omega) _ | refine Kept.trans ?_ (by assumption)))) RO.out) (by simp) rfl rfl (by simp [Value.oneCell']) (by omega) (KQ.out.trans (show Kept wq _ from (by repeat (first | exact Kept.refl _ | assumption | refine Kept.alloc ?_ _ | refine Kept.drew ?_ | refine Kept.drewN ?_ _ | refine Kept.setCell ?_ (by simp; try omega) _ | refine Kept.trans ?_ (by assumption))))).size ?_; intro v8 w8 hown' hgr hat'; have HOW := hid hown'; have HGR := hid (Kept.grown ((KQ.out.trans (show Kept wq _ from (by repeat (first | exact Kept.refl _ | assumption | refine Kept.alloc ?_ _ | refine Kept.drew ?_ | refine Kept.drewN ?_ _ | refine Kept.setCell ?_ (by simp; try omega) _ | refine Kept.trans ?_ (by assumption))))).alloc _) hgr (fun q hq => (RO.out.lt q hq).1)); clear hown' hgr hat')
              go_roundw
              case rel => exact ⟨k + 1, by omega, by go_num, by rw [HNM.out, kids_succ, pcells_app, HKP.out]; exact HOW.out, HGR.out⟩
              case measure => simp [intOf]; omega
            | none =>
              have HB := hid hb
              cases hn : numF (nm ++ [(k : Int)]) with
              | some n =>
                have HKI := hid (kid_num (H := H) (A := A) hb hn)
                have HN := hid hn
                clear hb hn
                go_upto_region 29 with (go_at_call 6; (with_reducible refine (block_no _ HB.out v6 _ IB.out TB.out).mono ?_); rintro e w9 ⟨rfl, k9⟩; have I9 := hid (k9.ints IB.out); have K9 := hid k9; clear k9)
                go_upto_region 31 with (go_at_call 7; (with_reducible refine (number_yes _ n HN.out v6 _ I9.out).mono ?_); rintro e w7 ⟨rfl, k7'⟩; have k7 := K9.out.trans k7'; have hlk := PMap.look (k7.vmap MAB.out) n; have e0' := k7.free c0 d0; have e1' := k7.free c1 d1; have c0' := k7.keeps c0; have c1' := k7.keeps c1; have kq7 := kqb.trans k7)
                clear c0 c1 d0 d1 IB TB MHB MAB
                obtain ⟨⟨p1, p2⟩, hpp⟩ : ∃ p, (A n).getD (0, 0) = p := ⟨_, rfl⟩
                rw [hpp, ptrV] at hlk
                dsimp only at hlk
                have HKP := hid (HKI.out.trans hpp)
                clear hpp HKI
                go_wp2_with (at_builtin; refine wpList_pushB rfl (.tmp 131) (.tmp 133) 35 rfl w3.heap.size 29 _ 2 16 Tryd.underlying35 info_ptr rfl (by decide) (by decide) _ k (pcells (kidsL H A nm k)) [.int .i64 (p1 : Int), .int .u32 (p2 : Int)] 1 w7.heap.size rfl (Kept.row (show Kept wq _ from (by repeat (first | exact Kept.refl _ | assumption | refine Kept.alloc ?_ _ | refine Kept.drew ?_ | refine Kept.drewN ?_ _ | refine Kept.setCell ?_ (by simp; try omega) _ | refine Kept.trans ?_ (by assumption)))) RO.out) (by simp) rfl rfl (by simp [Value.oneCell']) (by omega) (KQ.out.trans (show Kept wq _ from (by repeat (first | exact Kept.refl _ | assumption | refine Kept.alloc ?_ _ | refine Kept.drew ?_ | refine Kept.drewN ?_ _ | refine Kept.setCell ?_ (by simp; try omega) _ | refine Kept.trans ?_ (by assumption))))).size ?_; intro v8 w8 hown' hgr hat'; have HOW := hid hown'; have HGR := hid (Kept.grown ((KQ.out.trans (show Kept wq _ from (by repeat (first | exact Kept.refl _ | assumption | refine Kept.alloc ?_ _ | refine Kept.drew ?_ | refine Kept.drewN ?_ _ | refine Kept.setCell ?_ (by simp; try omega) _ | refine Kept.trans ?_ (by assumption))))).alloc _) hgr (fun q hq => (RO.out.lt q hq).1)); clear hown' hgr hat')
                go_roundw
                case rel => exact ⟨k + 1, by omega, by go_num, by rw [HNM.out, kids_succ, pcells_app, HKP.out]; exact HOW.out, HGR.out⟩
                case measure => simp [intOf]; omega
              | none =>
                have HKP := hid (kid_none (H := H) (A := A) hb hn)
                have HN := hid hn
                clear hb hn
                go_upto_region 29 with (go_at_call 6; (with_reducible refine (block_no _ HB.out v6 _ IB.out TB.out).mono ?_); rintro e w9 ⟨rfl, k9⟩; have I9 := hid (k9.ints IB.out); have K9 := hid k9; clear k9)
                go_upto_region 32 with (go_at_call 7; (with_reducible refine (number_none _ HN.out v6 _ I9.out).mono ?_); rintro e w7 ⟨rfl, k7'⟩; have k7 := K9.out.trans k7'; have e0' := k7.free c0 d0; have e1' := k7.free c1 d1; have c0' := k7.keeps c0; have c1' := k7.keeps c1; have kq7 := kqb.trans k7)
                clear c0 c1 d0 d1 IB TB MHB MAB
                go_wp2_with (at_builtin; refine wpList_pushB rfl (.tmp 131) (.tmp 133) 35 rfl w3.heap.size 29 _ 2 16 Tryd.underlying35 info_ptr rfl (by decide) (by decide) _ k (pcells (kidsL H A nm k)) [.int .i64 0, .int .u32 0] 1 w7.heap.size rfl (Kept.row (show Kept wq _ from (by repeat (first | exact Kept.refl _ | assumption | refine Kept.alloc ?_ _ | refine Kept.drew ?_ | refine Kept.drewN ?_ _ | refine Kept.setCell ?_ (by simp; try omega) _ | refine Kept.trans ?_ (by assumption)))) RO.out) (by simp) rfl rfl (by simp [Value.oneCell']) (by omega) (KQ.out.trans (show Kept wq _ from (by repeat (first | exact Kept.refl _ | assumption | refine Kept.alloc ?_ _ | refine Kept.drew ?_ | refine Kept.drewN ?_ _ | refine Kept.setCell ?_ (by simp; try omega) _ | refine Kept.trans ?_ (by assumption))))).size ?_; intro v8 w8 hown' hgr hat'; have HOW := hid hown'; have HGR := hid (Kept.grown ((KQ.out.trans (show Kept wq _ from (by repeat (first | exact Kept.refl _ | assumption | refine Kept.alloc ?_ _ | refine Kept.drew ?_ | refine Kept.drewN ?_ _ | refine Kept.setCell ?_ (by simp; try omega) _ | refine Kept.trans ?_ (by assumption))))).alloc _) hgr (fun q hq => (RO.out.lt q hq).1)); clear hown' hgr hat')
                go_roundw
                case rel => exact ⟨k + 1, by omega, by go_num, by rw [HNM.out, kids_succ, pcells_app, HKP.out]; exact HOW.out, HGR.out⟩
                case measure => simp [intOf]; omega
            --END3
          · --CASE4
            have hk15' : k = 15 := by omega
            rw [hk15'] at RO
            clear hk15' hk15
            have hlN := kids_len H A (nodeOf x.toNat) 15
            have HKA := hid (fun k (hk : k < 15) => kids_at H A (nodeOf x.toNat) 15 k hk)
            have HKO := hid (show ∀ p ∈ kidsL H A (nodeOf x.toNat) 15, PtrOk p from fun p hp => by
              obtain ⟨q, -, rfl⟩ := List.mem_map.1 hp
              exact kid_ok DO.out ST.out.ok _ _)
            generalize kidsL H A (nodeOf x.toNat) 15 = K at *
            have HLK := hid hlN
            clear hlN
            have TQ := hid (TM.out.trans KQ.out)
            have hs2 : IntKind.i64.wrap (1000 + x) = 1000 + x := by rw [IntKind.wrap_i64]; omega
            have hs3 := hs0 j (by omega)
            have mx3 := KQ.out.keeps (K3.out.keeps MX.out)
            rename World => wq
            go_upto_region 34 with (go_at_call 8; (with_reducible refine (inode_node _ K _ HLK.out (TQ.out.htab HH.out) HKO.out (ptrs_own RO.out)).mono ?_); rintro e w4 ⟨g, rfl, ob, hg, k4⟩; have OB := hid ob; have K4 := hid k4; have mx4 := k4.keeps mx3; clear ob hg k4 mx3)
            have HSR := hid (sumF_range (nodeB K))
            have HNL := hid (show (nodeB K).length = 128 from sealL_len _ (by rw [packL_len, sumW_nums, HLK.out]; omega))
            obtain ⟨sm, hsm⟩ : ∃ q, sumF (nodeB K) = q := ⟨_, rfl⟩
            have HSM := hid hsm
            clear hsm
            have hlt1 : ¬ (1000 + x) < 1 := by omega
            have T4 := hid (TQ.out.trans K4.out)
            go_upto_region 35 with (go_at_call 9; (with_reducible refine (to_any (1000 + x) g (nodeB K) _ ?_ ?_ (T4.out.htab HH.out) OB.out HNL.out).mono ?_); (focus omega); (focus omega); rw [HSM.out]; rintro e w5 ⟨rfl, k5⟩; have K5 := hid k5; have mx5 := k5.keeps mx4; clear k5 mx4)
            have c0 : (w5.alloc (.cells #[.int .i64 (1000 + x), .int .u32 sm] 29)).cell? ⟨w5.heap.size, 0, none⟩ = some (.int .i64 (1000 + x)) := by simp [go_sem]
            have c1 : (w5.alloc (.cells #[.int .i64 (1000 + x), .int .u32 sm] 29)).cell? ⟨w5.heap.size, 1, none⟩ = some (.int .u32 sm) := by simp [go_sem]
            have mxb := ((Kept.refl w5).alloc (.cells #[.int .i64 (1000 + x), .int .u32 sm] 29)).keeps mx5
            have KB := hid (((((K3.out.trans KQ.out).trans K4.out).trans K5.out).alloc (.cells #[.int .i64 (1000 + x), .int .u32 sm] 29)))
            have KOB := hid (K5.out.alloc (.cells #[.int .i64 (1000 + x), .int .u32 sm] 29))
            clear mx5
            generalize (w5.alloc (.cells #[.int .i64 (1000 + x), .int .u32 sm] 29)) = wb at *
            generalize w5.heap.size = gp at *
            obtain ⟨s1, y1, w11, w12, t1, t2, hB2, hT0, hT1⟩ := VMap.turn Tryd.underlying33 zeroBytes (show VMap wb.drew w2.heap.size _ from KB.out.vmap MB.out) x (.slice (some ⟨g, 0, none⟩) 128 128)
            have hA1 := hT1.vmap (show VMap wb.drew (w2.heap.size + 1) _ from KB.out.vmap MA.out) (by omega)
            obtain ⟨s2, y2, w13, w14, t3, t4, hA2, hT3, hT2⟩ := VMap.turn Tryd.underlying25 zeroPtr hA1 x (.agg #[.int .i64 (1000 + x), .int .u32 sm])
            have hB3 := hT2.vmap hB2 (by omega)
            have MB3 := hid hB3; have MA2 := hid hA2; have HT1 := hid hT1; have HT2 := hid hT2
            have HT0 := hid hT0; have HT3 := hid hT3
            clear hA1 hB2 hB3 hA2 hT1 hT2 hT0 hT3
            go_upto_region 37 with fail
            refine wp_region_held_drew (S := fun w' => w'.cell? ⟨bN, oN + j, none⟩ = some (.int .i64 x) ∧ w'.cell? ⟨gp, 0, none⟩ = some (.int .i64 (1000 + x)) ∧ w'.cell? ⟨gp, 1, none⟩ = some (.int .u32 sm)) (by kernel_rfl) ⟨mxb, c0, c1⟩ (fun hHeld => ?_)
            refine wpAnyH_take (i := 0) (v := ?_) rfl (by kernel_rfl) (by kernel_rfl) (by kernel_rfl) (fun _ _ _ h => h) (Or.inl ⟨by rfl, ?_⟩) (by assumption) ?_
            rotate_left
            focus (intro w hSw; (try dsimp only at hSw); go_simp; first | done | with_reducible rfl)
            (try simp only [List.getElem_toArray, List.getElem_cons_zero, List.getElem_cons_succ, Act.put, List.setIfInBounds_toArray, List.set_cons_zero, List.set_cons_succ])
            refine wpAnyH_take (i := 1) (v := ?_) rfl (by kernel_rfl) (by kernel_rfl) (by kernel_rfl) (fun _ _ _ h => h) (Or.inl ⟨by rfl, ?_⟩) (by assumption) ?_
            rotate_left
            focus (intro w hSw; (try dsimp only at hSw); go_simp; first | done | with_reducible rfl)
            (try simp only [List.getElem_toArray, List.getElem_cons_zero, List.getElem_cons_succ, Act.put, List.setIfInBounds_toArray, List.set_cons_zero, List.set_cons_succ])
            refine wpAnyH_take (i := 2) (v := ?_) rfl (by kernel_rfl) (by kernel_rfl) (by kernel_rfl) (fun _ _ _ h => h) (Or.inl ⟨by rfl, ?_⟩) (by assumption) ?_
            rotate_left
            focus (intro w hSw; (try dsimp only at hSw); go_simp; first | done | with_reducible rfl)
            (try simp only [List.getElem_toArray, List.getElem_cons_zero, List.getElem_cons_succ, Act.put, List.setIfInBounds_toArray, List.set_cons_zero, List.set_cons_succ])
            refine wpAnyH_take (i := 3) (v := ?_) rfl (by kernel_rfl) (by kernel_rfl) (by kernel_rfl) (fun _ _ _ h => h) (Or.inl ⟨by rfl, ?_⟩) (by assumption) ?_
            rotate_left
            focus (intro w hSw; (try dsimp only at hSw); go_simp; first | done | with_reducible rfl)
            (try simp only [List.getElem_toArray, List.getElem_cons_zero, List.getElem_cons_succ, Act.put, List.setIfInBounds_toArray, List.set_cons_zero, List.set_cons_succ])
            refine wpAnyH_take (i := 4) (v := ?_) rfl (by kernel_rfl) (by kernel_rfl) (by kernel_rfl) (fun _ _ _ h => h) (Or.inl ⟨by rfl, ?_⟩) (by assumption) ?_
            rotate_left
            focus (intro w hSw; (try dsimp only at hSw); go_simp; first | done | with_reducible rfl)
            (try simp only [List.getElem_toArray, List.getElem_cons_zero, List.getElem_cons_succ, Act.put, List.setIfInBounds_toArray, List.set_cons_zero, List.set_cons_succ])
            refine wpAnyH_take (i := 5) (v := ?_) rfl (by kernel_rfl) (by kernel_rfl) (by kernel_rfl) (fun _ _ _ h => h) (Or.inl ⟨by rfl, ?_⟩) (by assumption) ?_
            rotate_left
            focus (intro w hSw; (try dsimp only at hSw); go_simp; first | done | with_reducible rfl)
            (try simp only [List.getElem_toArray, List.getElem_cons_zero, List.getElem_cons_succ, Act.put, List.setIfInBounds_toArray, List.set_cons_zero, List.set_cons_succ])
            refine wpAnyH_take (i := 6) (v := ?_) rfl (by kernel_rfl) (by kernel_rfl) (by kernel_rfl) (fun _ _ _ h => h) (Or.inl ⟨by rfl, ?_⟩) (by assumption) ?_
            rotate_left
            focus (intro w hSw; (try dsimp only at hSw); go_simp; first | done | with_reducible rfl)
            (try simp only [List.getElem_toArray, List.getElem_cons_zero, List.getElem_cons_succ, Act.put, List.setIfInBounds_toArray, List.set_cons_zero, List.set_cons_succ])
            refine wpAnyH_take (i := 7) (v := ?_) rfl (by kernel_rfl) (by kernel_rfl) (by kernel_rfl) (fun _ _ _ h => h) (Or.inl ⟨by rfl, ?_⟩) (by assumption) ?_
            rotate_left
            focus (intro w hSw; (try dsimp only at hSw); go_simp; first | done | with_reducible rfl)
            (try simp only [List.getElem_toArray, List.getElem_cons_zero, List.getElem_cons_succ, Act.put, List.setIfInBounds_toArray, List.set_cons_zero, List.set_cons_succ])
            refine wpAnyH_take (i := 8) (v := ?_) rfl (by kernel_rfl) (by kernel_rfl) (by kernel_rfl) (fun _ _ _ h => h) (Or.inl ⟨by rfl, ?_⟩) (by assumption) ?_
            rotate_left
            focus (intro w hSw; (try dsimp only at hSw); go_simp; first | done | with_reducible rfl)
            (try simp only [List.getElem_toArray, List.getElem_cons_zero, List.getElem_cons_succ, Act.put, List.setIfInBounds_toArray, List.set_cons_zero, List.set_cons_succ])
            refine wpAnyH_take (i := 9) (v := ?_) rfl (by kernel_rfl) (by kernel_rfl) (by kernel_rfl) (fun _ _ _ h => h) (Or.inl ⟨by rfl, ?_⟩) (by assumption) ?_
            rotate_left
            focus (intro w hSw; (try dsimp only at hSw); go_simp; first | done | with_reducible rfl)
            (try simp only [List.getElem_toArray, List.getElem_cons_zero, List.getElem_cons_succ, Act.put, List.setIfInBounds_toArray, List.set_cons_zero, List.set_cons_succ])
            refine wpAnyH_take (i := 10) (v := ?_) rfl (by kernel_rfl) (by kernel_rfl) (by kernel_rfl) (fun _ _ _ h => h) (Or.inl ⟨by rfl, ?_⟩) (by assumption) ?_
            rotate_left
            focus (intro w hSw; (try dsimp only at hSw); go_simp; first | done | with_reducible rfl)
            (try simp only [List.getElem_toArray, List.getElem_cons_zero, List.getElem_cons_succ, Act.put, List.setIfInBounds_toArray, List.set_cons_zero, List.set_cons_succ])
            refine wpAnyH_take (i := 11) (v := ?_) rfl (by kernel_rfl) (by kernel_rfl) (by kernel_rfl) (fun _ _ _ h => h) (Or.inl ⟨by rfl, ?_⟩) (by assumption) ?_
            rotate_left
            focus (intro w hSw; (try dsimp only at hSw); go_simp; first | done | with_reducible rfl)
            (try simp only [List.getElem_toArray, List.getElem_cons_zero, List.getElem_cons_succ, Act.put, List.setIfInBounds_toArray, List.set_cons_zero, List.set_cons_succ])
            refine wpAnyH_ready (rs := [12]) (by kernel_rfl) (by simp) ?_
            refine AllReadyH.cons rfl (fun K hK => ?_) AllReadyH.nil
            go_simp
            refine hK.out _ _ (⟨HT0.out.cell mxb, HT0.out.cell c0, HT0.out.cell c1⟩) (fun hHeld => ?_)
            clear hK K
            (try simp only [List.getElem_toArray, List.getElem_cons_zero, List.getElem_cons_succ, Act.put, List.setIfInBounds_toArray, List.set_cons_zero, List.set_cons_succ])
            refine wpAnyH_take (i := 13) (v := ?_) rfl (by kernel_rfl) (by kernel_rfl) (by kernel_rfl) (fun _ _ _ h => h) (Or.inl ⟨by rfl, ?_⟩) (by assumption) ?_
            rotate_left
            focus (intro w hSw; (try dsimp only at hSw); go_simp; first | done | with_reducible rfl)
            (try simp only [List.getElem_toArray, List.getElem_cons_zero, List.getElem_cons_succ, Act.put, List.setIfInBounds_toArray, List.set_cons_zero, List.set_cons_succ])
            refine wpAnyH_ready (rs := [14]) (by kernel_rfl) (by simp) ?_
            refine AllReadyH.cons rfl (fun K hK => ?_) AllReadyH.nil
            go_simp
            refine hK.out _ _ (⟨HT1.out.cell mxb, HT1.out.cell c0, HT1.out.cell c1⟩) (fun hHeld => ?_)
            clear hK K
            (try simp only [List.getElem_toArray, List.getElem_cons_zero, List.getElem_cons_succ, Act.put, List.setIfInBounds_toArray, List.set_cons_zero, List.set_cons_succ])
            refine wpAnyH_ready (rs := [15]) (by kernel_rfl) (by simp) ?_
            refine AllReadyH.cons rfl (fun K hK => ?_) AllReadyH.nil
            go_simp
            refine hK.out _ _ (⟨HT3.out.cell (HT1.out.cell mxb), HT3.out.cell (HT1.out.cell c0), HT3.out.cell (HT1.out.cell c1)⟩) (fun hHeld => ?_)
            clear hK K
            (try simp only [List.getElem_toArray, List.getElem_cons_zero, List.getElem_cons_succ, Act.put, List.setIfInBounds_toArray, List.set_cons_zero, List.set_cons_succ])
            refine wpAnyH_take (i := 16) (v := ?_) rfl (by kernel_rfl) (by kernel_rfl) (by kernel_rfl) (fun _ _ _ h => h) (Or.inl ⟨by rfl, ?_⟩) (by assumption) ?_
            rotate_left
            focus (intro w hSw; (try dsimp only at hSw); go_simp; first | done | with_reducible rfl)
            (try simp only [List.getElem_toArray, List.getElem_cons_zero, List.getElem_cons_succ, Act.put, List.setIfInBounds_toArray, List.set_cons_zero, List.set_cons_succ])
            refine wpAnyH_ready (rs := [17]) (by kernel_rfl) (by simp) ?_
            refine AllReadyH.cons rfl (fun K hK => ?_) AllReadyH.nil
            go_simp
            refine hK.out _ _ (⟨HT2.out.cell (HT1.out.cell mxb), HT2.out.cell (HT1.out.cell c0), HT2.out.cell (HT1.out.cell c1)⟩) (fun hHeld => ?_)
            clear hK K
            (try simp only [List.getElem_toArray, List.getElem_cons_zero, List.getElem_cons_succ, Act.put, List.setIfInBounds_toArray, List.set_cons_zero, List.set_cons_succ])
            refine wpAnyH_done (by kernel_rfl) ?_ _
            go_wp2_with fail
            have hst := (DO.out.more (fun q l ho => HT2.out.oblk (HT1.out.oblk (show OBlk wb.drew q 5 l from KB.out.oblk ho)))).step ST.out.ok x hxr.1 hxr.2 (sorted_at N HSO.out j x HX.out) K HLK.out HKA.out g (HT2.out.oblk (HT1.out.oblk (show OBlk wb.drew g 5 (nodeB K) from KOB.out.oblk OB.out)))
            rw [← drop_at N j x HX.out] at hst
            have hs1' := HSR.out
            have hs2' := HSM.out
            have hpv : ptrV (1000 + x.toNat, (sumF (nodeB K)).toNat) = .agg #[.int .i64 (1000 + x), .int .u32 sm] := by
              rw [ptrV, show ((1000 + x.toNat : Nat) : Int) = 1000 + x by omega, show (((sumF (nodeB K)).toNat : Nat) : Int) = sm by omega]
            refine ⟨⟨j, _, _, by omega, rfl, hst, MA2.out.congr fun q => ?_, MB3.out.congr fun q => ?_, HT2.out.kept (HT1.out.kept (KR.out.trans KB.out).drew (Nat.le_refl _)) (by omega)⟩, ?_⟩
            · dsimp only; split
              · rw [← hpv]; rfl
              · rfl
            · dsimp only; split <;> rfl
            · (simp [intOf]) <;> omega
            --END4
  case rest =>
  obtain ⟨A, B, hD, hA, hB, hk⟩ := hcut
  have DO := hid hD; have MA := hid hA; have MB := hid hB; have KR := hid hk
  clear hD hA hB hk HMA HMB KL hs0 hs1
  obtain ⟨i20, hi20⟩ : ∃ q, i = q := ⟨_, rfl⟩
  have hle := ST.out.le
  have RL := hid ((K2.out.trans KR.out).row ST.out.row)
  have MH := hid ((K2.out.trans KR.out).vmap ST.out.map)
  have KW := hid (ST.out.kept.trans (K2.out.trans KR.out))
  have HOK := hid ST.out.ok
  have HIN := hid (show InAll (L ++ [o % 3621]) from fun n hn => by
    rcases List.mem_append.1 hn with hn | hn
    · exact ST.out.inall n hn
    · rw [List.mem_singleton] at hn; omega)
  have RLL := hid (show L.length ≤ 20 from by have := (ints_own ST.out.row).2; omega)
  clear ST
  have hr1 : IntKind.u16.wrap (o % 3621) = o % 3621 := by rw [IntKind.wrap_u16]; omega
  have hr2 : IntKind.i64.wrap (o % 3621) = o % 3621 := by rw [IntKind.wrap_i64]; omega
  clear hi20 i20
  go_upto_block 6 with (at_builtin; refine wpList_pushB rfl (.tmp 172) (.tmp 176) 26 rfl w.heap.size 3 _ 1 8 Tryd.underlying26 info_int rfl (by decide) (by decide) _ i (L.map (Value.int .i64)) [.int .i64 (o % 3621)] 1 wc.heap.size rfl RL.out rfl rfl rfl (by simp [Value.oneCell']) (by omega) ?_ ?_; (focus exact KW.out.size); intro v20 w20 hown' hgr hat'; have HOW := hid (ints_own (show w20.ownsRow w.heap.size 3 1 v20 (i + 1) ((L ++ [o % 3621]).map (Value.int .i64)) from by rw [List.map_append]; exact hown')).1; have M1 := hid (MH.out.grown RL.out hgr); have M2 := hid (MA.out.grown RL.out hgr); have M3 := hid (MB.out.grown RL.out hgr); have D20 := hid (DO.out.more (fun q l ho => CB.grown ho RL.out tyIU hgr)); have K20 := hid ((KW.out.alloc _).grown hgr (fun q hq => (RL.out.lt q hq).1)); clear hown' hgr hat')
  have DN := hid (show Done w20 H (upTo (onAll L) 258) A B from by rw [← HNE.out]; exact D20.out)
  clear D20 DO MA MB KR RL MH KW HNE HNN HRG HSO HN0 K2 HTc HC1 HC2 hmm hn258
  have hl2 : (L ++ [o % 3621]).length ≤ 1000000 := by
    have := HOW.out.shape
    obtain ⟨A', c', e'⟩ := this
    simp only [List.length_append, List.length_singleton]
    have := RLL.out
    omega
  generalize L ++ [o % 3621] = L2 at *
  obtain ⟨A20, c20, rfl⟩ := HOW.out.shape
  obtain ⟨n20, hn20⟩ : ∃ q, L2.length = q := ⟨_, rfl⟩
  rw [hn20] at HOW hl2 ⊢
  have HN2 := hid hn20
  clear hn20
  go_wp2_with fail
  go_loopw [30] (fun t wr => ∃ q : Nat, q ≤ n20 ∧ t = .int .i64 (q : Int) ∧ Kept w20 wr) (fun t _ => n20 - (intOf t).toNat)
  case atStart => exact ⟨0, by omega, rfl, Kept.refl _⟩
  case round =>
    obtain ⟨q, hq, rfl, hkr⟩ := hrel
    have KR := hid hkr
    clear hkr
    rename World => wr
    by_cases e1 : (q : Int) < (n20 : Int)
    · have e0 : (0 : Int) ≤ (q : Int) := by omega
      obtain ⟨b20, o20, rfl, g20⟩ := HOW.out.cells (by omega)
      have mx0 := KR.out.keeps (g20 q (by omega))
      obtain ⟨n, hn⟩ : ∃ n, L2.getD q 0 = n := ⟨_, rfl⟩
      have hin := HIN.out n (by
        rw [← hn, List.getD_eq_getElem?_getD, List.getElem?_eq_getElem (by rw [HN2.out]; omega), Option.getD_some]
        exact List.getElem_mem _)
      rw [hn] at mx0
      have MX := hid mx0
      clear g20 hn
      have TR := hid (K20.out.trans KR.out)
      go_upto_region 45 with (go_at_call 10; (with_reducible refine (path_at n hin.1 hin.2 _ (TR.out.tab HT.out)).mono ?_); rintro e w21 ⟨P, lp, AP, cP, rfl, hP, hPl, hp1, hp4, hPI, k21⟩; have HP := hid hP; have HPL := hid hPl; have HPI := hid hPI; have K21 := hid k21; clear hP hPl hPI k21; have hlp0 : ((lp : Int) == 0) = false := by simp; omega)
      obtain ⟨m, rfl⟩ : ∃ m : Nat, n = (m : Int) := ⟨n.toNat, by omega⟩
      have hm : m < 3621 := by omega
      have HP2 := hid (show P = pathOf m from by rw [HP.out]; rfl)
      have HPL2 := hid (show (pathOf m).length = lp from by rw [← HP2.out]; exact HPL.out)
      clear HP
      obtain ⟨bP, oP, rfl, gP⟩ := HPI.out.cells (by omega)
      have GP := hid gP
      obtain ⟨⟨h1, h2⟩, hh⟩ : ∃ p, (H (m : Int)).getD (0, 0) = p := ⟨_, rfl⟩
      have hlk := PMap.look ((KR.out.trans K21.out).vmap M1.out) (m : Int)
      rw [hh, ptrV] at hlk
      dsimp only at hlk
      have HHV := hid hh
      have mx1 := K21.out.keeps MX.out
      clear hh gP mx0
      go_upto_region 46 with fail
      have hbx : CB (w21.alloc (.cells #[.int .i64 (h1 : Int), .int .u32 (h2 : Int)] 29)) w21.heap.size 29 [.int .i64 (h1 : Int), .int .u32 (h2 : Int)] := heap_alloc_new w21 _
      have kbx : Kept w21 (w21.alloc (.cells #[.int .i64 (h1 : Int), .int .u32 (h2 : Int)] 29)) := (Kept.refl w21).alloc _
      clear mx1 hlk
      generalize (w21.alloc (.cells #[.int .i64 (h1 : Int), .int .u32 (h2 : Int)] 29)) = wb at *
      have HBX := hid hbx
      have KBX := hid kbx
      clear hbx kbx
      go_upto_if 207 with fail
      go_cut [] (fun wx => CB wx w21.heap.size 29 [.int .i64 ((folP H A m 1).1 : Int), .int .u32 ((folP H A m 1).2 : Int)] ∧ Kept w21 wx)
      case first =>
        --CASE7
        by_cases h1l : (1 : Int) < (lp : Int)
        · have hfol := fol_first (H := H) (A := A) m hm (by rw [HPL2.out]; omega)
          have HFO := hid hfol
          obtain ⟨t, r, e, t0, s, -⟩ := path_shape m hm
          have c0 := KBX.out.keeps (GP.out 0 (by omega))
          rw [HP2.out, e, List.getD_cons_zero, Nat.add_zero] at c0
          rw [e, List.getD_cons_zero] at hfol
          have hlen := HPL2.out
          rw [e, List.length_cons] at hlen
          have hw6 : IntKind.i64.wrap (t - 6) = t - 6 := by rw [IntKind.wrap_i64]; omega
          have hlk := PMap.look (((KR.out.trans K21.out).trans KBX.out).vmap M2.out) (t - 6)
          rw [← hfol, ptrV] at hlk
          clear hfol HFO
          generalize folP H A m 1 = fp at *
          have d0 := HBX.out.cell 0 (by simp)
          have d1 := HBX.out.cell 1 (by simp)
          have f0 := HBX.out.frozen 0
          have f1 := HBX.out.frozen 1
          simp only [List.getElem_cons_zero, List.getElem_cons_succ] at d0 d1
          clear e s hlen
          go_wp2_with fail
          go_meet
          exact ⟨(HBX.out.set 0 _).set 1 _, (KBX.out.setCell (by simp) _).setCell (by simp) _⟩
        · have hfol := fol_one (H := H) (A := A) m (by rw [HPL2.out]; omega)
          rw [HHV.out] at hfol
          have HFO := hid hfol
          clear hfol
          go_wp2_with fail
          go_meet
          rw [HFO.out]
          exact ⟨HBX.out, KBX.out⟩
        --END7
      case rest =>
      obtain ⟨hb1, kb1⟩ := hcut
      clear HBX KBX
      have HB1 := hid hb1
      have KB1 := hid kb1
      clear hb1 kb1
      rename World => w22
      go_upto_block 8 with fail
      go_cut [34] (fun t wx => CB wx w21.heap.size 29 [.int .i64 (h1 : Int), .int .u32 (h2 : Int)] ∧ Kept w21 wx)
      case first => as_aux_lemma =>
        --CASE8
        go_wp2_with fail
        go_loopw [34] (fun t wq => ∃ k : Nat, 1 ≤ k ∧ k ≤ lp ∧ t = .int .i64 (k : Int) ∧ CB wq w21.heap.size 29 [.int .i64 ((folP H A m k).1 : Int), .int .u32 ((folP H A m k).2 : Int)] ∧ Kept w21 wq) (fun t _ => lp - (intOf t).toNat)
        case atStart => exact ⟨1, by omega, by omega, rfl, HB1.out, KB1.out⟩
        case round =>
          obtain ⟨k, k1, kl, rfl, hbq, hkq⟩ := hrel
          have HBQ := hid hbq
          have KQ := hid hkq
          clear hbq hkq HB1 KB1
          rename World => wq
          have d0 := HBQ.out.cell 0 (by simp)
          have d1 := HBQ.out.cell 1 (by simp)
          have f0 := HBQ.out.frozen 0
          have f1 := HBQ.out.frozen 1
          simp only [List.getElem_cons_zero, List.getElem_cons_succ] at d0 d1
          by_cases e2 : (k : Int) < (lp : Int)
          · by_cases e3 : (0 : Int) < ((folP H A m k).1 : Int)
            · have hstep := fol_step DN.out m hm k k1 (by rw [HPL2.out]; omega) (by omega)
              obtain ⟨x, K, g, r, hx258, hK, hKo, hf, hB, hO, hr, hPk, hKr⟩ := hstep
              have HF := hid hf; have HKL := hid hK; have HKO := hid hKo; have HO := hid hO; have HKR := hid hKr
              --CASE9
              have HNL := hid (show (nodeB K).length = 128 from sealL_len _ (by rw [packL_len, sumW_nums, hK]; omega))
              have hsr := sumF_range (nodeB K)
              obtain ⟨sm, hsm⟩ : ∃ s, sumF (nodeB K) = s := ⟨_, rfl⟩
              rw [hf] at HBQ d0 d1 e3
              dsimp only at HBQ d0 d1 e3
              rw [hsm] at hsr
              rw [show ((1000 + x : Nat) : Int) = 1000 + (x : Int) by omega] at d0 e3
              rw [show (((sumF (nodeB K)).toNat : Nat) : Int) = sm by omega] at d1
              have HSM := hid hsm
              clear hf hK hKo hO hKr hsm
              have hw1 : IntKind.i64.wrap (1000 + (x : Int) - 1000) = (x : Int) := by rw [IntKind.wrap_i64]; omega
              have hw2 : IntKind.i64.wrap (x : Int) = (x : Int) := by rw [IntKind.wrap_i64]; omega
              have KWQ := hid ((KR.out.trans K21.out).trans KQ.out)
              have hlk := BMap.look (KWQ.out.vmap M3.out) (x : Int) g hB
              have HBB := hid (KWQ.out.oblk HO.out)
              have TQ := hid (K20.out.trans KWQ.out)
              have mp := KQ.out.keeps (GP.out k (by omega))
              rw [HP2.out, hPk] at mp
              have q0 : ¬ (r : Int) < 0 := by omega
              have q1 : ¬ (14 : Int) < (r : Int) := by omega
              have q2 : (0 : Int) ≤ (r : Int) := by omega
              have q3 : (r : Int) < 15 := by omega
              have k0 : (0 : Int) ≤ (k : Int) := by omega
              go_upto_region 53 with (go_at_call 11; (with_reducible refine (read_node _ K _ HKL.out (TQ.out.htab HH.out) HKO.out (byts_mk HNL.out (by omega) (by omega) HBB.out.range)).mono ?_); rintro e w24 ⟨g2, rfl, hpt, k24⟩; have PT := hid hpt; have K24 := hid k24; have c0 := k24.keeps d0; have c1 := k24.keeps d1; have f0' := k24.free d0 f0; have f1' := k24.free d1 f1; have mp' := k24.keeps mp; clear hpt k24)
              clear d0 d1 f0 f1 mp hlk
              have T24 := hid (TQ.out.trans K24.out)
              obtain ⟨b3, o3, hb3, m1, m2⟩ := PT.out.at_ r _ HKR.out
              simp only [Option.some.injEq, Addr.mk.injEq] at hb3
              obtain ⟨rfl, rfl, -⟩ := hb3
              rw [Nat.zero_add] at m1 m2
              obtain ⟨⟨p1, p2⟩, hpp⟩ : ∃ p, folP H A m (k + 1) = p := ⟨_, rfl⟩
              rw [hpp] at m1 m2
              dsimp only at m1 m2
              have HPP := hid hpp
              clear hpp
              go_upto_region 55 with (go_at_call 12; rw [← HSM.out]; (with_reducible refine (points_any (1000 + (x : Int)) g (nodeB K) _ (by omega) (T24.out.htab HH.out) (K24.out.oblk HBB.out) HNL.out).mono ?_); rintro e w25 ⟨rfl, k25⟩; have K25 := hid k25; have c0' := k25.keeps c0; have c1' := k25.keeps c1; have g0 := k25.free c0 f0'; have g1 := k25.free c1 f1'; have mp25 := k25.keeps mp'; have m1' := k25.keeps m1; have m2' := k25.keeps m2; clear k25 c0 c1 f0' f1' mp' m1 m2)
              have KF := hid ((KQ.out.trans K24.out).trans K25.out)
              have HB25 := hid ((K24.out.trans K25.out).cb HBQ.out)
              have hlt := KQ.out.size
              go_wp2_with fail
              go_roundw
              case rel => exact ⟨k + 1, by omega, by omega, by go_num, by rw [HPP.out]; exact (HB25.out.set 0 _).set 1 _, (KF.out.setCell (by simp) _).setCell (by simp) _⟩
              case measure => simp [intOf]; omega
              --END9
            · have hend := fol_end DN.out HOK.out m hm k k1 (by rw [HPL2.out]; omega) (by omega)
              rw [HHV.out] at hend
              rw [hend] at HBQ d0 d1 e3
              clear hend
              dsimp only at d0 d1 e3
              go_wp2_with fail
              go_meet
              exact ⟨HBQ.out, KQ.out⟩
          · have hend := fol_len (H := H) (A := A) m k (by rw [HPL2.out]; omega)
            rw [HHV.out] at hend
            rw [hend] at HBQ d0 d1
            clear hend
            go_wp2_with fail
            go_meet
            exact ⟨HBQ.out, KQ.out⟩
        --END8
      case rest =>
      --CASE10
      obtain ⟨hb1, kb1⟩ := hcut
      clear HB1 KB1
      have c0 := hb1.cell 0 (by simp)
      have c1 := hb1.cell 1 (by simp)
      simp only [List.getElem_cons_zero, List.getElem_cons_succ] at c0 c1
      have KB := hid kb1
      have HL3 := hid (fun (w' : World) (h : w'.heap = wc.heap) => PMap.look (VMap.of_heap (((KR.out.trans K21.out).trans KB.out).vmap M1.out) (w1 := w') (by rw [h])) (m : Int))
      have hlk : ∀ (nq : Nat), (Instr.lookup 25 (.map (some w.heap.size)) (.int .i64 (m : Int)) false).run Tryd.prog (wc.drewN nq) = .ok (.agg #[.int .i64 (h1 : Int), .int .u32 (h2 : Int)]) (wc.drewN nq) := fun nq => by
        have := HL3.out (wc.drewN nq) rfl
        rw [HHV.out] at this
        exact this
      have hlk1 : (Instr.lookup 25 (.map (some w.heap.size)) (.int .i64 (m : Int)) false).run Tryd.prog wc.drew = .ok (.agg #[.int .i64 (h1 : Int), .int .u32 (h2 : Int)]) wc.drew := by
        have := HL3.out wc.drew rfl
        rw [HHV.out] at this
        exact this
      have mx5 := (K21.out.trans KB.out).keeps MX.out
      clear hb1 kb1
      go_upto_region 56 with fail
      go_quiet (fail)
      go_wp2_with fail
      exact ⟨⟨q + 1, by omega, by go_num, ((KR.out.trans K21.out).trans KB.out).drewN nq⟩, by simp [intOf]; omega⟩
      --END10
    · --CASE6
      have KF := hid (K20.out.trans KR.out)
      go_wp2_with (go_at_call 13; (with_reducible refine (works_any _ (KF.out.tab HT.out) (KF.out.htab HH.out)).mono ?_); rintro e w30 ⟨rfl, k30⟩; have K30 := hid (KF.out.trans k30); clear k30)
      go_ret
      exact ⟨rfl, K30.out⟩
      --END6
end Go.Proofs.YtepljgondmkljaaDoor
