/- Maps of pointers and of blocks; what stays behind a turn of a map and behind an append; worksNodes. -/
import Derived.Test.YtepljgondmkljaaDoorNK
set_option linter.unusedSimpArgs false
set_option linter.unusedVariables false
namespace Go.Proofs.YtepljgondmkljaaDoor
open Go.RowKit
/-- a map at g was turned -/
def MT (g : Nat) (w w1 : World) : Prop := But g w w1 ∧ ∃ es c, w.heap[g]? = some (.map es c)
section
variable {w w1 : World} {g : Nat}
theorem mt_set {es : Array MapEntry} {c : Nat} (hb : w.heap[g]? = some (.map es c)) (o : Obj) : MT g w { w with heap := w.heap.setIfInBounds g o } :=
  ⟨⟨rfl, rfl, rfl, by simp, fun k hk hne => (MapKept.heap_set hb).2 k (by simpa using hne)⟩, ⟨_, _, hb⟩⟩
theorem MT.cells (h : MT g w w1) {q : Nat} {cs : Array Value} {t : TypeId} {f : Nat × Nat} (hc : w.heap[q]? = some (.cells cs t f)) : w1.heap[q]? = some (.cells cs t f) := by
  obtain ⟨hb, es, c, hm⟩ := h
  refine (hb.block q (Array.getElem?_eq_some_iff.1 hc).1 ?_).trans hc
  rintro e
  obtain rfl : q = g := by simpa using e
  rw [hm] at hc; cases hc
theorem MT.heap (h : MT g w w1) {q : Nat} (hq : q < w.heap.size) (hne : q ≠ g) : w1.heap[q]? = w.heap[q]? := h.1.block q hq (by simpa using hne)
theorem MT.cell (h : MT g w w1) {b o : Nat} {v : Value} (hc : w.cell? ⟨b, o, none⟩ = some v) : w1.cell? ⟨b, o, none⟩ = some v := by
  refine h.1.keeps hc ?_
  rintro rfl
  obtain ⟨-, es, c, hm⟩ := h
  simp [World.cell?, hm] at hc
theorem MT.ints (h : MT g w w1) {v : Value} {L : List Int} (hL : Ints w v L) : Ints w1 v L := by
  obtain ⟨A, c, hv, hc, hm, hz, hr⟩ := hL
  refine ⟨A, c, hv, hc, hm, hz, fun hl => ?_⟩
  obtain ⟨b, o, hA, hcell⟩ := hr hl
  exact ⟨b, o, hA, fun i hi => h.cell (hcell i hi)⟩
theorem MT.cb (h : MT g w w1) {q : Nat} {t : TypeId} {cs : List Value} (hc : CB w q t cs) : CB w1 q t cs := h.cells hc
theorem MT.oblk (h : MT g w w1) {q : Nat} {t : TypeId} {l : List UInt8} (hc : OBlk w q t l) : OBlk w1 q t l := h.cb hc
theorem MT.row (h : MT g w w1) {base : Nat} {e : TypeId} {size : Nat} {v : Value} {n : Nat} {xs : List Value} (hr : w.ownsRow base e size v n xs) : w1.ownsRow base e size v n xs := by
  refine ⟨hr.1, ?_⟩
  rcases hr.2 with hn | ⟨q, cap, cur, rfl, hb, hq, rest⟩
  · exact .inl hn
  · exact .inr ⟨q, cap, cur, rfl, hb, h.cells hq, rest⟩
theorem MT.vmap (h : MT g w w1) {q : Nat} {m : Int → Option Value} (hm : VMap w q m) (hne : q ≠ g) : VMap w1 q m := hm.of_heap (h.heap hm.lt hne)
theorem MT.kept {W : World} (h : MT g w w1) (k : Kept W w) (hg : W.heap.size ≤ g) : Kept W w1 := k.turned h.1 hg
/-- an append leaves a map alone -/
theorem VMap.grown {tmp : Obj} {base : Nat} {e : TypeId} {size n : Nat} {v : Value} {xs : List Value} {m : Int → Option Value} (h : VMap w g m) (hr : w.ownsRow base e size v n xs) (hg : (w.alloc tmp).grownBy w1 v.ownBlock) : VMap w1 g m := by
  obtain ⟨es, c, hm⟩ := h.isMap
  refine h.of_heap ((hg.block g (by rw [World.size_alloc]; have := h.lt; omega) ?_).trans (Below.heap_alloc w tmp g h.lt))
  intro hq
  rcases hr.2 with ⟨rfl, _⟩ | ⟨g', cap, cur, rfl, hb, hg', _⟩
  · cases hq
  · obtain rfl : g = g' := by simpa [Value.ownBlock] using hq
    rw [hm] at hg'; cases hg'
theorem Kept.vmap {m : Int → Option Value} (k : Kept w w1) (h : VMap w g m) : VMap w1 g m := h.of_heap (k.block g h.lt)
end
def ptrV (p : Nat × Nat) : Value := .agg #[.int .i64 (p.1 : Int), .int .u32 (p.2 : Int)]
def PMap (w : World) (g : Nat) (H : Int → Option (Nat × Nat)) : Prop := VMap w g fun k => (H k).map ptrV
def BMap (w : World) (g : Nat) (B : Int → Option Nat) : Prop := VMap w g fun k => (B k).map fun q => .slice (some ⟨q, 0, none⟩) 128 128
theorem zeroPtr (w : World) : (zeroValue 29).run Tryd.prog w = .ok (ptrV (0, 0)) w := by kernel_rfl
theorem zeroBytes (w : World) : (zeroValue 38).run Tryd.prog w = .ok (.slice none 0 0) w := by kernel_rfl
section
variable {w w1 : World} {g : Nat} {H : Int → Option (Nat × Nat)} {B : Int → Option Nat}
theorem PMap.look (h : PMap w g H) (k : Int) : (Instr.lookup 25 (.map (some g)) (.int .i64 k) false).run Tryd.prog w = .ok (ptrV ((H k).getD (0, 0))) w := by
  rw [VMap.look Tryd.underlying25 zeroPtr h k]
  cases H k <;> rfl
theorem BMap.look (h : BMap w g B) (k : Int) (q : Nat) (hq : B k = some q) : (Instr.lookup 33 (.map (some g)) (.int .i64 k) false).run Tryd.prog w = .ok (.slice (some ⟨q, 0, none⟩) 128 128) w := by
  rw [VMap.look Tryd.underlying33 zeroBytes h k, hq]
  rfl
theorem PMap.put (h : PMap w g H) (k : Int) (p : Nat × Nat) : ∃ w1, (Instr.mapUpdate 25 (.map (some g)) (.int .i64 k) (ptrV p)).run Tryd.prog w = .ok () w1 ∧ PMap w1 g (fun j => if j = k then some p else H j) ∧ MT g w w1 := by
  obtain ⟨es, c, hm⟩ := VMap.isMap h
  obtain ⟨o, h1, h2⟩ := VMap.put Tryd.underlying25 h k (ptrV p)
  exact ⟨_, h1, h2.congr (fun j => by dsimp only; split <;> rfl), mt_set hm o⟩
end
theorem info_ptr : (Tryd.prog.info? 29).map (fun i => (i.zero, i.size, i.bytes)) = some (some (.agg #[.int .i64 0, .int .u32 0]), 2, 16) := by kernel_rfl
theorem zeros15 : madeCells (Value.agg #[.int .i64 0, .int .u32 0]).cells (15 * 2) = ((List.replicate 15 [Value.int .i64 0, Value.int .u32 0]).flatten).toArray := by kernel_rfl
theorem make_ptrs (w : World) : (Instr.makeSlice 35 (.int .i64 15) (.int .i64 15)).run Tryd.prog w =
    .ok (.slice (some ⟨w.heap.size, 0, none⟩) 15 15) (w.alloc (.cells ((List.replicate 15 [Value.int .i64 0, Value.int .u32 0]).flatten).toArray 29)) := by
  obtain ⟨i, hi, hz, hsize, hbytes⟩ := info_parts info_ptr
  have := run_makeSlice (P := Tryd.prog) w 35 29 i _ Tryd.underlying35 hi hz .i64 .i64 15 15 (by omega) (by omega) (by rw [hsize]; simp) (by rw [hbytes]; omega) (by omega)
  rw [this, hsize, ← zeros15]
  rfl
theorem zeros_ptrs (w : World) : Ptrs (w.alloc (.cells ((List.replicate 15 [Value.int .i64 0, Value.int .u32 0]).flatten).toArray 29)) (.slice (some ⟨w.heap.size, 0, none⟩) 15 15) (List.replicate 15 (0, 0)) := by
  refine ⟨_, 15, by simp, by simp, by omega, fun _ => ⟨w.heap.size, 0, rfl, fun i p hp => ?_⟩⟩
  have hi : i < 15 := by simpa using (List.getElem?_eq_some_iff.1 hp).1
  have hp0 : p = (0, 0) := by
    rw [List.getElem?_replicate, if_pos hi] at hp; cases hp; rfl
  subst hp0
  have hcb := cb_new w 29 ((List.replicate 15 [Value.int .i64 0, Value.int .u32 0]).flatten)
  have hl : ((List.replicate 15 [Value.int .i64 0, Value.int .u32 0]).flatten).length = 30 := by decide
  have a1 : ∀ i, i < 15 → ((List.replicate 15 [Value.int .i64 0, Value.int .u32 0]).flatten)[i * 2]? = some (.int .i64 0) ∧ ((List.replicate 15 [Value.int .i64 0, Value.int .u32 0]).flatten)[i * 2 + 1]? = some (.int .u32 0) := by
    intro i hi
    have : i = 0 ∨ i = 1 ∨ i = 2 ∨ i = 3 ∨ i = 4 ∨ i = 5 ∨ i = 6 ∨ i = 7 ∨ i = 8 ∨ i = 9 ∨ i = 10 ∨ i = 11 ∨ i = 12 ∨ i = 13 ∨ i = 14 := by omega
    rcases this with rfl | rfl | rfl | rfl | rfl | rfl | rfl | rfl | rfl | rfl | rfl | rfl | rfl | rfl | rfl <;> exact ⟨rfl, rfl⟩
  have b1 := hcb.cell (i * 2) (by omega)
  have b2 := hcb.cell (i * 2 + 1) (by omega)
  obtain ⟨c1, c2⟩ := a1 i hi
  rw [List.getElem?_eq_getElem (by omega)] at c1 c2
  rw [Nat.zero_add, b1, b2]
  exact ⟨c1, c2⟩
theorem path6 : pathOf 6 = [6, 0] := by decide
set_option maxRecDepth 100000 in
set_option maxHeartbeats 2000000 in
theorem works_any (w : World) (ht : Tab w) (hT : HTab w) : Calls Tryd.prog 13 #[] w fun e w' => e = .returned (.bool true) ∧ Kept w w' := by
  have HT := hid ht; have HH := hid hT
  have HZ := hid zeros_ptrs
  have hmk := make_ptrs
  generalize ((List.replicate 15 [Value.int .i64 0, Value.int .u32 0]).flatten).toArray = Z at *
  clear ht hT
  go_enter Tryd.func13, Tryd.ntmps13
  go_wp2_with (first
    | (go_at_call 10; (with_reducible refine (path_any 6 (by omega) (by omega) _ (HT.out)).mono ?_); rintro e w1 ⟨v1, rfl, hi, k1⟩; have I1 := hid (show Ints w1 v1 [6, 0] from path6 ▸ hi); have K1 := hid k1; clear hi k1)
    | (go_at_call 8; (with_reducible refine (inode_node _ (List.replicate 15 (0, 0)) _ (by simp) ((K1.out.alloc _).htab HH.out) (by simp [zero_ok]) (HZ.out w1)).mono ?_); rintro e w2 ⟨g, rfl, ob, hg, k2⟩; have OB := hid ob; have K2 := hid ((K1.out.alloc _).trans k2); have K12 := hid (((Kept.refl w1).alloc (.cells Z 29)).trans k2); clear ob hg k2)
    | (go_at_call 21; (with_reducible refine (same_t v1 _ [6, 0] [6, 0] _ (Kept.ints ?_ I1.out) ?_ rfl).mono ?_); (focus exact K12.out.alloc _); (focus (refine ints_cells (by simp) (by omega) (by omega) fun i hi => ?_; match i, hi with | 0, _ => simp [go_sem] | 1, _ => simp [go_sem])); rintro e w3 ⟨rfl, k3⟩; have K3 := hid ((K2.out.alloc _).trans k3); have K23 := hid (((Kept.refl w2).alloc _).trans k3); clear k3)
    | (go_at_call 19; (with_reducible refine (held_yes _ (packL (numsOf (List.replicate 15 (0, 0)))) ?_ _ ?_ ?_).mono ?_); (focus decide +kernel); (focus exact K3.out.htab HH.out); (focus exact byts_mk (by decide +kernel) (by omega) (by omega) (K23.out.oblk OB.out).range); rintro e w4 ⟨rfl, k4⟩; have K4 := hid (K3.out.trans k4); clear k4))
  go_ret
  exact ⟨rfl, K4.out⟩
end Go.Proofs.YtepljgondmkljaaDoor
