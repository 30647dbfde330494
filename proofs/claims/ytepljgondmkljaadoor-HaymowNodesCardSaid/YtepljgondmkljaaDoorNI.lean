import Derived.Test.YtepljgondmkljaaDoorNH
import Derived.MapKept
import Derived.StillTailTactics
set_option linter.unusedSimpArgs false
set_option linter.unusedVariables false
namespace Go.Proofs.YtepljgondmkljaaDoor
open Go.RowKit
abbrev IK : TypeDesc := .int .i64
/-- a map of numbers to values -/
def VMap (w : World) (g : Nat) (m : Int → Option Value) : Prop :=
  ∃ es clock, w.heap[g]? = some (.map es clock) ∧ MapKept.Stamped es clock ∧ (∀ x ∈ es.toList, MapKept.IsKey IK x.key) ∧
   (∀ e ∈ es.toList, ∀ k : Int, e.key = .int .i64 k → m k = some e.val) ∧ (∀ k : Int, (∀ e ∈ es.toList, e.key ≠ .int .i64 k) → m k = none)
/-- the same, with an entry of the key i and the stamp s that has any value -/
def EMap (w : World) (g : Nat) (i : Int) (s : Nat) (m : Int → Option Value) : Prop :=
  ∃ es clock, w.heap[g]? = some (.map es clock) ∧ MapKept.Stamped es clock ∧ (∀ x ∈ es.toList, MapKept.IsKey IK x.key) ∧
   (∀ e ∈ es.toList, ∀ k : Int, k ≠ i → e.key = .int .i64 k → m k = some e.val) ∧ (∀ k : Int, k ≠ i → (∀ e ∈ es.toList, e.key ≠ .int .i64 k) → m k = none) ∧
   ∃ (j : Nat) (e : MapEntry), es[j]? = some e ∧ e.key = .int .i64 i ∧ e.born = s
/-- worlds alike but for block g -/
def Alone (w w1 : World) (g : Nat) (o : Obj) : Prop := w1 = { w with heap := w.heap.setIfInBounds g o }
theorem isKey_int (k : Int) : MapKept.IsKey IK (.int .i64 k) := rfl
theorem key_cases {v : Value} (h : MapKept.IsKey IK v) : ∃ k, v = .int .i64 k := by
  cases v <;> simp [MapKept.IsKey] at h
  subst h; exact ⟨_, rfl⟩
theorem mem_modify {es : Array MapEntry} {j : Nat} {f : MapEntry → MapEntry} {x : MapEntry} (h : x ∈ (es.modify j f).toList) : (∃ e, es[j]? = some e ∧ x = f e) ∨ ∃ q, q ≠ j ∧ es[q]? = some x := by
  rw [Array.mem_toList_iff, Array.mem_iff_getElem?] at h
  obtain ⟨q, hq⟩ := h
  rw [Array.getElem?_modify] at hq
  split at hq
  · rename_i e; subst e
    cases he : es[j]? with
    | none => simp [he] at hq
    | some e => simp [he] at hq; exact .inl ⟨e, rfl, hq.symm⟩
  · rename_i e; exact .inr ⟨q, fun h => e h.symm, hq⟩
theorem modify_mem {es : Array MapEntry} {j q : Nat} {f : MapEntry → MapEntry} {x : MapEntry} (h : es[q]? = some x) : (if j = q then f x else x) ∈ (es.modify j f).toList := by
  rw [Array.mem_toList_iff, Array.mem_iff_getElem?]
  refine ⟨q, ?_⟩
  rw [Array.getElem?_modify]
  split <;> simp [h]
theorem mem_of_get {es : Array MapEntry} {q : Nat} {x : MapEntry} (h : es[q]? = some x) : x ∈ es.toList := by
  rw [Array.mem_toList_iff, Array.mem_iff_getElem?]; exact ⟨q, h⟩
theorem get_of_mem {es : Array MapEntry} {x : MapEntry} (h : x ∈ es.toList) : ∃ q : Nat, es[q]? = some x := by
  rwa [Array.mem_toList_iff, Array.mem_iff_getElem?] at h
theorem once {α β : Type} (f : α → β) {es : Array α} {p q : Nat} {x y : α} (h : (es.toList.map f).Nodup) (hp : es[p]? = some x) (hq : es[q]? = some y) (e : f x = f y) : p = q := by
  obtain ⟨hp1, rfl⟩ := Array.getElem?_eq_some_iff.1 hp
  obtain ⟨hq1, rfl⟩ := Array.getElem?_eq_some_iff.1 hq
  rw [List.Nodup, List.pairwise_map, List.pairwise_iff_getElem] at h
  rcases Nat.lt_trichotomy p q with l | l | l
  · exact (h p q (by simpa using hp1) (by simpa using hq1) l e).elim
  · exact l
  · exact (h q p (by simpa using hq1) (by simpa using hp1) l e.symm).elim
section
variable {w w1 : World} {g : Nat} {m : Int → Option Value} {mty et : TypeId} {z : Value}
theorem vmap_new (w : World) : VMap (w.alloc (.map #[] 0)) w.heap.size (fun _ => none) :=
  ⟨#[], 0, (MapKept.heap_alloc w _).1, MapKept.stamped_empty 0, by simp, by simp, fun _ _ => rfl⟩
theorem VMap.of_heap (h : VMap w g m) (e : w1.heap[g]? = w.heap[g]?) : VMap w1 g m := by
  obtain ⟨es, clock, hb, r⟩ := h
  exact ⟨es, clock, e.trans hb, r⟩
theorem EMap.of_heap {i : Int} {s : Nat} (h : EMap w g i s m) (e : w1.heap[g]? = w.heap[g]?) : EMap w1 g i s m := by
  obtain ⟨es, clock, hb, r⟩ := h
  exact ⟨es, clock, e.trans hb, r⟩
theorem VMap.isMap (h : VMap w g m) : ∃ es clock, w.heap[g]? = some (.map es clock) := by
  obtain ⟨es, clock, hb, r⟩ := h
  exact ⟨es, clock, hb⟩
theorem VMap.lt (h : VMap w g m) : g < w.heap.size := by
  obtain ⟨es, clock, hb, r⟩ := h
  exact (Array.getElem?_eq_some_iff.1 hb).1
theorem VMap.congr {m' : Int → Option Value} (h : VMap w g m) (e : ∀ k, m' k = m k) : VMap w g m' := by
  rwa [show m' = m from funext e]
theorem VMap.look (hM : Tryd.prog.underlying mty = some (.map 3 et)) (hz : ∀ w, (zeroValue et).run Tryd.prog w = .ok z w) (h : VMap w g m) (k : Int) :
    (Instr.lookup mty (.map (some g)) (.int .i64 k) false).run Tryd.prog w = .ok ((m k).getD z) w := by
  obtain ⟨es, clock, hb, hs, hks, h1, h2⟩ := h
  have hd := Tryd.underlying3
  rcases MapKept.findNow_spec (isKey_int k) es.toList 0 hks with ⟨f1, f2⟩ | ⟨j, e, f1, f2, f3⟩
  · rw [h2 k f2]
    simp [Instr.lookup, run_underlying hM, MapKept.run_getObj_map hb, MapKept.run_checkKey hd (isKey_int k), MapKept.run_findKey hd f1, Result.andThen, hz]
  · rw [h1 e (List.mem_of_getElem? f2) k f3]
    simp [Instr.lookup, run_underlying hM, MapKept.run_getObj_map hb, MapKept.run_checkKey hd (isKey_int k), MapKept.run_findKey hd f1, Result.andThen]
theorem VMap.put (hM : Tryd.prog.underlying mty = some (.map 3 et)) (h : VMap w g m) (k : Int) (v : Value) :
    ∃ o, (Instr.mapUpdate mty (.map (some g)) (.int .i64 k) v).run Tryd.prog w = .ok () { w with heap := w.heap.setIfInBounds g o } ∧ VMap { w with heap := w.heap.setIfInBounds g o } g (fun j => if j = k then some v else m j) := by
  obtain ⟨es, clock, hb, hs, hks, h1, h2⟩ := h
  have hd := Tryd.underlying3
  rcases MapKept.findNow_spec (isKey_int k) es.toList 0 hks with ⟨f1, f2⟩ | ⟨j, e, f1, f2, f3⟩
  · refine ⟨.map (es.push { key := .int .i64 k, val := v, born := clock }) (clock + 1), by simp [Instr.mapUpdate, run_underlying hM, MapKept.run_getObj_map hb, MapKept.run_checkKey hd (isKey_int k), MapKept.run_findKey hd f1, MapKept.run_setObj_map _ hb, Result.andThen], _, _, (MapKept.heap_set hb).1, MapKept.stamped_push hs f2, ?_, ?_, ?_⟩
    · intro x hx
      simp only [Array.toList_push, List.mem_append, List.mem_singleton] at hx
      rcases hx with hx | rfl
      · exact hks x hx
      · exact isKey_int k
    · intro x hx q hq
      simp only [Array.toList_push, List.mem_append, List.mem_singleton] at hx
      rcases hx with hx | rfl
      · have : q ≠ k := fun c => f2 x hx (by rw [hq, c])
        simp only [this, if_false]; exact h1 x hx q hq
      · obtain rfl : k = q := by simpa using hq
        simp
    · intro q hq
      simp only [Array.toList_push, List.mem_append, List.mem_singleton] at hq
      have : q ≠ k := fun c => hq _ (.inr rfl) (by simp [c])
      simp only [this, if_false]; exact h2 q fun x hx => hq x (.inl hx)
  · have hj : es[j]? = some e := by simpa using f2
    have hkey : ∀ e', es[j]? = some e' → ({ e' with key := .int .i64 k, val := v } : MapEntry).key = e'.key := fun e' he' => by rw [hj] at he'; cases he'; exact f3.symm
    refine ⟨.map (es.modify j fun e => { e with key := .int .i64 k, val := v }) clock, by simp [Instr.mapUpdate, run_underlying hM, MapKept.run_getObj_map hb, MapKept.run_checkKey hd (isKey_int k), MapKept.run_findKey hd f1, hj, f3, MapKept.run_keyThatStays (isKey_int k), MapKept.run_setObj_map _ hb, Result.andThen], _, _, (MapKept.heap_set hb).1, MapKept.stamped_modify hs _ _ (fun _ _ => rfl) (fun e' _ he' => hkey e' he'), MapKept.isKey_modify hks _ _ hkey, ?_, ?_⟩
    · intro x hx q hq
      rcases mem_modify hx with ⟨e', -, rfl⟩ | ⟨p, hp, hx⟩
      · obtain rfl : k = q := by simpa using hq
        simp
      · have : q ≠ k := fun c => hp (once (·.key) hs.2.2 hx hj (by rw [hq, f3, c]))
        simp only [this, if_false]; exact h1 x (mem_of_get hx) q hq
    · intro q hq
      have : q ≠ k := fun c => hq _ (modify_mem hj) (by simp [c])
      simp only [this, if_false]
      refine h2 q fun x hx c => ?_
      obtain ⟨p, hp⟩ := get_of_mem hx
      by_cases hpj : j = p
      · subst hpj; rw [hj] at hp; cases hp; rw [f3] at c; simp at c; exact this c.symm
      · refine hq _ (modify_mem hp) ?_
        rw [if_neg hpj]; exact c
theorem VMap.entry (hM : Tryd.prog.underlying mty = some (.map 3 et)) (hz : ∀ w, (zeroValue et).run Tryd.prog w = .ok z w) (h : VMap w g m) (k : Int) :
    ∃ o s v, (Instr.mapEntry mty (.map (some g)) (.int .i64 k)).run Tryd.prog w = .ok (.tuple #[v, goInt (s : Nat)]) { w with heap := w.heap.setIfInBounds g o } ∧ EMap { w with heap := w.heap.setIfInBounds g o } g k s m := by
  obtain ⟨es, clock, hb, hs, hks, h1, h2⟩ := h
  have hd := Tryd.underlying3
  rcases MapKept.findNow_spec (isKey_int k) es.toList 0 hks with ⟨f1, f2⟩ | ⟨j, e, f1, f2, f3⟩
  · refine ⟨.map (es.push { key := .int .i64 k, val := z, born := clock }) (clock + 1), clock, z, by simp [Instr.mapEntry, run_underlying hM, MapKept.run_getObj_map hb, MapKept.run_checkKey hd (isKey_int k), MapKept.run_findKey hd f1, hz, MapKept.run_setObj_map _ hb, Result.andThen], _, _, (MapKept.heap_set hb).1, MapKept.stamped_push hs f2, ?_, ?_, ?_, ?_⟩
    · intro x hx
      simp only [Array.toList_push, List.mem_append, List.mem_singleton] at hx
      rcases hx with hx | rfl
      · exact hks x hx
      · exact isKey_int k
    · intro x hx q hqk hq
      simp only [Array.toList_push, List.mem_append, List.mem_singleton] at hx
      rcases hx with hx | rfl
      · exact h1 x hx q hq
      · exact absurd (by simpa using hq.symm) hqk
    · intro q hqk hq
      simp only [Array.toList_push, List.mem_append, List.mem_singleton] at hq
      exact h2 q fun x hx => hq x (.inl hx)
    · exact ⟨es.size, _, by simp; rfl, rfl, rfl⟩
  · have hj : es[j]? = some e := by simpa using f2
    have hkey : ∀ e', es[j]? = some e' → ({ e' with key := .int .i64 k } : MapEntry).key = e'.key := fun e' he' => by rw [hj] at he'; cases he'; exact f3.symm
    refine ⟨.map (es.modify j fun e => { e with key := .int .i64 k }) clock, e.born, e.val, by simp [Instr.mapEntry, run_underlying hM, MapKept.run_getObj_map hb, MapKept.run_checkKey hd (isKey_int k), MapKept.run_findKey hd f1, hj, f3, MapKept.run_keyThatStays (isKey_int k), MapKept.run_setObj_map _ hb, Result.andThen], _, _, (MapKept.heap_set hb).1, MapKept.stamped_modify hs _ _ (fun _ _ => rfl) (fun e' _ he' => hkey e' he'), MapKept.isKey_modify hks _ _ hkey, ?_, ?_, ?_⟩
    · intro x hx q hqk hq
      rcases mem_modify hx with ⟨e', -, rfl⟩ | ⟨p, hp, hx⟩
      · exact absurd (by simpa using hq.symm) hqk
      · exact h1 x (mem_of_get hx) q hq
    · intro q hqk hq
      refine h2 q fun x hx c => ?_
      obtain ⟨p, hp⟩ := get_of_mem hx
      by_cases hpj : j = p
      · subst hpj; rw [hj] at hp; cases hp; rw [f3] at c; simp at c; exact hqk c.symm
      · refine hq _ (modify_mem hp) ?_
        rw [if_neg hpj]; exact c
    · exact ⟨j, { e with key := .int .i64 k }, by rw [Array.getElem?_modify, if_pos rfl, hj]; rfl, rfl, rfl⟩
theorem EMap.store {i : Int} {s : Nat} (h : EMap w g i s m) (v : Value) (ty : TypeId) :
    ∃ o, (Instr.entryStore ty (.map (some g)) (goInt (s : Nat)) v).run Tryd.prog w = .ok () { w with heap := w.heap.setIfInBounds g o } ∧ VMap { w with heap := w.heap.setIfInBounds g o } g (fun j => if j = i then some v else m j) := by
  obtain ⟨es, clock, hb, hs, hks, h1, h2, j, e, hj, he1, he2⟩ := h
  have hfi : es.findIdx? (fun x => (x.born : Int) == (s : Int)) = some j := by
    obtain ⟨hj1, hj2⟩ := Array.getElem?_eq_some_iff.1 hj
    rw [Array.findIdx?_eq_some_iff_getElem]
    refine ⟨hj1, by rw [hj2, he2]; simp, fun q hq => ?_⟩
    simp only [Bool.not_eq_true, beq_eq_false_iff_ne, ne_eq]
    intro c
    have c' : es[q].born = e.born := by rw [he2]; exact Int.ofNat_inj.1 c
    have := once (·.born) hs.2.1 (Array.getElem?_eq_getElem (by omega)) hj c'
    omega
  refine ⟨.map (es.modify j fun e => { e with val := v }) clock, by simp [Instr.entryStore, MapKept.run_getObj_map hb, Result.andThen, goInt, asInt, asIntOf, hfi, MapKept.run_setObj_map _ hb], _, _, (MapKept.heap_set hb).1, MapKept.stamped_modify hs _ _ (fun _ _ => rfl) (fun _ _ _ => rfl), MapKept.isKey_modify hks _ _ (fun _ _ => rfl), ?_, ?_⟩
  · intro x hx q hq
    rcases mem_modify hx with ⟨e', he', rfl⟩ | ⟨p, hp, hx⟩
    · rw [hj] at he'; cases he'
      rw [he1] at hq
      obtain rfl : i = q := by simpa using hq
      simp
    · have : q ≠ i := fun c => hp (once (·.key) hs.2.2 hx hj (by rw [hq, he1, c]))
      simp only [this, if_false]; exact h1 x (mem_of_get hx) q this hq
  · intro q hq
    have : q ≠ i := fun c => hq _ (modify_mem hj) (by simp [c, he1])
    simp only [this, if_false]
    refine h2 q this fun x hx c => ?_
    obtain ⟨p, hp⟩ := get_of_mem hx
    refine hq _ (modify_mem hp) ?_
    split <;> exact c
end
end Go.Proofs.YtepljgondmkljaaDoor
