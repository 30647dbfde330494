/- Slices that a function makes for itself: one element appended; such a slice behind calls. -/
import Derived.Test.YtiiogglflpladaaDoorKit
import Derived.Maps.AppendAt
import Derived.Deep.AppendLies
namespace Go.Proofs.YtiiogglflpladaaDoor
set_option linter.unusedSimpArgs false
set_option linter.unusedVariables false
open Go.RowKit

theorem Kept.row {w w1 : World} {base : Nat} {e : TypeId} {size : Nat} {v : Value} {n : Nat} {xs : List Value} (hk : Kept w w1) (h : w.ownsRow base e size v n xs) : w1.ownsRow base e size v n xs := by
  refine ⟨h.1, ?_⟩
  rcases h.2 with hn | ⟨g, cap, cur, rfl, hb, hgg, rest⟩
  · exact .inl hn
  · exact .inr ⟨g, cap, cur, rfl, hb, (hk.block g (Array.getElem?_eq_some_iff.1 hgg).1).trans hgg, rest⟩

theorem Kept.grown {W w w1 : World} {row : Option Nat} (hk : Kept W w) (hg : w.grownBy w1 row) (hr : ∀ k, row = some k → W.heap.size ≤ k) : Kept W w1 :=
  Below.grown hk hg hk.size hr

theorem wpList_push {P : Program} {ops : Array Oper} {rest : List Oper} {o : Oper} {a : Act} {Q : Exit → Act → World → Prop} {W w : World} (hgd : o.guard = none) (s x : Operand) (t : TypeId)
    (ho : o.op = .call { callee := .builtin .append, args := #[s, x], argTypes := #[t, t] })
    (e : TypeId) (z : Value) (size bytes : Nat) (ht : P.underlying t = some (.slice e)) (hinfo : (P.info? e).map (fun i => (i.zero, i.size, i.bytes)) = some (some z, size, bytes))
    (hzs : z.cells.size = size) (hsz : 0 < size) (hby : 0 < bytes)
    (v : Value) (n : Nat) (xs cs : List Value) (c : Nat) (hs : a.eval s = v) (hown : w.ownsRow W.heap.size e size v n xs) (hx : a.eval x = .slice (some ⟨w.heap.size, 0, none⟩) 1 c)
    (hl : cs.length = size) (h1 : ∀ u ∈ cs, u.oneCell' = true) (hn : (n + 1) * bytes ≤ 140737488355328) (hk : Kept W w)
    (h : ∀ v' w', w'.ownsRow W.heap.size e size v' (n + 1) (xs ++ cs) → Kept W w' → wpList P ops Q rest (a.put o.dst v') w') :
    wpList P ops Q (o :: rest) a (w.alloc (.cells cs.toArray e)) := by
  obtain ⟨i, hi, hz, hsize, hbytes⟩ := info_parts hinfo
  have hk' : Kept W (w.alloc (.cells cs.toArray e)) := hk.alloc _
  have h63 : n + 1 ≤ maxLen := by
    have : (n + 1) * 1 ≤ (n + 1) * bytes := Nat.mul_le_mul_left _ hby
    unfold maxLen; omega
  refine wpList_append_own _ hgd s x t ho W.heap.size e i z size bytes ht hi hz hsize hbytes hzs hsz v n xs hs (hown.alloc _) ⟨w.heap.size, 0, none⟩ 1 c cs hx (by omega) ?_ h1 h63 hn hk'.size ?_
  · exact World.news_of_block (B := w.heap.size) (cs := cs.toArray) (heap_alloc_new w _)
  · intro v' w' h2 h3 _
    refine h v' w' h2 (hk'.grown h3 fun k hkk => (hown.lt k hkk).1)

theorem ownsRow_shape {w : World} {base : Nat} {e : TypeId} {size : Nat} {v : Value} {n : Nat} {xs : List Value} (h : w.ownsRow base e size v n xs) : ∃ A c, v = .slice A n c := by
  rcases h.2 with ⟨rfl, rfl⟩ | ⟨g, cap, cur, rfl, _⟩
  · exact ⟨none, 0, rfl⟩
  · exact ⟨_, _, rfl⟩
theorem ownsRow_base {w : World} {base base' : Nat} {e : TypeId} {size : Nat} {v : Value} {n : Nat} {xs : List Value} (h : w.ownsRow base e size v n xs) (hb : base' ≤ base) : w.ownsRow base' e size v n xs := by
  refine ⟨h.1, ?_⟩
  rcases h.2 with hn | ⟨g, cap, cur, rfl, hg, rest⟩
  · exact .inl hn
  · exact .inr ⟨g, cap, cur, rfl, by omega, rest⟩
end Go.Proofs.YtiiogglflpladaaDoor
