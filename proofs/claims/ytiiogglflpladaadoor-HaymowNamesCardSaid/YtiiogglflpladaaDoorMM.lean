/- HaymowNames: entry.Decode. -/
import Derived.Test.YtiiogglflpladaaDoorML
import Derived.StillTailTactics
namespace Go.Proofs.YtiiogglflpladaaDoor
set_option linter.unusedSimpArgs false
set_option linter.unusedVariables false
open Go.RowKit

def lenOfV : Value → Nat
  | .slice _ m _ => m
  | _ => 0
theorem ints_111 (w : World) : Ints (w.alloc (.cells #[.int .i64 1, .int .i64 1, .int .i64 1] 3)) (.slice (some ⟨w.heap.size, 0, none⟩) 3 3) (([1, 1, 1] : List Nat).map (fun (x : Nat) => (x : Int))) := by
  have h := cb_new w 3 [.int .i64 1, .int .i64 1, .int .i64 1]
  refine ints_cells (L := [1, 1, 1]) rfl (by omega) (by omega) fun i hi => ?_
  match i, hi with
  | 0, _ => exact h.cell 0 (by simp)
  | 1, _ => exact h.cell 1 (by simp)
  | 2, _ => exact h.cell 2 (by simp)
theorem own3 {w : World} {base : Nat} {v : Value} {x y z : Nat} (h : w.ownsRow base 54 1 v 3 (ucells [x, y, z])) : ∃ b c, v = .slice (some ⟨b, 0, none⟩) 3 c ∧ base ≤ b ∧ 3 ≤ c ∧ w.cell? ⟨b, 0, none⟩ = some (.int .u64 (x : Int)) ∧ w.cell? ⟨b, 1, none⟩ = some (.int .u64 (y : Int)) ∧ w.cell? ⟨b, 2, none⟩ = some (.int .u64 (z : Int)) := by
  rcases h.2 with ⟨_, h0⟩ | ⟨g, cap, cur, rfl, hb, hg, hnc, hm, hs, hx⟩
  · omega
  · have c0 := h.cellAt (g := g) (cap := cap) 0 (by omega)
    have c1 := h.cellAt (g := g) (cap := cap) 1 (by omega)
    have c2 := h.cellAt (g := g) (cap := cap) 2 (by omega)
    exact ⟨g, cap, rfl, hb, hnc, by simpa [ucells] using c0, by simpa [ucells] using c1, by simpa [ucells] using c2⟩
/-- one struct appended at a step of a region that draws its order: it lies in a block that was just made -/
theorem step_pushG {P : Program} {ops : Array Oper} {o : Oper} {a : Act} {K : Act → World → Prop} {Q : Exit → Act → World → Prop} {E : Prop} {w : World} (hgd : o.guard = none) (s x : Operand) (t : TypeId)
    (ho : o.op = .call { callee := .builtin .append, args := #[s, x], argTypes := #[t, t] })
    (e : TypeId) (z : Value) (size bytes : Nat) (ht : P.underlying t = some (.slice e)) (hinfo : (P.info? e).map (fun i => (i.zero, i.size, i.bytes)) = some (some z, size, bytes))
    (hzs : z.cells.size = size) (hsz : 0 < size) (hby : 0 < bytes)
    (base : Nat) (v : Value) (n : Nat) (xs cs : List Value) (c H : Nat) (hs : a.eval s = v) (hown : w.ownsRow base e size v n xs) (hH : w.heap[H]? = some (.cells cs.toArray e (0, 0))) (hx : a.eval x = .slice (some ⟨H, 0, none⟩) 1 c)
    (hl : cs.length = size) (h1 : ∀ u ∈ cs, u.oneCell' = true) (hn : (n + 1) * bytes ≤ 140737488355328) (hb : base ≤ w.heap.size)
    (h : ∀ v' w', w'.ownsRow base e size v' (n + 1) (xs ++ cs) → w.grownBy w' v.ownBlock → K (a.put o.dst v') w') :
    if Region.wanted o (yielded ops a.tmps) = true then Oper.wp P o a w K Q else E := by
  have hw : Region.wanted o (yielded ops a.tmps) = true := by simp [Region.wanted, hgd]
  rw [if_pos hw]
  obtain ⟨i, hi, hz, hsize, hbytes⟩ := info_parts hinfo
  have h63 : n + 1 ≤ maxLen := by
    have : (n + 1) * 1 ≤ (n + 1) * bytes := Nat.mul_le_mul_left _ hby
    unfold maxLen; omega
  obtain ⟨v', w', hr, h2, h3, _⟩ := run_append_own_at (P := P) w base t o.type e i _ size bytes ht hi hz hsize hbytes hzs hsz v n _ hown ⟨H, 0, none⟩ 1 c cs (by omega) (World.news_of_block (B := H) (cs := cs.toArray) hH) h1 h63 hn hb
  unfold Oper.wp execOp
  simp only [ho, resolve, invoke, builtin, Sem.run_bind, Sem.run_pure, Result.andThen_ok, List.map_toArray, List.map_cons, List.map_nil, hs, hx, hr]
  exact h v' w' h2 h3
theorem unp_111 (a b c : UInt8) (r : List UInt8) : unpL [1, 1, 1] (a :: b :: c :: r) = [a.toNat, b.toNat, c.toNat] := by
  simp [unpL, unpN, List.range_succ, sumN, valF]
theorem encL_drop (L : List En) (k : Nat) (e : En) (h : L[k]? = some e) : encL (L.drop k) = enc1 e ++ encL (L.drop (k + 1)) := by
  obtain ⟨hk, rfl⟩ := List.getElem?_eq_some_iff.1 h
  rw [List.drop_eq_getElem_cons hk]
  rfl
set_option maxHeartbeats 8000000 in
set_option maxRecDepth 100000 in
theorem decode_any (v : Value) (L : List En) (w : World) (h : Byts w v (encL L)) (hv : ValidE L) :
    Calls Tryd.prog 10 #[v] w fun e w' => ∃ vb, e = .returned (.tuple #[vb, .int .i64 0]) ∧ Ents w' vb L ∧ Kept w w' := by
  have M1 := hid (fun w' v' (h : Ents w' v' L) => may_yes v' L w' h hv)
  have HV := hid hv
  obtain ⟨n, hn⟩ : ∃ n, L.length = n := ⟨_, rfl⟩
  have HN := hid hn
  have h30 : n ≤ 30 := by rw [← hn]; exact hv.len
  have HB := hid h
  clear h hv hn
  go_enter Tryd.func10, Tryd.ntmps10
  go_wp2
  go_loopw [0, 4] (fun tb tl wr => ∃ (k : Nat) (vb vl : Value), k ≤ n ∧ tb = vb ∧ tl = vl ∧ Byts w vb (encL (L.drop k)) ∧ wr.ownsRow w.heap.size 32 3 vl k (ecells (L.take k)) ∧ Kept w wr) (fun tb _ _ => lenOfV tb)
  case atStart => exact ⟨0, v, _, by omega, rfl, rfl, HB.out, World.ownsRow_nil _ _ _ _, Kept.refl _⟩
  case round =>
    obtain ⟨k, vb, vl, hk, rfl, rfl, hby, hro, hkr⟩ := hrel
    have HK := hid hkr; have HR := hid hro; have HBY := hid hby
    clear hkr hro hby HB
    by_cases hlt : k < n
    · obtain ⟨e, he⟩ : ∃ e, L[k]? = some e := ⟨_, List.getElem?_eq_getElem (by rw [HN.out]; exact hlt)⟩
      have hb := HV.out.all e (List.mem_of_getElem? he)
      have hdr := encL_drop L k e he
      obtain ⟨p, hp⟩ : ∃ p : Nat, e.ino = (p : Int) := ⟨e.ino.toNat, by omega⟩
      have hp2 : p < 256 := by omega
      have hl1 := nameB_len hb.1
      have hen : enc1 e = [UInt8.ofNat p, 1, UInt8.ofNat e.name.length] ++ e.name := by rw [enc1, hp]; rfl
      obtain ⟨q, hq⟩ : ∃ q, e.name.length = q := ⟨_, rfl⟩
      rw [hq] at hen hl1
      obtain ⟨r, hr⟩ : ∃ r, encL (L.drop (k + 1)) = r := ⟨_, rfl⟩
      rw [hr, hen] at hdr
      have hby := HBY.out
      rw [hdr] at hby
      obtain ⟨A, c, rfl⟩ := hby.shape
      obtain ⟨m, hm⟩ : ∃ m, ([UInt8.ofNat p, 1, UInt8.ofNat q] ++ e.name ++ r).length = m := ⟨_, rfl⟩
      rw [hm] at hby ⊢
      have hmm : m = 3 + q + r.length := by rw [← hm]; simp; omega
      obtain ⟨-, hc1, hc2, -, hco⟩ := hby.open_
      obtain ⟨b, o, rfl, -⟩ := hco (by omega)
      have hb3 := hby.drop 3 (by omega)
      rw [restA, if_neg (by omega), Option.map_some, add_plain, show 3 * 1 = 3 from rfl, show ([UInt8.ofNat p, 1, UInt8.ofNat q] ++ e.name ++ r).drop 3 = e.name ++ r from rfl] at hb3
      have hbt := hb3.take q (by omega)
      rw [List.take_left' hq] at hbt
      have hbd := hb3.drop q (by omega)
      rw [List.drop_left' hq] at hbd
      have HB0 := hid hby; have HB3 := hid hb3; have HBT := hid hbt; have HBD := hid hbd; have HE := hid he; have HR1 := hid hr; have HP := hid hp
      have hu : unpL [1, 1, 1] ([UInt8.ofNat p, 1, UInt8.ofNat q] ++ e.name ++ r) = [p, 1, q] := by
        show unpL [1, 1, 1] (UInt8.ofNat p :: 1 :: UInt8.ofNat q :: (e.name ++ r)) = _
        rw [unp_111]
        have h1 : (UInt8.ofNat p).toNat = p := by simp [Nat.mod_eq_of_lt hp2]
        have h2 : (UInt8.ofNat q).toNat = q := by simp; omega
        rw [h1, h2]; rfl
      have HU := hid (fun (w' : World) (hB : Byts w' (.slice (some ⟨b, o, none⟩) m c) ([UInt8.ofNat p, 1, UInt8.ofNat q] ++ e.name ++ r)) (vw : Value) (hW : Ints w' vw (([1, 1, 1] : List Nat).map (fun (x : Nat) => (x : Int)))) => unpack_own _ vw _ [1, 1, 1] w' hB hW (by intro x hx; simp at hx; omega) (by simp) (by rw [hm]; simp [sumN]; omega) (by simp [sumN]))
      rw [hu] at HU
      have HEN := hid (show ecells [e] = [.string (bstr e.name), .int .i64 (p : Int), .int .i64 1] by rw [← hp]; rfl)
      obtain ⟨s, hs⟩ : ∃ s, bstr e.name = s := ⟨_, rfl⟩
      rw [hs] at HEN
      have HS := hid hs
      have hq0 : (0 : Int) ≤ (q : Int) := by omega
      have hqm : (q : Int) ≤ ((m - 3 : Nat) : Int) := by omega
      have hqc : (q : Int) ≤ ((c - 3 : Nat) : Int) := by omega
      have hz1 : IntKind.i64.wrap (p : Int) = (p : Int) := by rw [IntKind.wrap_i64]; omega
      have hz2 : IntKind.i64.wrap (q : Int) = (q : Int) := by rw [IntKind.wrap_i64]; omega
      have hm0 : (0 : Int) < (m : Int) := by omega
      have hm3 : (3 : Int) ≤ (m : Int) := by omega
      have hc3 : ¬ c = 3 := by omega
      have hk30 : ((k : Int) == 30) = false := by simp; omega
      have hk30' : (k == 30) = false := by simp; omega
      have HMM := hid hmm
      obtain ⟨Al, cl, hvl⟩ := ownsRow_shape HR.out
      subst hvl
      clear hby hb3 hbt hbd he hr hp hu hs hb hdr hl1 hen hq hm hco hmm HBY
      go_upto_region 10 with (go_at_call 27; (with_reducible refine (HU.out _ ((HK.out.alloc _).byts HB0.out) _ (ints_111 wr)).mono ?_); rintro e2 w2 ⟨v2, rfl, hu, k2⟩; obtain ⟨ub, uc, rfl, hub, huc, u0, u1, u2⟩ := own3 hu; have huc0 : (3 : Int) ≤ (uc : Int) := (by omega))
      have K2 := hid (((Kept.refl wr).alloc _).trans k2)
      have KW2 := hid (HK.out.trans K2.out)
      have HSS := hid (fun (w' : World) (hk : Kept w w') (h0 : w'.cell? ⟨ub, 0, none⟩ = some (.int .u64 (p : Int))) (h1 : w'.cell? ⟨ub, 1, none⟩ = some (.int .u64 1)) =>
        (⟨by have := conv_byts (hk.byts HBT.out); rwa [HS.out] at this, h0, h1⟩ : (convert 33 9 (.slice (some ⟨b, o + 3, none⟩) q (c - 3))).run Tryd.prog w' = .ok (.string s) w' ∧ w'.cell? ⟨ub, 0, none⟩ = some (.int .u64 (p : Int)) ∧ w'.cell? ⟨ub, 1, none⟩ = some (.int .u64 1)))
      have R2 := hid (K2.out.row HR.out)
      have hgl : ∀ g, (Value.slice Al k cl).ownBlock = some g → g < ub := by
        intro g hg
        have h1 := (HR.out.lt g hg).2
        have : wr.heap.size + 1 ≤ ub := by simpa using hub
        omega
      have HGL := hid hgl
      have U0 := hid u0; have U1 := hid (show w2.cell? ⟨ub, 1, none⟩ = some (.int .u64 1) from u1)
      clear u0 u1 hgl hu k2 hub HBT
      go_region_held3 (fun w' => (convert 33 9 (.slice (some ⟨b, o + 3, none⟩) q (c - 3))).run Tryd.prog w' = .ok (.string s) w' ∧ w'.cell? ⟨ub, 0, none⟩ = some (.int .u64 (p : Int)) ∧ w'.cell? ⟨ub, 1, none⟩ = some (.int .u64 1))
        (first | exact HSS.out _ KW2.out U0.out U1.out | exact HSS.out _ KW2.out.drew U0.out U1.out | (go_split_ands; exact HSS.out _ (KW2.out.drew.alloc _) (((Kept.refl _).alloc _).keeps U0.out) (((Kept.refl _).alloc _).keeps U1.out)) | (go_split_ands; exact HSS.out _ k3 p0 p1))
        (first
        | (refine step_pushG rfl (.tmp 34) (.tmp 48) 23 (by rfl) 32 _ 3 32 Tryd.underlying23 info_en rfl (by decide) (by decide) w.heap.size (.slice Al k cl) k (ecells (L.take k)) [.string s, .int .i64 (p : Int), .int .i64 1] 1 w2.heap.size (by rfl) ?_ ?_ (by rfl) rfl ?_ ?_ ?_ ?_; (focus exact (R2.out.drew.alloc _)); (focus exact heap_alloc_new w2.drew _); (focus (simp [Value.oneCell'])); (focus omega); (focus exact (KW2.out.drew.alloc _).size); intro v3 w3 ho3 hg3; have k3 : Kept w w3 := (KW2.out.drew.alloc _).grown hg3 (fun g hg => (HR.out.lt g hg).1); have p0 := World.grownBy.cell hg3 (((Kept.refl w2).drew.alloc _).keeps U0.out) (fun e => Nat.lt_irrefl _ (HGL.out _ e.symm)); have p1 := World.grownBy.cell hg3 (((Kept.refl w2).drew.alloc _).keeps U1.out) (fun e => Nat.lt_irrefl _ (HGL.out _ e.symm))))
      have R8 : w3.ownsRow w.heap.size 32 3 v3 (k + 1) (ecells (L.take (k + 1))) := by
        rw [snoc_at L k e HE.out, ecells_app, HEN.out]; exact ho3
      have HBE := HBD.out
      rw [← HR1.out] at HBE
      have R9 := hid R8; have K9 := hid k3
      have HBF := hid HBE
      clear R8 k3 p0 p1 hg3 ho3 HSS HU HBE
      by_cases hcq : c - 3 = q
      · have HBG := hid (show Byts w (.slice (some ⟨b, o + 3, none⟩) (m - 3 - q) (c - 3 - q)) (encL (L.drop (k + 1))) from by have := HBF.out; rwa [restA, if_pos hcq] at this)
        go_wp2_with fail
        go_roundw
        case rel => exact ⟨k + 1, _, _, by omega, rfl, rfl, by have := HBG.out; rwa [show c - 3 - q = 0 by omega] at this, R9.out, K9.out⟩
        case measure => simp only [lenOfV]; omega
      · have HBG := hid (show Byts w (.slice (some ⟨b, o + 3 + q, none⟩) (m - 3 - q) (c - 3 - q)) (encL (L.drop (k + 1))) from by have := HBF.out; rwa [restA, if_neg hcq, Option.map_some, add_plain, Nat.mul_one] at this)
        go_wp2_with fail
        go_roundw
        case rel => exact ⟨k + 1, _, _, by omega, rfl, rfl, HBG.out, R9.out, K9.out⟩
        case measure => simp only [lenOfV]; omega
    · obtain rfl : k = n := by omega
      have e1 : L.take k = L := List.take_of_length_le (by rw [HN.out]; omega)
      have e2 : L.drop k = [] := List.drop_of_length_le (by rw [HN.out]; omega)
      have hby := HBY.out
      rw [e2] at hby
      obtain ⟨A, c, rfl⟩ := hby.shape
      have hE := ents_own HR.out
      rw [e1] at hE
      have HE := hid hE
      simp only [encL, List.flatMap_nil, List.length_nil]
      clear hE hby e1 e2
      go_wp2_with (go_at_call 19; (with_reducible refine (M1.out _ _ HE.out).mono ?_); rintro e w1 ⟨rfl, k1⟩)
      go_ret2
      exact ⟨_, rfl, k1.ents HE.out, HK.out.trans k1⟩
end Go.Proofs.YtiiogglflpladaaDoor
