/- Records: Pack. -/
import Derived.Test.YtiiogglflpladaaDoorND
namespace Go.Proofs.YtiiogglflpladaaDoor
set_option linter.unusedSimpArgs false
set_option linter.unusedVariables false
open Go.RowKit

/-- a slice of numbers with their widths -/
def Nums (w : World) (v : Value) (L : List (Nat × Nat)) : Prop :=
  ∃ A c, v = .slice A L.length c ∧ L.length ≤ c ∧ c ≤ 9223372036854775807 ∧ (0 < L.length → ∃ b o, A = some ⟨b, o, none⟩ ∧ ∀ i p, L[i]? = some p → w.cell? ⟨b, o + i * 2, none⟩ = some (.int .i64 (p.1 : Int)) ∧ w.cell? ⟨b, o + i * 2 + 1, none⟩ = some (.int .u64 (p.2 : Int)))
theorem Kept.nums {w w1 : World} {v : Value} {L : List (Nat × Nat)} (k : Kept w w1) (h : Nums w v L) : Nums w1 v L := by
  obtain ⟨A, c, hv, h1, h2, h3⟩ := h
  refine ⟨A, c, hv, h1, h2, fun h0 => ?_⟩
  obtain ⟨b, o, hA, hc⟩ := h3 h0
  exact ⟨b, o, hA, fun i p hp => ⟨k.keeps (hc i p hp).1, k.keeps (hc i p hp).2⟩⟩
def NumOk (p : Nat × Nat) : Prop := (p.1 = 1 ∧ p.2 < 256) ∨ (p.1 = 4 ∧ p.2 < 4294967296)
def beW (n V : Nat) : List UInt8 := (List.range n).map fun i => UInt8.ofNat (V / 256 ^ (n - 1 - i) % 256)
def packL (L : List (Nat × Nat)) : List UInt8 := L.flatMap fun p => beW p.1 p.2
def sumW (L : List (Nat × Nat)) : Nat := L.foldl (fun a p => a + p.1) 0
theorem beW_len (n V : Nat) : (beW n V).length = n := by simp [beW]
theorem packL_snoc (L : List (Nat × Nat)) (p : Nat × Nat) : packL (L ++ [p]) = packL L ++ beW p.1 p.2 := by simp [packL]
theorem sumW_snoc (L : List (Nat × Nat)) (p : Nat × Nat) : sumW (L ++ [p]) = sumW L + p.1 := by simp [sumW, List.foldl_append]
theorem packL_len (L : List (Nat × Nat)) : (packL L).length = sumW L := by
  have : ∀ (L : List (Nat × Nat)) (a : Nat), L.foldl (fun a p => a + p.1) a = a + (packL L).length := by
    intro L
    induction L with
    | nil => intro a; rfl
    | cons p r ih => intro a; rw [List.foldl_cons, ih]; simp [packL, beW_len]; omega
  rw [sumW, this]; omega
theorem sumW_le (L : List (Nat × Nat)) (h : ∀ p ∈ L, NumOk p) : sumW L ≤ 4 * L.length := by
  have : ∀ (L : List (Nat × Nat)) (a : Nat), (∀ p ∈ L, NumOk p) → L.foldl (fun a p => a + p.1) a ≤ a + 4 * L.length := by
    intro L
    induction L with
    | nil => intro a _; exact Nat.le_refl _
    | cons p r ih =>
      intro a h
      rw [List.foldl_cons, List.length_cons]
      have h1 := ih (a + p.1) (fun q hq => h q (List.mem_cons_of_mem _ hq))
      have h2 := h p (List.mem_cons_self ..)
      unfold NumOk at h2
      omega
  have := this L 0 h
  rw [sumW]; omega
theorem snoc_at {α : Type} (L : List α) (k : Nat) (p : α) (h : L[k]? = some p) : L.take (k + 1) = L.take k ++ [p] := by
  rw [List.take_add_one, h]; rfl
theorem isw_any (n : Int) (h0 : 1 ≤ n) (h1 : n ≤ 8) (w : World) : Calls Tryd.prog 42 #[.int .i64 n] w fun e w' => e = .returned (.bool true) ∧ w = w' := by
  go_enter Tryd.func42, Tryd.ntmps42
  go_wp2
  go_ret
  exact ⟨rfl, rfl⟩
theorem make_cap8 (N : Nat) (hN : N ≤ 1000000) (w : World) : ∃ cur, cur.size = N ∧ (Instr.makeSlice 33 (.int .i64 0) (.int .i64 (N : Int))).run Tryd.prog w =
    .ok (.slice (some ⟨w.heap.size, 0, none⟩) 0 N) (w.alloc (.cells cur 5)) := by
  obtain ⟨i, hi, hz, hsize, hbytes⟩ := info_parts info_u8
  have := run_makeSlice (P := Tryd.prog) w 33 5 i _ Tryd.underlying33 hi hz .i64 .i64 0 (N : Int) (by omega) (by omega) (by rw [hsize]; simp; omega) (by rw [hbytes]; omega) (by omega)
  refine ⟨madeCells (Value.int .u8 0).cells (N * 1), by rw [size_madeCells]; omega, ?_⟩
  rw [this, hsize]
  simp
theorem byts_own {w : World} {base : Nat} {e : TypeId} {v : Value} {n : Nat} {l : List UInt8} (h : w.ownsRow base e 1 v n (bcells l)) : Byts w v l := by
  have hl : l.length = n := by have := h.1; simpa [bcells_len] using this
  rcases h.2 with ⟨rfl, hn⟩ | ⟨g, cap, cur, rfl, hb, hg, hnc, hm, hs, hx⟩
  · exact ⟨none, 0, by rw [hl, hn], by omega, by omega, fun _ => rfl, by omega⟩
  · refine ⟨_, cap, by rw [hl], by omega, by unfold maxLen at hm; omega, by simp, fun _ => ⟨g, 0, rfl, fun j u hu => ?_⟩⟩
    have hj := (List.getElem?_eq_some_iff.1 hu).1
    rw [bcells_len] at hj
    rw [Nat.zero_add, h.cellAt (g := g) (cap := cap) j (by omega), hu]
theorem beW1 (V : Nat) (h : V < 256) : beW 1 V = [UInt8.ofNat V] := by simp [beW, List.range_succ, Nat.mod_eq_of_lt h]
/-- the octets of a number, as the code reckons them -/
theorem be_at (n V i : Nat) (hi : i < n) (y : Nat) (hy : 256 ^ (n - 1 - i) = y) : IntKind.u8.wrap ((V : Int) / (y : Int)) = (((beW n V).getD i 0).toNat : Int) := by
  rw [IntKind.wrap_u8, beW, List.getD_eq_getElem?_getD, List.getElem?_map, List.getElem?_range hi]
  simp only [Option.map_some, Option.getD_some]
  rw [hy]
  have e : ((V : Int) / (y : Int) % 256).toNat = V / y % 256 := by
    have h1 : ((V / y : Nat) : Int) = (V : Int) / (y : Int) := Int.natCast_ediv V y
    omega
  have := u8_of ((V : Int) / (y : Int) % 256) (by omega) (by omega)
  rw [← this, e]
theorem wpList_pushB {P : Program} {ops : Array Oper} {rest : List Oper} {o : Oper} {a : Act} {Q : Exit → Act → World → Prop} {w : World} (hgd : o.guard = none) (s x : Operand) (t : TypeId)
    (ho : o.op = .call { callee := .builtin .append, args := #[s, x], argTypes := #[t, t] }) (base : Nat)
    (e : TypeId) (z : Value) (size bytes : Nat) (ht : P.underlying t = some (.slice e)) (hinfo : (P.info? e).map (fun i => (i.zero, i.size, i.bytes)) = some (some z, size, bytes))
    (hzs : z.cells.size = size) (hsz : 0 < size) (hby : 0 < bytes)
    (v : Value) (n : Nat) (xs cs : List Value) (c H : Nat) (hs : a.eval s = v) (hown : w.ownsRow base e size v n xs) (hH : w.heap.size = H) (hx : a.eval x = .slice (some ⟨H, 0, none⟩) 1 c)
    (hl : cs.length = size) (h1 : ∀ u ∈ cs, u.oneCell' = true) (hn : (n + 1) * bytes ≤ 140737488355328) (hb : base ≤ w.heap.size)
    (h : ∀ v' w', w'.ownsRow base e size v' (n + 1) (xs ++ cs) → (w.alloc (.cells cs.toArray e)).grownBy w' v.ownBlock → (v'.ownBlock = v.ownBlock ∨ v'.ownBlock = some (w.heap.size + 1)) → wpList P ops Q rest (a.put o.dst v') w') :
    wpList P ops Q (o :: rest) a (w.alloc (.cells cs.toArray e)) := by
  subst hH
  obtain ⟨i, hi, hz, hsize, hbytes⟩ := info_parts hinfo
  have h63 : n + 1 ≤ maxLen := by
    have : (n + 1) * 1 ≤ (n + 1) * bytes := Nat.mul_le_mul_left _ hby
    unfold maxLen; omega
  refine wpList_append_own_at _ hgd s x t ho base e i z size bytes ht hi hz hsize hbytes hzs hsz v n xs hs (hown.alloc _) ⟨w.heap.size, 0, none⟩ 1 c cs hx (by omega) ?_ h1 h63 hn (by rw [World.size_alloc]; omega) ?_
  · exact World.news_of_block (B := w.heap.size) (cs := cs.toArray) (heap_alloc_new w _)
  · intro v' w' h2 h3 _ h5
    rw [World.size_alloc] at h5
    exact h v' w' h2 h3 h5
theorem row_ne {w : World} {base : Nat} {e : TypeId} {size n : Nat} {v : Value} {xs : List Value} (hr : w.ownsRow base e size v n xs) {g : Nat} {t : TypeId} {cs : List Value} (hc : CB w g t cs) (hne : e ≠ t) : some g ≠ v.ownBlock := by
  intro hq
  rcases hr.2 with ⟨rfl, _⟩ | ⟨g', cap, cur, rfl, hb, hg, _⟩
  · cases hq
  · obtain rfl : g = g' := by simpa [Value.ownBlock] using hq
    unfold CB at hc
    rw [hc] at hg
    injection hg with e1
    injection e1 with _ e2
    exact hne e2.symm
/-- a block of another type stays behind an append -/
theorem CB.grown {w w' : World} {tmp : Obj} {base : Nat} {e : TypeId} {size n : Nat} {v : Value} {xs : List Value} {g : Nat} {t : TypeId} {cs : List Value} (hc : CB w g t cs) (hr : w.ownsRow base e size v n xs) (hne : e ≠ t) (hg : (w.alloc tmp).grownBy w' v.ownBlock) : CB w' g t cs :=
  hc.of_heap ((hg.block g (by rw [World.size_alloc]; have := hc.lt; omega) (row_ne hr hc hne)).trans (Below.heap_alloc w tmp g hc.lt))
theorem tyNU : 5 ≠ 56 := by decide
theorem be_cases (wd V i : Nat) (h : (wd = 1 ∧ i = 0) ∨ (wd = 4 ∧ i = 0) ∨ (wd = 4 ∧ i = 1) ∨ (wd = 4 ∧ i = 2) ∨ (wd = 4 ∧ i = 3)) :
    (wd = 1 ∧ i = 0 ∧ (V : Int) % 256 = (((beW wd V).getD i 0).toNat : Int)) ∨ (wd = 4 ∧ i = 0 ∧ (V : Int) / 16777216 % 256 = (((beW wd V).getD i 0).toNat : Int)) ∨ (wd = 4 ∧ i = 1 ∧ (V : Int) / 65536 % 256 = (((beW wd V).getD i 0).toNat : Int)) ∨
    (wd = 4 ∧ i = 2 ∧ (V : Int) / 256 % 256 = (((beW wd V).getD i 0).toNat : Int)) ∨ (wd = 4 ∧ i = 3 ∧ (V : Int) % 256 = (((beW wd V).getD i 0).toNat : Int)) := by
  rcases h with ⟨rfl, rfl⟩ | ⟨rfl, rfl⟩ | ⟨rfl, rfl⟩ | ⟨rfl, rfl⟩ | ⟨rfl, rfl⟩
  · have := be_at 1 V 0 (by omega) 1 (by decide)
    rw [IntKind.wrap_u8] at this
    exact .inl ⟨rfl, rfl, by rw [← this]; simp⟩
  · have := be_at 4 V 0 (by omega) 16777216 (by decide)
    rw [IntKind.wrap_u8] at this
    exact .inr (.inl ⟨rfl, rfl, this⟩)
  · have := be_at 4 V 1 (by omega) 65536 (by decide)
    rw [IntKind.wrap_u8] at this
    exact .inr (.inr (.inl ⟨rfl, rfl, this⟩))
  · have := be_at 4 V 2 (by omega) 256 (by decide)
    rw [IntKind.wrap_u8] at this
    exact .inr (.inr (.inr (.inl ⟨rfl, rfl, this⟩)))
  · have := be_at 4 V 3 (by omega) 1 (by decide)
    rw [IntKind.wrap_u8] at this
    exact .inr (.inr (.inr (.inr ⟨rfl, rfl, by rw [← this]; simp⟩)))
theorem getD_len {l : List UInt8} {i n : Nat} (h : l.length = n) (hi : i < n) : l.take (i + 1) = l.take i ++ [l.getD i 0] := take_snocU l i (by omega)
set_option maxRecDepth 100000 in
set_option maxHeartbeats 4000000 in
theorem pack_any (v : Value) (L : List (Nat × Nat)) (w : World) (hL : L.length ≤ 1000) (hok : ∀ p ∈ L, NumOk p) (hN : Nums w v L) :
    Calls Tryd.prog 20 #[v] w fun e w' => ∃ vb, e = .returned (.tuple #[vb, .int .i64 0]) ∧ Byts w' vb (packL L) ∧ Kept w w' := by
  have HNU := hid hN
  obtain ⟨A, c, rfl, h1, h2, h3⟩ := hN
  have H3 := hid h3; have HOK := hid hok
  have HSW := hid (sumW_le L hok)
  obtain ⟨n, hn⟩ : ∃ n, L.length = n := ⟨_, rfl⟩
  rw [hn] at H3 h1 hL HSW HNU ⊢
  have HN := hid hn
  have HIW := hid isw_any
  obtain ⟨cur, hcs, hmk⟩ := make_cap8 (sumW L) (by have := HSW.out; omega)
    w
  clear hcs hmk cur h3 hok hn
  go_enter Tryd.func20, Tryd.ntmps20
  go_wp2
  go_loopw [13, 4] (fun t ts wr => ∃ i : Nat, i ≤ n ∧ t = .int .i64 i ∧ ts = .int .i64 (sumW (L.take i) : Nat) ∧ Kept w wr) (fun t _ _ => n - (intOf t).toNat)
  case atStart => exact ⟨0, by omega, rfl, rfl, Kept.refl _⟩
  case round =>
    obtain ⟨i, hi, rfl, rfl, hk⟩ := hrel
    have HK := hid hk
    by_cases hlt : i < n
    · obtain ⟨b, o, rfl, hc⟩ := H3.out (by omega)
      obtain ⟨p, hp⟩ : ∃ p, L[i]? = some p := ⟨_, List.getElem?_eq_getElem (by rw [HN.out]; exact hlt)⟩
      have hpo := HOK.out p (List.mem_of_getElem? hp)
      obtain ⟨m0, m1⟩ := hc i p hp
      have m0 := hk.keeps m0
      have m1 := hk.keeps m1
      have hsn := sumW_snoc (L.take i) p
      rw [← snoc_at L i p hp] at hsn
      have hle := sumW_le (L.take i) (fun q hq => HOK.out q (List.mem_of_mem_take hq))
      rw [List.length_take] at hle
      have HSN := hid hsn
      clear hk hc hp hsn
      obtain ⟨wd, V⟩ := p
      dsimp only at m0 m1 HSN
      have q0 : (0 : Int) ≤ (i : Int) := by omega
      have q1 : (i : Int) < (n : Int) := by omega
      generalize sumW (L.take i) = sm at *
      rcases hpo with ⟨rfl, hV⟩ | ⟨rfl, hV⟩
      · have hz : (V : Int) / 256 = 0 := by dsimp only at hV; omega
        go_wp2_with (go_at_call 42; (with_reducible refine (HIW.out 1 (by decide) (by decide) _).mono ?_); rintro e w2 ⟨rfl, rfl⟩)
        go_roundw
        case rel => exact ⟨i + 1, by omega, by go_num, by rw [HSN.out]; go_num, HK.out.alloc _⟩
        case measure => simp [intOf]; omega
      · have hz : (V : Int) / 4294967296 = 0 := by dsimp only at hV; omega
        go_wp2_with (go_at_call 42; (with_reducible refine (HIW.out 4 (by decide) (by decide) _).mono ?_); rintro e w2 ⟨rfl, rfl⟩)
        go_roundw
        case rel => exact ⟨i + 1, by omega, by go_num, by rw [HSN.out]; go_num, HK.out.alloc _⟩
        case measure => simp [intOf]; omega
    · have hie : i = n := by omega
      have hall : L.take i = L := List.take_of_length_le (by rw [HN.out]; omega)
      rw [hall]
      clear hk hall
      have hlt2 : ¬ (i : Int) < (n : Int) := by omega
      obtain ⟨cur, hcs, hmk⟩ := make_cap8 (sumW L) (by have := HSW.out; omega) wr
      have HCS := hid hcs
      clear hcs
      go_wp2
      have HRO := hid (World.ownsRow_made (base := w.heap.size) (e := 5) (size := 1) wr cur (sumW L) HK.out.size (by unfold maxLen; have := HSW.out; omega) (by rw [HCS.out]; omega))
      have HKA := hid (HK.out.alloc (.cells cur 5))
      clear hmk HCS
      generalize (wr.alloc (.cells cur 5)) = wa at *
      go_loopw [42, 7] (fun t tv wq => ∃ (k : Nat) (v' : Value), k ≤ n ∧ t = .int .i64 k ∧ tv = v' ∧ wq.ownsRow w.heap.size 5 1 v' (sumW (L.take k)) (bcells (packL (L.take k))) ∧ Kept w wq) (fun t _ _ => n - (intOf t).toNat)
      case atStart => exact ⟨0, _, by omega, rfl, rfl, HRO.out, HKA.out⟩
      case round =>
        obtain ⟨k, v', hk, rfl, rfl, hro, hkq⟩ := hrel
        rename World => wq
        have HRQ := hid hro; have HKQ := hid hkq
        by_cases hlk : k < n
        · obtain ⟨b, o, rfl, hc⟩ := H3.out (by omega)
          obtain ⟨p, hp⟩ : ∃ p, L[k]? = some p := ⟨_, List.getElem?_eq_getElem (by rw [HN.out]; exact hlk)⟩
          have hpo := HOK.out p (List.mem_of_getElem? hp)
          obtain ⟨m0, m1⟩ := hc k p hp
          have m0 := hkq.keeps m0
          have m1 := hkq.keeps m1
          have HSN := hid (show sumW (L.take (k + 1)) = sumW (L.take k) + p.1 by rw [snoc_at L k p hp, sumW_snoc])
          have HPN := hid (show packL (L.take (k + 1)) = packL (L.take k) ++ beW p.1 p.2 by rw [snoc_at L k p hp, packL_snoc])
          have hle := sumW_le (L.take k) (fun q hq => HOK.out q (List.mem_of_mem_take hq))
          rw [List.length_take] at hle
          clear hro hkq hc hp HRO HKA
          obtain ⟨wd, V⟩ := p
          dsimp only at m0 m1 HSN HPN
          have q0 : (0 : Int) ≤ (k : Int) := by omega
          have q1 : (k : Int) < (n : Int) := by omega
          generalize sumW (L.take k) = sm at *
          generalize packL (L.take k) = pk at *
          have hsm : sm ≤ 4000 := by omega
          obtain ⟨Wd, hWd⟩ : ∃ Wd, Wd = wd := ⟨_, rfl⟩
          have hwd : wd ≤ 4 := by rcases hpo with ⟨h, -⟩ | ⟨h, -⟩ <;> (dsimp only at h; omega)
          go_wp2
          go_loopw [48, 7] (fun t tv wx => ∃ (i : Nat) (v2 : Value), i ≤ wd ∧ t = .int .i64 i ∧ tv = v2 ∧ wx.ownsRow w.heap.size 5 1 v2 (sm + i) (bcells (pk ++ (beW wd V).take i)) ∧ Kept w wx ∧ CB wx wq.heap.size 56 [.int .i64 (wd : Int), .int .u64 (V : Int)]) (fun t _ _ => wd - (intOf t).toNat)
          case atStart => exact ⟨0, _, by omega, rfl, rfl, by rw [List.take_zero, List.append_nil, Nat.add_zero]; exact HRQ.out.alloc _, HKQ.out.alloc _, cb_new wq 56 [.int .i64 (wd : Int), .int .u64 (V : Int)]⟩
          case round =>
            obtain ⟨i, v2, hi2, rfl, rfl, hr2, hk2, hcb⟩ := hrel
            have HR2 := hid hr2; have HKW := hid hk2; have HCB := hid hcb
            have b0 := hcb.cell 0 (by simp)
            have b1 := hcb.cell 1 (by simp)
            simp only [List.getElem_cons_zero, List.getElem_cons_succ] at b0 b1
            have hsz := hk2.size
            clear hr2 hk2 hcb
            by_cases hli : i < wd
            · have hbt := be_cases wd V i (by rcases hpo with ⟨h, -⟩ | ⟨h, -⟩ <;> (dsimp only at h; omega))
              have HTK := hid (getD_len (beW_len wd V) hli)
              have r0 : (0 : Int) ≤ (i : Int) := by omega
              have r1 : (i : Int) < (wd : Int) := by omega
              generalize hcx : (beW wd V).getD i 0 = cx at *
              clear hcx
              have HBX := hid (rfl : bcells [cx] = [.int .u8 (cx.toNat : Int)])
              have HE := hid (show ∀ (vx : Value) (wy : World), wy.ownsRow w.heap.size 5 1 vx (sm + i + 1) (bcells (pk ++ (beW wd V).take i) ++ bcells [cx]) → wy.ownsRow w.heap.size 5 1 vx (sm + (i + 1)) (bcells (pk ++ (beW wd V).take (i + 1))) from fun vx wy hq => by
                rw [HTK.out, ← List.append_assoc, bcells_app (pk ++ (beW wd V).take i)]; exact hq)
              clear HTK hpo hwd
              generalize bcells (pk ++ (beW wd V).take i) = cs0 at *
              rcases hbt with ⟨h1, h2, hb⟩ | ⟨h1, h2, hb⟩ | ⟨h1, h2, hb⟩ | ⟨h1, h2, hb⟩ | ⟨h1, h2, hb⟩
              all_goals (
                subst h2
                subst h1
                go_wp2_with (at_builtin; (refine wpList_pushB (w := wr) rfl (.tmp 51) (.tmp 62) 33 rfl w.heap.size 5 (.int .u8 0) 1 1 Tryd.underlying33 info_u8 rfl (by decide) (by decide) _ _ cs0 (bcells [cx]) 1 _ rfl HR2.out rfl rfl rfl (bcells_one _) (by omega) hsz ?_); intro v3 w3 hown3 hgr3 hat3)
                go_roundw
                case rel => exact ⟨_, _, _, ⟨_, by decide, rfl, HE.out _ _ hown3, (HKW.out.alloc _).grown hgr3 (fun q hq => (HR2.out.lt q hq).1), HCB.out.grown HR2.out tyNU hgr3⟩, rfl, rfl, rfl⟩
                case measure => simp [intOf])
            · obtain rfl : i = wd := by omega
              have hr1 : ¬ (i : Int) < (i : Int) := by omega
              have HF := hid (show (beW i V).take i = beW i V from List.take_of_length_le (by rw [beW_len]; exact Nat.le_refl _))
              go_wp2
              go_roundw
              case rel => exact ⟨k + 1, _, by omega, by go_num, rfl, by rw [HSN.out, HPN.out]; have := HR2.out; rwa [HF.out] at this, HKW.out⟩
              case measure => simp [intOf]; omega
        · have hke : k = n := by omega
          have hall : L.take k = L := List.take_of_length_le (by rw [HN.out]; omega)
          rw [hall] at HRQ
          have hlk2 : ¬ (k : Int) < (n : Int) := by omega
          go_wp2
          go_ret2
          exact ⟨_, rfl, byts_own HRQ.out, HKQ.out⟩
end Go.Proofs.YtiiogglflpladaaDoor
