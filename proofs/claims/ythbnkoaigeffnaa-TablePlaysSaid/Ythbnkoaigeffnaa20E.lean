/- haymowlaw20.awake. -/
import Derived.Test.Ythbnkoaigeffnaa20D
namespace Go.Proofs.Ythbnkoaigeffnaa
set_option linter.unusedSimpArgs false
set_option linter.unusedVariables false
open Go.RowKit

theorem open_at (S : Tb) (i m f x : Int) (h1 : oF S i m = f) (h2 : oE S i m = x) (a : Nat) (w : World) (hS : TabP w a S) :
    Calls Try.prog 11 #[.pointer (some ⟨a, 0, none⟩), .int .i64 i, .int .i64 m] w fun e w' => e = .returned (.tuple #[.int .i64 f, .int .i64 x]) ∧ TabP w' a (oS S i m) ∧ But a w w' := by
  have := open_any S a i m w hS
  rwa [h1, h2] at this
theorem File_at (S : Tb) (hok : Ok S) (fd d x : Int) (h : fE S fd d = x) (hx : x ≠ 0) (a : Nat) (w : World) (hS : TabP w a S) :
    Calls Try.prog 17 #[.pointer (some ⟨a, 0, none⟩), .int .i64 fd, .int .i64 d] w fun e w' => e = .returned (.tuple #[.agg #[.int .i64 0, .int .i64 0, .int .i64 0], .int .i64 x]) ∧ Kept w w' := by
  have := File_any S hok a fd d w hS
  rw [fI, fM, fP, h, if_neg hx, if_neg hx, if_neg hx] at this
  exact this
theorem close_at (S : Tb) (fd x : Int) (h : cE S fd = x) (a : Nat) (w : World) (hS : TabP w a S) :
    Calls Try.prog 8 #[.pointer (some ⟨a, 0, none⟩), .int .i64 fd] w fun e w' => e = .returned (.int .i64 x) ∧ TabP w' a (cS S fd) ∧ But a w w' := by
  have := close_any S a fd w hS
  rwa [h] at this
def S0 : Tb := fun _ => .shut
theorem ok0 : Ok S0 := fun _ _ => trivial
set_option maxRecDepth 100000 in
set_option maxHeartbeats 1000000 in
theorem awake_any (w : World) : Calls Try.prog 12 #[] w fun e w' => e = .returned (.bool true) ∧ Kept w w' := by
  have H1 := hid (open_at S0 5 1 0 0 (by decide) (by decide))
  have H2 := hid (open_at (oS S0 5 1) 1 8 1 0 (by decide) (by decide))
  have H3 := hid (File_at (oS (oS S0 5 1) 1 8) ((ok0.opn 5 1).opn 1 8) 0 2 15 (by decide) (by decide))
  have H4 := hid (File_at (oS (oS S0 5 1) 1 8) ((ok0.opn 5 1).opn 1 8) 1 1 12 (by decide) (by decide))
  have H5 := hid (close_at (oS (oS S0 5 1) 1 8) 0 0 (by decide))
  have H6 := hid (open_at (cS (oS (oS S0 5 1) 1 8) 0) 7 3 0 0 (by decide) (by decide))
  have H7 := hid (open_at (oS (cS (oS (oS S0 5 1) 1 8) 0) 7 3) 5 4 0 1 (by decide) (by decide))
  go_enter Try.func12, Try.ntmps12
  go_wp2_with (go_at_call 6; refine (new_any _).mono ?_; rintro e w1 ⟨a, rfl, ha, hb, k1⟩; have T1 := hid (show TabP w1 a S0 from hb); have K1 := hid k1; have HA := hid ha; clear hb k1 ha)
  go_wp2_with (go_at_call 11; (with_reducible refine (H1.out _ _ T1.out).mono ?_); rintro e w2 ⟨rfl, hb, k⟩; have T2 := hid hb; have K2 := hid (K1.out.turned k HA.out); clear hb k)
  go_wp2_with (go_at_call 11; (with_reducible refine (H2.out _ _ T2.out).mono ?_); rintro e w3 ⟨rfl, hb, k⟩; have T3 := hid hb; have K3 := hid (K2.out.turned k HA.out); clear hb k)
  go_wp2_with (go_at_call 17; (with_reducible refine (H3.out _ _ T3.out).mono ?_); rintro e w4 ⟨rfl, k⟩; have T4 := hid (show TabP _ a _ from (k.blk T3.out).alloc (.cells #[.int .i64 0, .int .i64 0, .int .i64 0] 33)); have K4 := hid ((K3.out.trans k).alloc (.cells #[.int .i64 0, .int .i64 0, .int .i64 0] 33)); clear k)
  go_wp2_with (go_at_call 17; (with_reducible refine (H4.out _ _ T4.out).mono ?_); rintro e w5 ⟨rfl, k⟩; have T5 := hid (show TabP _ a _ from (k.blk T4.out).alloc (.cells #[.int .i64 0, .int .i64 0, .int .i64 0] 33)); have K5 := hid ((K4.out.trans k).alloc (.cells #[.int .i64 0, .int .i64 0, .int .i64 0] 33)); clear k)
  go_wp2_with (go_at_call 8; (with_reducible refine (H5.out _ _ T5.out).mono ?_); rintro e w6 ⟨rfl, hb, k⟩; have T6 := hid hb; have K6 := hid (K5.out.turned k HA.out); clear hb k)
  go_wp2_with (go_at_call 11; (with_reducible refine (H6.out _ _ T6.out).mono ?_); rintro e w7 ⟨rfl, hb, k⟩; have T7 := hid hb; have K7 := hid (K6.out.turned k HA.out); clear hb k)
  go_wp2_with (go_at_call 11; (with_reducible refine (H7.out _ _ T7.out).mono ?_); rintro e w8 ⟨rfl, hb, k⟩; have K8 := hid (K7.out.turned k HA.out); clear hb k)
  go_ret
  exact ⟨rfl, K8.out⟩
end Go.Proofs.Ythbnkoaigeffnaa
