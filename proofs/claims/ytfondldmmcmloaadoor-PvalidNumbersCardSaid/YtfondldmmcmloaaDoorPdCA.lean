/- The root of the texts that PvalidNumbers and PvalidZeros lean on. -/
import Derived.Test.YtfondldmmcmloaaDoorPd29
namespace Go.Proofs.YtfondldmmcmloaaDoor
open Go Go.RowKit
/-- what the two laws call -/
structure Rt23 (w : World) : Prop where
  c1 : U8T w → Tab w → Calls Tryd.prog 8 #[] w fun e w' => e = .returned (.bool true) ∧ Below w.heap.size w w'
  c2 : ∀ s : ByteArray, s.size ≤ 8192 → Calls Tryd.prog 5 #[.string s] w fun e w' => LoadQ s w e w'
  c3 : ∀ (M : Nat → PM) (a : Option Addr) (n c : Nat) (T : VT), PL w a n c M → T.In w → U8T w → Tab w → T.nodes < 4611686018427387904 → Calls Tryd.prog 9 #[.slice a n c, T.agg] w fun e w' => e = .returned (.bool (validB M n T)) ∧ Below w.heap.size w w'
  c4 : ∀ (M : Nat → PM) (a : Option Addr) (n c : Nat) (T : VT), PL w a n c M → T.In w → U8T w → Tab w → T.nodes < 4611686018427387904 → Calls Tryd.prog 10 #[.slice a n c, T.agg] w (NormQ w T ((nrm2 M n T).msg (M 0)) (validB M n T))
  c5 : ∀ T U : VT, T.In w → U.In w → Calls Tryd.prog 11 #[T.agg, U.agg] w fun e w' => e = .returned (.bool (T.sameB U)) ∧ Below w.heap.size w w'
  c6 : ∀ v : Int, -9223372036854775808 ≤ v → v < 9223372036854775808 → Calls Tryd.prog 6 #[.int .i64 v] w fun e w' => e = .returned (.agg #[.bool (sg v ), .int .u64 (lm ( ab v) 0 : Nat), .int .u64 (lm ( ab v) 1 : Nat), .int .u64 (lm ( ab v) 2 : Nat), .int .u64 (lm ( ab v) 3 : Nat)]) ∧ Below w.heap.size w w'
  c7 : ∀ u : Nat, u < 18446744073709551616 → Calls Tryd.prog 7 #[.int .u64 (u : Int)] w fun e w' => e = .returned (.agg #[.bool (false ), .int .u64 (lm ( u) 0 : Nat), .int .u64 (lm ( u) 1 : Nat), .int .u64 (lm ( u) 2 : Nat), .int .u64 (lm ( u) 3 : Nat)]) ∧ Below w.heap.size w w'
theorem rt23 (w : World) : Rt23 w :=
  ⟨told23_any w, fun s hs => RLoad_any s hs w, fun M a n c T => PValidM_any M a n c T w, fun M a n c T => PNormV_any M a n c T w, fun T U => RSame_any T U w, fun v h0 h1 => ROfI_any v h0 h1 w, fun u hu => ROfU_any u hu w⟩
/-- names that the two laws' own proofs use besides -/
theorem rt23_more : True := by
  have _ := @sim_mk
  have _ := @may_right
  have _ := @Sim.self
  have _ := @NormQ.sim
  have _ := @any_off
  have _ := @vbx_new
  have _ := @set_far
  have _ := @rec_in
  have _ := @flat_in
  have _ := @right_self
  have _ := @long_parts
  have _ := @VT.In.lit
  have _ := @zeroT_in
  have _ := @nrm_msg
  have _ := @nrm_all
  have _ := @okT_msg
  have _ := @okT_one
  have _ := @okT_all
  have _ := @mayI_sgz
  have _ := @zI_sgz
  trivial
end Go.Proofs.YtfondldmmcmloaaDoor
