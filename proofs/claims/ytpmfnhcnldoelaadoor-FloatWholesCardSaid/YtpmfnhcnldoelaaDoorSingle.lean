/- Contract of package float: Single. -/
import Derived.Test.YtpmfnhcnldoelaaDoorFlC
import Derived.Test.YtpmfnhcnldoelaaDoorExt
import Derived.Test.YtpmfnhcnldoelaaDoorMathSgl
namespace Go.Proofs.YtpmfnhcnldoelaaDoor
open Go.RowKit
/-- the NaN that a conversion answers -/
def nanAns (s : Nat) (w : World) : Nat := Question.cut (.nanConv .f64 s) (w.tape w.drawn (.nanConv .f64 s))
theorem nanAns_nan (s : Nat) (w : World) : nanAns s w < 18446744073709551616 ∧ cls (nanAns s w) = 16 := by
  unfold nanAns Question.cut
  generalize w.tape w.drawn (.nanConv .f64 s) = t
  simp only []
  have h1 : t % 2 ≤ 1 := by omega
  have h2 : (t / 2) % (2 ^ 52 - 1) < 4503599627370495 := Nat.mod_lt _ (by decide)
  generalize (t / 2) % (2 ^ 52 - 1) = q at h2
  refine ⟨by omega, ?_⟩
  rw [cls_16_iff]
  refine ⟨?_, by omega, by omega⟩
  unfold fin fe
  have e : (t % 2 * 2 ^ 63 + 9218868437227405312 + 1 + q) / 4503599627370496 % 2048 = 2047 := by omega
  simp only [e]
  rfl
theorem run_conv_nan (s : Nat) (hs : s < 4294967296) (h : sE s = 255 ∧ sM s ≠ 0) (w : World) :
    (convert 64 65 (.float .f32 s)).run Tryd.prog w = .ok (.float .f64 (nanAns s w)) w.drew := by
  have hr : FloatKind.f32.decode s = .nan (s / 2147483648 == 1) (sM s) := by
    show Ieee.single.read s = _
    rw [readS_inf hs h.1, if_neg h.2]
  simp [convert, run_underlying Tryd.underlying64, run_underlying Tryd.underlying65, Conv.floatToFloat, hr]
  rfl
set_option maxHeartbeats 400000 in
theorem Single_num (s V : Nat) (_hs : s < 4294967296) (w : World) (hT : Tab w) (hc : floatToFloatBits .f32 s .f64 = some V) (hV : V < 18446744073709551616) (hcan : canonF V = V) :
    Calls Tryd.prog 28 #[.int .u32 s] w fun e w' => e = .returned (.int .u64 V) ∧ Below w.heap.size w w' := by
  have hconv := fun w => run_convert_float_float (P := Tryd.prog) (w := w) 64 65 .f32 .f64 s V (by rw [Tryd.underlying64]; rfl) Tryd.underlying65 hc
  have HC := Lib.hid hcan
  clear hc hcan
  go_enter Tryd.func28, Tryd.ntmps28
  repeat any_goals (first | (go_at_call 18; refine (Canon_any V hV _ hT).mono ?_; rintro e w1 ⟨rfl, hb1⟩) | go_skip | go_guarded | go_step | go_upon | (dsimp only []))
  go_ret
  exact ⟨by simp [HC.out], by (repeat first | with_reducible exact Below.refl _ _ | with_reducible assumption | with_reducible refine Below.drew ?_ | with_reducible refine below_alloc ?_ _ | ((with_reducible refine Below.setCell ?_ ?_ _); rotate_left; (focus (first | with_reducible exact Nat.le_refl _ | (simp; done) | (simp; omega) | omega))) | (with_reducible refine below_trans ?_ (by assumption)))⟩
set_option maxHeartbeats 400000 in
theorem Single_nan (s : Nat) (hs : s < 4294967296) (w : World) (hT : Tab w) (h : sE s = 255 ∧ sM s ≠ 0) :
    Calls Tryd.prog 28 #[.int .u32 s] w fun e w' => e = .returned (.int .u64 9221120237041090560) ∧ Below w.heap.size w w' := by
  obtain ⟨n, hn1, hn2, hconv⟩ : ∃ n, n < 18446744073709551616 ∧ canonF n = 9221120237041090560 ∧ (convert 64 65 (.float .f32 s)).run Tryd.prog w = .ok (.float .f64 n) w.drew :=
    ⟨nanAns s w, (nanAns_nan s w).1, by unfold canonF; rw [if_pos (nanAns_nan s w).2], run_conv_nan s hs h w⟩
  have HC := Lib.hid hn2
  clear hn2 h
  go_enter Tryd.func28, Tryd.ntmps28
  repeat any_goals (first | (go_at_call 18; refine (Canon_any n hn1 _ hT.drew).mono ?_; rintro e w1 ⟨rfl, hb1⟩) | go_skip | go_guarded | go_step | go_upon | (dsimp only []))
  go_ret
  exact ⟨by simp [HC.out], by (repeat first | with_reducible exact Below.refl _ _ | with_reducible assumption | with_reducible refine Below.drew ?_ | with_reducible refine below_alloc ?_ _ | ((with_reducible refine Below.setCell ?_ ?_ _); rotate_left; (focus (first | with_reducible exact Nat.le_refl _ | (simp; done) | (simp; omega) | omega))) | (with_reducible refine below_trans ?_ (by assumption)))⟩
/-- **Single.** -/
theorem Single_any (s : Nat) (hs : s < 4294967296) (w : World) (hT : Tab w) :
    Calls Tryd.prog 28 #[.int .u32 s] w fun e w' => e = .returned (.int .u64 (singleV s : Nat)) ∧ Below w.heap.size w w' := by
  by_cases h : sE s = 255 ∧ sM s ≠ 0
  · have hv : singleV s = 9221120237041090560 := by unfold singleV; rw [if_pos h.1, if_neg h.2]
    rw [hv]
    exact Single_nan s hs w hT h
  · exact Single_num s (singleV s) hs w hT (conv_sgl hs h) (singleV_lt hs) (canon_sgl hs h)
end Go.Proofs.YtpmfnhcnldoelaaDoor
