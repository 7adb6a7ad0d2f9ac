/- Contract of package float: ToSingle. -/
import Derived.Test.YtpmfnhcnldoelaaDoorSingle
import Derived.Test.YtpmfnhcnldoelaaDoorMathTs
namespace Go.Proofs.YtpmfnhcnldoelaaDoor
open Go.RowKit
theorem finite_not16 {b : Nat} (hf : fe b ≠ 2047) : cls b ≠ 16 := by
  intro h
  have := (cls_16_iff.1 h).1
  rw [fin_iff.2 hf] at this
  cases this
theorem inf_not16 {b : Nat} (hb : b < 18446744073709551616) (hf : fe b = 2047) (hm : fm b = 0) : cls b ≠ 16 := by
  intro h
  obtain ⟨_, h1, h2⟩ := cls_16_iff.1 h
  unfold fe at hf
  unfold fm at hm
  omega
theorem nan_16 {b : Nat} (hf : fe b = 2047) (hm : fm b ≠ 0) : cls b = 16 := by
  rw [cls_16_iff]
  refine ⟨by unfold fin; rw [hf]; rfl, fun h => hm ?_, fun h => hm ?_⟩
  · rw [h]; decide
  · rw [h]; decide
set_option maxHeartbeats 400000 in
theorem ToSingle_nan (b : Nat) (hb : b < 18446744073709551616) (w : World) (hT : Tab w) (h : (cls b == 16) = true) :
    Calls Tryd.prog 22 #[.int .u64 b] w fun e w' => e = .returned (.tuple #[.int .u32 2143289344, .bool true]) ∧ Below w.heap.size w w' := by
  go_enter Tryd.func22, Tryd.ntmps22
  repeat any_goals (first | (go_at_call 14; refine (Class_any b hb _ hT).mono ?_; rintro e w1 ⟨rfl, hb1⟩) | go_skip | go_guarded | go_step | go_upon | (dsimp only []))
  go_ret2
  exact ⟨by simp, by (repeat first | with_reducible exact Below.refl _ _ | with_reducible assumption | with_reducible refine Below.drew ?_ | with_reducible refine below_alloc ?_ _ | ((with_reducible refine Below.setCell ?_ ?_ _); rotate_left; (focus (first | with_reducible exact Nat.le_refl _ | (simp; done) | (simp; omega) | omega))) | (with_reducible refine below_trans ?_ (by assumption)))⟩
set_option maxHeartbeats 400000 in
theorem ToSingle_yes (b r : Nat) (hb : b < 18446744073709551616) (w : World) (hT : Tab w) (h : (cls b == 16) = false) (hr : r < 4294967296) (hc : floatToFloatBits .f64 b .f32 = some r) (hv : singleV r = b) :
    Calls Tryd.prog 22 #[.int .u64 b] w fun e w' => e = .returned (.tuple #[.int .u32 r, .bool true]) ∧ Below w.heap.size w w' := by
  have hconv := fun w => run_convert_float_float (P := Tryd.prog) (w := w) 65 64 .f64 .f32 b r (by rw [Tryd.underlying65]; rfl) Tryd.underlying64 hc
  have t1 : (((singleV r : Nat) : Int) != (b : Int)) = false := by rw [hv]; simp
  clear hc hv
  go_enter Tryd.func22, Tryd.ntmps22
  repeat any_goals (first | (go_at_call 14; refine (Class_any b hb _ hT).mono ?_; rintro e w1 ⟨rfl, hb1⟩) | (go_at_call 28; refine (Single_any r hr _ (hT.below hb1)).mono ?_; rintro e w2 ⟨rfl, hb2⟩) | go_skip | go_guarded | go_step | go_upon | (dsimp only []))
  go_ret2
  exact ⟨by simp, by (repeat first | with_reducible exact Below.refl _ _ | with_reducible assumption | with_reducible refine Below.drew ?_ | with_reducible refine below_alloc ?_ _ | ((with_reducible refine Below.setCell ?_ ?_ _); rotate_left; (focus (first | with_reducible exact Nat.le_refl _ | (simp; done) | (simp; omega) | omega))) | (with_reducible refine below_trans ?_ (by assumption)))⟩
theorem wdrew_or {w w2 : World} (h : w2 = w ∨ w2 = w.drew) : Below w.heap.size w w2 := by
  rcases h with rfl | rfl
  · exact Below.refl _ _
  · exact (Below.refl _ _).drew
/-- the conversion of a finite float to 32 bits: some float of 32 bits -/
theorem run_conv_any (b : Nat) (hb : b < 18446744073709551616) (hf : fe b ≠ 2047) (w : World) : ∃ r w2, r < 4294967296 ∧ Below w.heap.size w w2 ∧
    (convert 65 64 (.float .f64 b)).run Tryd.prog w = .ok (.float .f32 r) w2 := by
  have hr : FloatKind.f64.decode b = .number (b / 9223372036854775808 == 1) (mant b) (plc b) := read_fin hb hf
  cases hi : (FloatKind.f32.decode (FloatKind.f32.encode (.number (b / 9223372036854775808 == 1) (mant b) (plc b)))).isInfinity with
  | false =>
    refine ⟨FloatKind.f32.encode (.number (b / 9223372036854775808 == 1) (mant b) (plc b)), w, Ieee.Format.write_lt Ieee.single _, Below.refl _ _, ?_⟩
    simp [convert, run_underlying Tryd.underlying64, run_underlying Tryd.underlying65, Conv.floatToFloat, hr, hi]
  | true =>
    refine ⟨Question.cut (.floatToFloat b) (w.tape w.drawn (.floatToFloat b)), w.drew, Nat.mod_lt _ (by decide), (Below.refl _ _).drew, ?_⟩
    simp [convert, run_underlying Tryd.underlying64, run_underlying Tryd.underlying65, Conv.floatToFloat, hr, hi]
    intro h
    simp [Question.forced] at h
set_option maxHeartbeats 400000 in
theorem ToSingle_no (b : Nat) (hb : b < 18446744073709551616) (w : World) (hT : Tab w) (h : (cls b == 16) = false) (hf : fe b ≠ 2047) (hn : ∀ r, r < 4294967296 → singleV r ≠ b) :
    Calls Tryd.prog 22 #[.int .u64 b] w fun e w' => e = .returned (.tuple #[.int .u32 0, .bool false]) ∧ Below w.heap.size w w' := by
  have HC := Lib.hid (run_conv_any b hb hf)
  have HN := Lib.hid hn
  clear hf hn
  go_enter Tryd.func22, Tryd.ntmps22
  go_upto_region 3 with (first | (go_at_call 14; refine (Class_any b hb _ hT).mono ?_; rintro e w1 ⟨rfl, hb1⟩))
  obtain ⟨r, w2, hr, hb2, hconv⟩ := HC.out w1
  have t1 : (((singleV r : Nat) : Int) != (b : Int)) = true := by
    have := HN.out r hr
    simp
    omega
  clear HC HN
  repeat any_goals (first | (go_at_call 28; refine (Single_any r hr _ ((hT.below hb1).below hb2)).mono ?_; rintro e w3 ⟨rfl, hb3⟩) | go_skip | go_guarded | go_step | go_upon | (dsimp only []))
  go_ret2
  exact ⟨by simp, by (repeat first | with_reducible exact Below.refl _ _ | with_reducible assumption | with_reducible refine Below.drew ?_ | with_reducible refine below_alloc ?_ _ | ((with_reducible refine Below.setCell ?_ ?_ _); rotate_left; (focus (first | with_reducible exact Nat.le_refl _ | (simp; done) | (simp; omega) | omega))) | (with_reducible refine below_trans ?_ (by assumption)))⟩
/-- **ToSingle.** -/
theorem ToSingle_any (b : Nat) (hb : b < 18446744073709551616) (w : World) (hT : Tab w) :
    Calls Tryd.prog 22 #[.int .u64 b] w fun e w' => e = .returned (.tuple #[.int .u32 (tsV b : Nat), .bool (tsOk b)]) ∧ Below w.heap.size w w' := by
  by_cases hf : fe b = 2047
  · have ho : tsOk b = true := by unfold tsOk; rw [hf]; rfl
    rw [ho]
    by_cases hm : fm b = 0
    · have hv : tsV b = b / 9223372036854775808 * 2147483648 + 2139095040 := by unfold tsV; rw [if_pos hf, if_pos hm]
      obtain ⟨q1, q2⟩ := inf_back hb hf hm
      have hc := conv_inf hb hf hm
      have h16 := inf_not16 hb hf hm
      rw [hv]
      exact ToSingle_yes b _ hb w hT (by simpa using h16) q1 hc q2
    · have hv : tsV b = 2143289344 := by unfold tsV; rw [if_pos hf, if_neg hm]
      have h16 := nan_16 hf hm
      rw [hv]
      exact ToSingle_nan b hb w hT (by simpa using h16)
  · have h16 := finite_not16 hf
    have h0 : (fe b == 2047) = false := by simpa using hf
    cases hr : repS (pm b) (pk b) with
    | true =>
      have ho : tsOk b = true := by unfold tsOk; rw [h0, hr]; rfl
      have hv : tsV b = sglOf b := by unfold tsV; rw [if_neg hf, if_pos hr]
      obtain ⟨q1, q2, q3⟩ := sglOf_back hb hf hr
      rw [ho, hv]
      exact ToSingle_yes b _ hb w hT (by simpa using h16) q1 (conv_rep hb hf hr) q3
    | false =>
      have ho : tsOk b = false := by unfold tsOk; rw [h0, hr]; rfl
      have hv : tsV b = 0 := by unfold tsV; rw [if_neg hf, if_neg (by rw [hr]; decide)]
      rw [ho, hv]
      refine ToSingle_no b hb w hT (by simpa using h16) hf ?_
      intro r hr2 hs
      have := sgl_only hr2 hf hs
      rw [hr] at this
      cases this
end Go.Proofs.YtpmfnhcnldoelaaDoor
