/- Contract of package float: parts. -/
import Derived.Test.YtminijokbeclhaaDoorGen
import Derived.Test.YtminijokbeclhaaDoorMathFl
namespace Go.Proofs.YtminijokbeclhaaDoor
open Go.RowKit
set_option maxHeartbeats 400000 in
theorem parts_inf (b : Nat) (_hb : b < 18446744073709551616) (w : World) (e1 : bits BinOp.and IntKind.u64 ((b : Int) / 4503599627370496) 2047 = 2047) :
    Calls Tryd.prog 76 #[.int .u64 b] w fun e w' => e = .returned (.tuple #[.int .u64 0, .int .i64 0, .bool false]) ∧ w = w' := by
  go_enter Tryd.func76, Tryd.ntmps76
  go_wp2_with fail
  go_ret3
  exact ⟨rfl, rfl⟩
set_option maxHeartbeats 400000 in
theorem parts_zero (b : Nat) (_hb : b < 18446744073709551616) (w : World) (e1 : bits BinOp.and IntKind.u64 ((b : Int) / 4503599627370496) 2047 = 0) (e2 : bits BinOp.and IntKind.u64 (b : Int) 4503599627370495 = 0) :
    Calls Tryd.prog 76 #[.int .u64 b] w fun e w' => e = .returned (.tuple #[.int .u64 0, .int .i64 0, .bool true]) ∧ w = w' := by
  go_enter Tryd.func76, Tryd.ntmps76
  go_wp2_with fail
  go_ret3
  exact ⟨rfl, rfl⟩
set_option maxHeartbeats 400000 in
theorem parts_sub (b : Nat) (_hb : b < 18446744073709551616) (w : World) (hT : Tab w) (M : Nat) (hM : M < 18446744073709551616) (hM0 : 0 < M) (hm : ((M : Int) == 0) = false) (ht : tz M ≤ 63) (e1 : bits BinOp.and IntKind.u64 ((b : Int) / 4503599627370496) 2047 = 0) (e2 : bits BinOp.and IntKind.u64 (b : Int) 4503599627370495 = (M : Int)) :
    Calls Tryd.prog 76 #[.int .u64 b] w fun e w' => e = .returned (.tuple #[.int .u64 ((M : Int) / 2 ^ tz M), .int .i64 (-1074 + (tz M : Int)), .bool true]) ∧ w = w' := by
  go_enter Tryd.func76, Tryd.ntmps76
  go_wp2_with (first | (go_at_call 102; refine (Tz64_any M hM0 hM _ hT).mono ?_; rintro e w' ⟨rfl, rfl⟩))
  go_ret3
  exact ⟨rfl, rfl⟩
set_option maxHeartbeats 400000 in
theorem parts_norm (b : Nat) (_hb : b < 18446744073709551616) (w : World) (hT : Tab w) (f m M : Nat) (hM : M < 18446744073709551616) (hM0 : 0 < M) (hm : ((M : Int) == 0) = false) (ht : tz M ≤ 63) (hf1 : 1 ≤ f) (hf2 : f ≤ 2046) (t1 : ((f : Int) == 2047) = false) (t2 : ((f : Int) == 0) = false) (e1 : bits BinOp.and IntKind.u64 ((b : Int) / 4503599627370496) 2047 = f) (e2 : bits BinOp.and IntKind.u64 (b : Int) 4503599627370495 = (m : Int)) (e3 : bits BinOp.or IntKind.u64 (m : Int) 4503599627370496 = (M : Int)) :
    Calls Tryd.prog 76 #[.int .u64 b] w fun e w' => e = .returned (.tuple #[.int .u64 ((M : Int) / 2 ^ tz M), .int .i64 ((f : Int) - 1075 + (tz M : Int)), .bool true]) ∧ w = w' := by
  go_enter Tryd.func76, Tryd.ntmps76
  go_wp2_with (first | (go_at_call 102; refine (Tz64_any M hM0 hM _ hT).mono ?_; rintro e w' ⟨rfl, rfl⟩))
  go_ret3
  exact ⟨rfl, rfl⟩
/-- **parts.** -/
theorem parts_any (b : Nat) (hb : b < 18446744073709551616) (w : World) (hT : Tab w) :
    Calls Tryd.prog 76 #[.int .u64 b] w fun e w' => e = .returned (.tuple #[.int .u64 (pm b : Nat), .int .i64 (pk b), .bool (fin b)]) ∧ w = w' := by
  have e1 := wfe hb
  have e2 := wand52 hb
  have h1 := fm_lt b
  have h2 := tz_mant b
  have h3 := mant_lt b
  by_cases c1 : fe b = 2047
  · rw [c1] at e1
    refine (parts_inf b hb w e1).mono ?_
    rintro e w' ⟨rfl, rfl⟩
    simp [pm, pk, fin, c1]
  · by_cases c2 : fe b = 0
    · have em : mant b = fm b := by simp [mant, c2]
      rw [c2] at e1
      by_cases c3 : fm b = 0
      · rw [c3] at e2
        refine (parts_zero b hb w e1 e2).mono ?_
        rintro e w' ⟨rfl, rfl⟩
        simp [pm, pk, fin, c2, em, c3]
      · rw [em] at h2
        refine (parts_sub b hb w hT (fm b) (by omega) (by omega) (by simp; omega) (by omega) e1 e2).mono ?_
        rintro e w' ⟨rfl, rfl⟩
        refine ⟨?_, rfl⟩
        rw [wdivpow]
        simp [pm, pk, fin, c2, em, c3]
    · have em : mant b = fm b + 4503599627370496 := by simp [mant, c2]
      have e3 := wor52 h1
      rw [em] at h2
      have h4 := fe_le b
      refine (parts_norm b hb w hT (fe b) (fm b) (fm b + 4503599627370496) (by omega) (by omega) (by simp; omega) (by omega) (by omega) (by omega) (by simp; omega) (by simp; omega) e1 e2 e3).mono ?_
      rintro e w' ⟨rfl, rfl⟩
      refine ⟨?_, rfl⟩
      rw [wdivpow]
      simp [pm, pk, fin, c1, c2, em]
end Go.Proofs.YtminijokbeclhaaDoor
