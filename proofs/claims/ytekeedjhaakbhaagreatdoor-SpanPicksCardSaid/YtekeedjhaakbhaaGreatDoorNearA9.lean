/- Contract of the document's Near, by the number. IBOX -/
import Derived.Test.YtekeedjhaakbhaaGreatDoorRhYB9
namespace Go.Proofs.YtekeedjhaakbhaaGreatDoor
open Go.RowKit
theorem ex_cells' (up n : Bool) (V : Nat) : sg (ex up n V) = (n && (mayI n V && decide (exV V (up != n) < 2 ^ 256)) && (exV V (up != n) != 0)) ∧ ab (ex up n V) = if (mayI n V && decide (exV V (up != n) < 2 ^ 256)) = true then exV V (up != n) else 0 := ex_cells up n V
theorem neC (n : Bool) (V : Nat) (hV : V < 2 ^ 256) (x : Bool) (hm : mayI n V = true) (hx : decide (exN V) = x) : NeC n V x := by
  refine ⟨fun w => ?_, fun w => ?_, fun w => DOf_any V hV w, fun v w h => LenI_any v V w h, fun w => ?_, fun v1 v2 w h1 h2 => AddI_any v1 v2 _ 1 w h1 h2 (by decide) (by decide)⟩
  · have h := RMayI_any n V hV w
    rw [hm] at h
    exact h
  · have h := RExact_any n V hV w
    rw [exactI_eq, hm, hx, Bool.true_and] at h
    exact h
  · exact Pow_any 53 (by decide) w
theorem dl_1000 {B : Nat} (h : B < 2 ^ 256) : dl B ≤ 1000 := Nat.le_trans ((dl_le_iff B 8).2 h) (by decide)
/-- **Near**, of exact ones. -/
theorem NearE_any (n up : Bool) (V : Nat) (hV : V < 2 ^ 256) (w : World) :
    Calls Tryz.prog 21 #[.agg #[.bool (n ), .int .u64 (lm ( V) 0 : Nat), .int .u64 (lm ( V) 1 : Nat), .int .u64 (lm ( V) 2 : Nat), .int .u64 (lm ( V) 3 : Nat)], .bool up, .bool true] w fun e w' => e = .returned (.tuple #[.agg #[.bool (sg (ex up n V) ), .int .u64 (lm ( ab (ex up n V)) 0 : Nat), .int .u64 (lm ( ab (ex up n V)) 1 : Nat), .int .u64 (lm ( ab (ex up n V)) 2 : Nat), .int .u64 (lm ( ab (ex up n V)) 3 : Nat)], .bool (exOk up n V)]) ∧ Below w.heap.size w w' := by
  cases hm : mayI n V with
  | false =>
    have M := RMayI_any n V hV
    rw [hm] at M
    have e : exOk up n V = false := by unfold exOk; rw [hm]; rfl
    have e2 : ex up n V = 0 := by unfold ex; rw [e]; rfl
    rw [e, e2]
    exact Near_no n up true V w (Lib.hid M)
  | true =>
    by_cases hx : exN V
    · have hc := exN_iff.1 hx
      have e : exV V (up != n) = V := by
        unfold exV
        rw [if_neg (fun h => h.2 hc), hc]
      have o : exOk up n V = true := by
        unfold exOk
        rw [hm, e, decide_eq_true hV]
        rfl
      have e2 : ex up n V = zI n V := by unfold ex; rw [if_pos o, e]
      rw [o, e2, sg_zI hm, ab_zI]
      exact Near_same n up true V w (Lib.hid (neC n V hV true hm (decide_eq_true hx)))
    · have hc : cutV V ≠ V := fun h => hx (exN_iff.2 h)
      have hb : 53 < bl V := by
        by_cases c : 53 < bl V
        · exact c
        · exact absurd (.inr (by omega)) hx
      have hb2 := (bl_le_iff V 256).2 hV
      have hkv : kV V = bl V - 53 := rfl
      have hA : V / 2 ^ kV V ≤ V := Nat.div_le_self _ _
      have hA53 : V / 2 ^ kV V < 2 ^ 53 := by
        rw [Nat.div_lt_iff_lt_mul (Nat.two_pow_pos _), ← Nat.pow_add]
        exact Nat.lt_of_lt_of_le (lt_two_pow_bl V) (Nat.pow_le_pow_right (by decide) (by omega))
      have S1 : ∀ (v : Value) (w : World), IsD w v V → Calls Tryz.prog 47 #[v, .int .i64 (-(kV V : Int))] w fun e w' => ∃ v', e = .returned v' ∧ IsD w' v' (V / 2 ^ kV V) ∧ Below w.heap.size w w' := fun v w h => by
        have k := ShiftI_any v V (-(kV V : Int)) w h (dl_1000 (by omega)) (by omega) (by omega)
        unfold shI at k
        rw [if_neg (by omega), show (-(-(kV V : Int))).toNat = kV V from by omega] at k
        exact k
      have S3 : ∀ B : Nat, B < 2 ^ 256 → ∀ (v : Value) (w : World), IsD w v B → Calls Tryz.prog 47 #[v, .int .i64 (kV V : Int)] w fun e w' => ∃ v', e = .returned v' ∧ IsD w' v' (B * 2 ^ kV V) ∧ Below w.heap.size w w' := fun B hB v w h => by
        have k := ShiftI_any v B (kV V : Int) w h (dl_1000 hB) (by omega) (by omega)
        unfold shI at k
        rw [if_pos (by omega), show ((kV V : Nat) : Int).toNat = kV V from by omega] at k
        exact k
      have S2 : ∀ (v1 v2 : Value) (w : World), IsD w v1 (V / 2 ^ kV V) → IsD w v2 1 → Calls Tryz.prog 48 #[v1, v2] w fun e w' => ∃ v, e = .returned v ∧ IsD w' v (V / 2 ^ kV V + 1) ∧ Below w.heap.size w w' := fun v1 v2 w h1 h2 => AddI_any v1 v2 _ 1 w h1 h2 (dl_1000 (by omega)) (by decide)
      have C := neC n V hV false hm (decide_eq_false hx)
      have w1 : wrap64 ((kV V : Nat) : Int) = ((kV V : Nat) : Int) := by simp only [wrap64]; omega
      have w2 : wrap64 (-((kV V : Nat) : Int)) = -((kV V : Nat) : Int) := by simp only [wrap64]; omega
      obtain ⟨g1, g2⟩ := ex_cells up n V
      have g3 : exOk up n V = decide (exV V (up != n) < 2 ^ 256) := by unfold exOk; rw [hm, Bool.true_and]
      have K : ∀ Q : Nat, Q = exV V (up != n) → ∀ (v : Value) (w : World), IsD w v Q → Calls Tryz.prog 49 #[.bool n, v] w fun e w' => e = .returned (.tuple #[.agg #[.bool (sg (ex up n V) ), .int .u64 (lm ( ab (ex up n V)) 0 : Nat), .int .u64 (lm ( ab (ex up n V)) 1 : Nat), .int .u64 (lm ( ab (ex up n V)) 2 : Nat), .int .u64 (lm ( ab (ex up n V)) 3 : Nat)], .bool (exOk up n V)]) ∧ Below w.heap.size w w' := fun Q hQ v w h => by
        have k := Rwhole_any v n Q w h
        rw [g1, g2, g3, hm, Bool.true_and, ← hQ]
        by_cases d : Q < 2 ^ 256
        · rw [decide_eq_true d, if_pos rfl]
          rw [decide_eq_true d, if_pos d] at k
          exact k
        · rw [decide_eq_false d, if_neg Bool.false_ne_true]
          rw [decide_eq_false d, if_neg d] at k
          exact k
      by_cases hu : up = n
      · have hu2 : (up == n) = true := by simpa using hu
        have hu3 : (up != n) = false := by simpa using hu
        refine Near_cut_in n up V (V / 2 ^ kV V) (V / 2 ^ kV V + 1) (V / 2 ^ kV V * 2 ^ kV V) _ (kV V) _ _ w hu2 (by omega) w1 w2 (Lib.hid C) (Lib.hid S1) (Lib.hid S2) (Lib.hid (S3 _ (by omega))) (Lib.hid (K _ ?_))
        rw [hu3]
        rfl
      · have hu2 : (up == n) = false := by simpa using hu
        have hu3 : (up != n) = true := by simpa using hu
        refine Near_cut_out n up V (V / 2 ^ kV V) (V / 2 ^ kV V + 1) ((V / 2 ^ kV V + 1) * 2 ^ kV V) _ (kV V) _ _ w hu2 (by omega) w1 w2 (Lib.hid C) (Lib.hid S1) (Lib.hid S2) (Lib.hid (S3 _ (by omega))) (Lib.hid (K _ ?_))
        rw [hu3]
        have e : exV V true = cutV V + 2 ^ kV V := if_pos ⟨rfl, hc⟩
        rw [e]
        unfold cutV
        rw [Nat.add_mul, Nat.one_mul]
theorem odd_any (n up : Bool) (P : Nat) (hP : P < 2 ^ 256) (hx : ¬ exN P) (w : World) : Calls Tryz.prog 51 #[.agg #[.bool (n ), .int .u64 (lm ( P) 0 : Nat), .int .u64 (lm ( P) 1 : Nat), .int .u64 (lm ( P) 2 : Nat), .int .u64 (lm ( P) 3 : Nat)], .bool true, .bool up] w fun e w' => e = .returned (.tuple #[.agg #[.bool (n ), .int .u64 (lm ( P) 0 : Nat), .int .u64 (lm ( P) 1 : Nat), .int .u64 (lm ( P) 2 : Nat), .int .u64 (lm ( P) 3 : Nat)], .bool true]) ∧ Below w.heap.size w w' := by
  refine odd_walk n up P w (Lib.hid fun w => ?_)
  have h := RExact_any n P hP w
  rw [exactI_eq, decide_eq_false hx, Bool.and_false] at h
  exact h
theorem whole_ok (n : Bool) (P : Nat) (hP : P < 2 ^ 256) (h0 : P ≠ 0) (v : Value) (w : World) (h : IsD w v P) : Calls Tryz.prog 49 #[.bool n, v] w fun e w' => e = .returned (.tuple #[.agg #[.bool (n ), .int .u64 (lm ( P) 0 : Nat), .int .u64 (lm ( P) 1 : Nat), .int .u64 (lm ( P) 2 : Nat), .int .u64 (lm ( P) 3 : Nat)], .bool true]) ∧ Below w.heap.size w w' := by
  have k := Rwhole_any v n P w h
  rw [decide_eq_true hP, if_pos hP, show (P != 0) = true from by simpa using h0, Bool.and_true, Bool.and_true] at k
  exact k
/-- **Near**, of those that are not exact. -/
theorem NearR_any (n up : Bool) (V : Nat) (hV : V < 2 ^ 256) (w : World) :
    Calls Tryz.prog 21 #[.agg #[.bool (n ), .int .u64 (lm ( V) 0 : Nat), .int .u64 (lm ( V) 1 : Nat), .int .u64 (lm ( V) 2 : Nat), .int .u64 (lm ( V) 3 : Nat)], .bool up, .bool false] w fun e w' => e = .returned (.tuple #[.agg #[.bool (sg (rg up n V) ), .int .u64 (lm ( ab (rg up n V)) 0 : Nat), .int .u64 (lm ( ab (rg up n V)) 1 : Nat), .int .u64 (lm ( ab (rg up n V)) 2 : Nat), .int .u64 (lm ( ab (rg up n V)) 3 : Nat)], .bool (mayI n V)]) ∧ Below w.heap.size w w' := by
  cases hm : mayI n V with
  | false =>
    have M := RMayI_any n V hV
    rw [hm] at M
    rw [rg_no hm]
    exact Near_no n up false V w (Lib.hid M)
  | true =>
    rw [rg_z hm]
    by_cases hx : exN V
    · have C := neC n V hV true hm (decide_eq_true hx)
      have hz : exZ (zI n V) = true := by unfold exZ; rw [ab_zI]; exact decide_eq_true hx
      have hev := fun h => exN_even (V := V) h hx
      have hmax : V + 1 < 2 ^ 256 := by
        have := exZ_max hz (by rw [ab_zI]; exact hV)
        rw [ab_zI] at this
        exact this
      have A : ∀ (v1 v2 : Value) (w : World), IsD w v1 V → IsD w v2 1 → Calls Tryz.prog 48 #[v1, v2] w fun e w' => ∃ v, e = .returned v ∧ IsD w' v (V + 1) ∧ Below w.heap.size w w' := fun v1 v2 w h1 h2 => AddI_any v1 v2 V 1 w h1 h2 (dl_1000 (by omega)) (by decide)
      have hb53 := bl_le_iff V 53
      have KC : ∀ (v1 v2 : Value) (w : World), IsD w v1 V → IsD w v2 9007199254740993 → Calls Tryz.prog 46 #[v1, v2] w fun e w' => e = .returned (.int .i64 (cmpV V 9007199254740993)) ∧ Below w.heap.size w w' := fun v1 v2 w h1 h2 => CmpI_any v1 v2 V _ w h1 h2
      have fin : ∀ (s : Bool) (P : Nat), P ≠ 0 → rgZ up (zI n V) = zI s P → sg (rgZ up (zI n V)) = s ∧ ab (rgZ up (zI n V)) = P := fun s P h0 h => by
        rw [h, ab_zI, sg_of, show (P != 0) = true from by simpa using h0, Bool.and_true]
        exact ⟨rfl, rfl⟩
      by_cases hu : up = n
      · have hu2 : (up == n) = true := by simpa using hu
        subst hu
        by_cases c : V < 9007199254740993
        · have hr : rgZ up (zI up V) = zI (!up) 9007199254740993 := by
            unfold rgZ
            rw [if_pos hz]
            cases up with
            | true =>
              have hp := may_true.1 hm
              rw [if_pos rfl, if_pos (by rw [zI_true]; omega)]
              rfl
            | false =>
              rw [if_neg Bool.false_ne_true, if_pos (by rw [zI_false]; omega)]
              rfl
          obtain ⟨f1, f2⟩ := fin (!up) _ (by decide) hr
          rw [f1, f2]
          have hcm : cmpV V 9007199254740993 = -1 := if_pos c
          rw [hcm] at KC
          exact Near_least_in up up (!up) V _ _ _ w hu2 rfl (-1) (by decide) (Lib.hid KC) (Lib.hid C) (Lib.hid (whole_ok (!up) _ (by decide) (by decide)))
        · have hpos : 9007199254740992 < V := by omega
          have hP0 : V - 1 ≠ 0 := by omega
          have hr : rgZ up (zI up V) = zI up (V - 1) := by
            unfold rgZ
            rw [if_pos hz]
            cases up with
            | true =>
              rw [if_pos rfl, if_neg (by rw [zI_true]; omega), zI_true, zI_true]
              omega
            | false =>
              rw [if_neg Bool.false_ne_true, if_neg (by rw [zI_false]; omega), zI_false, zI_false]
              omega
          obtain ⟨f1, f2⟩ := fin up _ hP0 hr
          rw [f1, f2]
          have S : ∀ (v1 v2 : Value) (w : World), IsD w v1 V → IsD w v2 1 → Calls Tryz.prog 52 #[v1, v2] w fun e w' => ∃ v, e = .returned v ∧ IsD w' v (V - 1) ∧ Below w.heap.size w w' := fun v1 v2 w h1 h2 => SubI_any v1 v2 V 1 w h1 h2 (dl_1000 (by omega)) (by omega)
          have hcm : 0 ≤ cmpV V 9007199254740993 := by
            unfold cmpV
            rw [if_neg c]
            split <;> omega
          have he := hev hpos
          exact Near_step_in up up V (V - 1) _ _ w hu2 _ hcm (Lib.hid KC) (Lib.hid C) (Lib.hid S) (Lib.hid (whole_ok up _ (by omega) hP0)) (Lib.hid (odd_any up up _ (by omega) (exN_odd (by omega) (by omega))))
      · have hu2 : (up == n) = false := by simpa using hu
        by_cases c : bl V ≤ 53
        · have hlt := hb53.1 c
          have hr : rgZ up (zI n V) = zI n 9007199254740993 := by
            unfold rgZ
            rw [if_pos hz]
            cases up with
            | true =>
              cases n with
              | true => exact absurd rfl hu
              | false =>
                rw [if_pos rfl, if_pos (by rw [zI_false]; omega)]
                rfl
            | false =>
              cases n with
              | true =>
                rw [if_neg Bool.false_ne_true, if_pos (by rw [zI_true]; omega)]
                rfl
              | false => exact absurd rfl hu
          obtain ⟨f1, f2⟩ := fin n _ (by decide) hr
          rw [f1, f2]
          exact Near_least_out n up n V _ _ _ w hu2 rfl (by omega) (Lib.hid C) (Lib.hid (whole_ok n _ (by decide) (by decide)))
        · have hge : ¬ V < 2 ^ 53 := fun h => c (hb53.2 h)
          have hr : rgZ up (zI n V) = zI n (V + 1) := by
            unfold rgZ
            rw [if_pos hz]
            cases up with
            | true =>
              cases n with
              | true => exact absurd rfl hu
              | false =>
                rw [if_pos rfl, if_neg (by rw [zI_false]; omega), zI_false, zI_false]
                omega
            | false =>
              cases n with
              | true =>
                rw [if_neg Bool.false_ne_true, if_neg (by rw [zI_true]; omega), zI_true, zI_true]
                omega
              | false => exact absurd rfl hu
          obtain ⟨f1, f2⟩ := fin n _ (Nat.succ_ne_zero V) hr
          rw [f1, f2]
          have hev2 : V % 2 = 0 := by
            by_cases d : 9007199254740992 < V
            · exact hev d
            · have : V = 9007199254740992 := by omega
              omega
          exact Near_step_out n up V (V + 1) _ _ w hu2 (by omega) (Lib.hid C) (Lib.hid A) (Lib.hid (whole_ok n _ hmax (Nat.succ_ne_zero V))) (Lib.hid (odd_any n up _ hmax (exN_odd (by omega) (by omega))))
    · have hz : exZ (zI n V) = false := by unfold exZ; rw [ab_zI]; exact decide_eq_false hx
      have e : rgZ up (zI n V) = zI n V := by unfold rgZ; rw [if_neg (by rw [hz]; exact Bool.false_ne_true)]
      rw [e, sg_zI hm, ab_zI]
      exact Near_same n up false V w (Lib.hid (neC n V hV false hm (decide_eq_false hx)))
end Go.Proofs.YtekeedjhaakbhaaGreatDoor
