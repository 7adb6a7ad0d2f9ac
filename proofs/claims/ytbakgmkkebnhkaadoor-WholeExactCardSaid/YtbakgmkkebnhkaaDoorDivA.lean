/- Contract of math/bits.Div64. -/
import Derived.Test.YtbakgmkkebnhkaaDoorMathDiv
import Derived.Test.YtbakgmkkebnhkaaDoorGen
namespace Go.Proofs.YtbakgmkkebnhkaaDoor
open Go.RowKit
set_option maxRecDepth 20000 in
set_option maxHeartbeats 400000 in
theorem Div64_zero (lo y : Nat) (hl : lo < 18446744073709551616) (hy : 0 < y) (hy2 : y < 18446744073709551616) (w : World) :
    Calls Tryd.prog 82 #[.int .u64 0, .int .u64 (lo : Int), .int .u64 (y : Int)] w fun e w' => e = .returned (.tuple #[.int .u64 (lo / y : Nat), .int .u64 (lo % y : Nat)]) ∧ Below w.heap.size w w' := by
  obtain ⟨q, hq⟩ : ∃ q, q = lo / y := ⟨_, rfl⟩
  obtain ⟨r, hr⟩ : ∃ q, q = lo % y := ⟨_, rfl⟩
  have e1 : (lo : Int) / (y : Int) = (q : Int) := by rw [hq]; rfl
  have e3 : IntKind.u64.wrap (q : Int) = (q : Int) := by
    rw [IntKind.wrap_u64, hq]
    have := Nat.div_le_self lo y
    omega
  have e2 : (lo : Int) % (y : Int) = (r : Int) := by rw [hr]; rfl
  rw [← hq, ← hr]
  clear hq hr
  go_enter Tryd.func82, Tryd.ntmps82
  repeat any_goals (first | go_skip | go_guarded | go_step | go_upon | (simp only []; done))
  go_region
  repeat any_goals (first | go_skip | go_guarded | go_step | go_upon | (simp only []; done))
  refine bodyPost_ret (v := .tuple #[.int .u64 (q : Int), .int .u64 (r : Int)]) ?_ rfl ⟨rfl, by (repeat first | with_reducible exact Below.refl _ _ | with_reducible assumption | with_reducible refine Below.drew ?_ | with_reducible refine below_alloc ?_ _ | ((with_reducible refine Below.setCell ?_ ?_ _); rotate_left; (focus (first | with_reducible exact Nat.le_refl _ | (simp; done) | (simp; omega) | omega))) | (with_reducible refine below_trans ?_ (by assumption)))⟩
  simp [results, Tryd.results82, go_sem, e2]
/-- the numbers of the division: z the divisor moved to the top, u v1 v0 what is divided, Q1 R1 the first digit and its rest, Q0 R0 the second's -/
structure DivF (u v1 v0 z z1 z0 Q1 R1 Q0 R0 : Nat) : Prop where
  hz : 9223372036854775808 ≤ z
  hz2 : z < 18446744073709551616
  e1 : z1 = z / 4294967296
  e0 : z0 = z % 4294967296
  hu : u < z
  hv1 : v1 < 4294967296
  hv0 : v0 < 4294967296
  eQ1 : Q1 = (u * 4294967296 + v1) / z
  eR1 : R1 = (u * 4294967296 + v1) % z
  eQ0 : Q0 = (R1 * 4294967296 + v0) / z
  eR0 : R0 = (R1 * 4294967296 + v0) % z
/-- one round of the search: q, r: the digit and what is left; d: the next digit of what is divided -/
theorem div_round {u d z z1 z0 q r : Nat} (hz : 9223372036854775808 ≤ z) (hz2 : z < 18446744073709551616) (e1 : z1 = z / 4294967296) (e0 : z0 = z % 4294967296) (hu : u < z) (hd : d < 4294967296)
    (I : DivI u d z q r) (hr : r < 4294967296) :
    (4294967296 ≤ q ∨ 4294967296 * r + d < q * z0 → 1 ≤ q ∧ DivI u d z (q - 1) (r + z1) ∧ r + z1 < 8589934592 ∧ (4294967296 ≤ r + z1 → q - 1 = (u * 4294967296 + d) / z)) ∧
    (¬ 4294967296 ≤ q → ¬ 4294967296 * r + d < q * z0 → q = (u * 4294967296 + d) / z) := by
  subst e1
  subst e0
  refine ⟨fun h => ?_, fun h1 h2 => div_done hz hd I (by omega)⟩
  obtain ⟨a, b⟩ := div_step hz hu hd I hr h
  refine ⟨a, b, by omega, fun h3 => div_done hz hd b (div_break (_u := u) hz2 ?_ h3)⟩
  have := I.l
  omega
set_option maxRecDepth 20000 in
set_option maxHeartbeats 1600000 in
theorem Div64_walk (hi lo y s z z1 z0 h1 l1 u v v1 v0 Q1 R1 Q0 R0 R : Nat) (hh : 0 < hi) (hhy : hi < y) (w : World) (hs : s ≤ 63)
    (ez : IntKind.u64.wrap ((y : Int) * 2 ^ s) = (z : Int)) (ez1 : (z : Int) / 4294967296 = (z1 : Int)) (ez0 : bits BinOp.and IntKind.u64 (z : Int) 4294967295 = (z0 : Int)) (hz1 : ¬ z1 = 0)
    (eh : IntKind.u64.wrap ((hi : Int) * 2 ^ s) = (h1 : Int)) (el : (lo : Int) / 2 ^ (64 - s) = (l1 : Int)) (eu : bits BinOp.or IntKind.u64 (h1 : Int) (l1 : Int) = (u : Int))
    (ev : IntKind.u64.wrap ((lo : Int) * 2 ^ s) = (v : Int)) (ev1 : (v : Int) / 4294967296 = (v1 : Int)) (ev0 : bits BinOp.and IntKind.u64 (v : Int) 4294967295 = (v0 : Int)) (eR : (R0 : Int) / 2 ^ s = (R : Int))
    (F : Hid (DivF u v1 v0 z z1 z0 Q1 R1 Q0 R0))
    (C : Hid (∀ w, Calls Tryd.prog 93 #[.int .u64 (y : Int)] w fun e w' => e = .returned (.int .i64 (s : Int)) ∧ w' = w)) :
    Calls Tryd.prog 82 #[.int .u64 (hi : Int), .int .u64 (lo : Int), .int .u64 (y : Int)] w fun e w' => e = .returned (.tuple #[.int .u64 (Q1 * 4294967296 + Q0 : Nat), .int .u64 (R : Int)]) ∧ Below w.heap.size w w' := by
  -- LOOPS
  obtain ⟨qs, hqs⟩ : ∃ q, q = u / z1 := ⟨_, rfl⟩
  obtain ⟨rs, hrs⟩ : ∃ q, q = u - u / z1 * z1 := ⟨_, rfl⟩
  obtain ⟨ms, hms⟩ : ∃ q, q = qs * z1 := ⟨_, rfl⟩
  have hul : u < 18446744073709551616 := Nat.lt_trans F.out.hu F.out.hz2
  have hmu : ms ≤ u := by rw [hms, hqs]; exact Nat.div_mul_le_self _ _
  have b1 : (u : Int) / (z1 : Int) = (qs : Int) := by rw [hqs]; rfl
  have b2 : IntKind.u64.wrap (qs : Int) = (qs : Int) := by
    rw [IntKind.wrap_u64]
    have := Nat.div_le_self u z1
    omega
  have b3 : IntKind.u64.wrap ((qs : Int) * (z1 : Int)) = (ms : Int) := by
    rw [show (qs : Int) * (z1 : Int) = ((qs * z1 : Nat) : Int) from rfl, ← hms, IntKind.wrap_u64]
    omega
  have b4 : IntKind.u64.wrap ((u : Int) - (ms : Int)) = (rs : Int) := by
    rw [hrs, ← hqs, ← hms, IntKind.wrap_u64]
    omega
  have D0 : DivI u v1 z qs rs := by
    rw [hrs, hqs, F.out.e1]
    exact div_start F.out.hz F.out.hz2 F.out.hu F.out.hv1
  have D1 : rs < 4294967296 := by
    rw [hrs]
    have h1 := Nat.div_add_mod u z1
    have h2 : u % z1 < z1 := Nat.mod_lt _ (by omega)
    have h3 := F.out.e1
    have h4 := F.out.hz2
    rw [Nat.mul_comm] at h1
    omega
  have H := Lib.hid (And.intro D0 D1)
  clear D0 D1 hqs hrs hms hul hmu
  have hR1 : R1 < z := by rw [F.out.eR1]; exact Nat.mod_lt _ (by have := F.out.hz; omega)
  obtain ⟨qsb, hqs⟩ : ∃ q, q = R1 / z1 := ⟨_, rfl⟩
  obtain ⟨rsb, hrs⟩ : ∃ q, q = R1 - R1 / z1 * z1 := ⟨_, rfl⟩
  obtain ⟨msb, hms⟩ : ∃ q, q = qsb * z1 := ⟨_, rfl⟩
  have hul : R1 < 18446744073709551616 := Nat.lt_trans hR1 F.out.hz2
  have hmu : msb ≤ R1 := by rw [hms, hqs]; exact Nat.div_mul_le_self _ _
  have b1b : (R1 : Int) / (z1 : Int) = (qsb : Int) := by rw [hqs]; rfl
  have b2b : IntKind.u64.wrap (qsb : Int) = (qsb : Int) := by
    rw [IntKind.wrap_u64]
    have := Nat.div_le_self R1 z1
    omega
  have b3b : IntKind.u64.wrap ((qsb : Int) * (z1 : Int)) = (msb : Int) := by
    rw [show (qsb : Int) * (z1 : Int) = ((qsb * z1 : Nat) : Int) from rfl, ← hms, IntKind.wrap_u64]
    omega
  have b4b : IntKind.u64.wrap ((R1 : Int) - (msb : Int)) = (rsb : Int) := by
    rw [hrs, ← hqs, ← hms, IntKind.wrap_u64]
    omega
  have D0 : DivI R1 v0 z qsb rsb := by
    rw [hrs, hqs, F.out.e1]
    exact div_start F.out.hz F.out.hz2 hR1 F.out.hv0
  have D1 : rsb < 4294967296 := by
    rw [hrs]
    have h1 := Nat.div_add_mod R1 z1
    have h2 : R1 % z1 < z1 := Nat.mod_lt _ (by omega)
    have h3 := F.out.e1
    have h4 := F.out.hz2
    rw [Nat.mul_comm] at h1
    omega
  have Hb := Lib.hid (And.intro D0 D1)
  clear D0 D1 hqs hrs hms hul hmu
  obtain ⟨ca1, ha1⟩ : ∃ x, x = u * 4294967296 % 18446744073709551616 := ⟨_, rfl⟩
  obtain ⟨ca2, ha2⟩ : ∃ x, x = (ca1 + v1) % 18446744073709551616 := ⟨_, rfl⟩
  obtain ⟨ca3, ha3⟩ : ∃ x, x = Q1 * z % 18446744073709551616 := ⟨_, rfl⟩
  have da1 : IntKind.u64.wrap ((u : Int) * 4294967296) = (ca1 : Int) := by rw [IntKind.wrap_u64]; omega
  have da2 : IntKind.u64.wrap ((ca1 : Int) + (v1 : Int)) = (ca2 : Int) := by rw [IntKind.wrap_u64]; omega
  have da3 : IntKind.u64.wrap ((Q1 : Int) * (z : Int)) = (ca3 : Int) := by
    rw [show (Q1 : Int) * (z : Int) = ((Q1 * z : Nat) : Int) from rfl, IntKind.wrap_u64]
    generalize Q1 * z = P at *
    omega
  have da4 : IntKind.u64.wrap ((ca2 : Int) - (ca3 : Int)) = (R1 : Int) := by
    have hd := Nat.div_add_mod (u * 4294967296 + v1) z
    have hm : (u * 4294967296 + v1) % z < z := Nat.mod_lt _ (by have := F.out.hz; omega)
    rw [← F.out.eQ1, ← F.out.eR1, Nat.mul_comm] at hd
    rw [← F.out.eR1] at hm
    rw [IntKind.wrap_u64]
    have hz := F.out.hz2
    generalize Q1 * z = P at *
    omega
  have qa : Q1 < 4294967296 := by
    rw [F.out.eQ1, Nat.div_lt_iff_lt_mul (by have := F.out.hz; omega)]
    have h1 := F.out.hu
    have h2 := F.out.hv1
    omega
  clear ha1 ha2 ha3
  obtain ⟨cb1, hb1⟩ : ∃ x, x = R1 * 4294967296 % 18446744073709551616 := ⟨_, rfl⟩
  obtain ⟨cb2, hb2⟩ : ∃ x, x = (cb1 + v0) % 18446744073709551616 := ⟨_, rfl⟩
  obtain ⟨cb3, hb3⟩ : ∃ x, x = Q0 * z % 18446744073709551616 := ⟨_, rfl⟩
  have db1 : IntKind.u64.wrap ((R1 : Int) * 4294967296) = (cb1 : Int) := by rw [IntKind.wrap_u64]; omega
  have db2 : IntKind.u64.wrap ((cb1 : Int) + (v0 : Int)) = (cb2 : Int) := by rw [IntKind.wrap_u64]; omega
  have db3 : IntKind.u64.wrap ((Q0 : Int) * (z : Int)) = (cb3 : Int) := by
    rw [show (Q0 : Int) * (z : Int) = ((Q0 * z : Nat) : Int) from rfl, IntKind.wrap_u64]
    generalize Q0 * z = P at *
    omega
  have db4 : IntKind.u64.wrap ((cb2 : Int) - (cb3 : Int)) = (R0 : Int) := by
    have hd := Nat.div_add_mod (R1 * 4294967296 + v0) z
    have hm : (R1 * 4294967296 + v0) % z < z := Nat.mod_lt _ (by have := F.out.hz; omega)
    rw [← F.out.eQ0, ← F.out.eR0, Nat.mul_comm] at hd
    rw [← F.out.eR0] at hm
    rw [IntKind.wrap_u64]
    have hz := F.out.hz2
    generalize Q0 * z = P at *
    omega
  have qb : Q0 < 4294967296 := by
    rw [F.out.eQ0, Nat.div_lt_iff_lt_mul (by have := F.out.hz; omega)]
    have h1 := hR1
    have h2 := F.out.hv0
    omega
  clear hb1 hb2 hb3
  obtain ⟨p, hp⟩ : ∃ x, x = Q1 * 4294967296 := ⟨_, rfl⟩
  obtain ⟨o, ho⟩ : ∃ x, x = p + Q0 := ⟨_, rfl⟩
  have dp : IntKind.u64.wrap ((Q1 : Int) * 4294967296) = (p : Int) := by rw [IntKind.wrap_u64]; omega
  have do_ : IntKind.u64.wrap ((p : Int) + (Q0 : Int)) = (o : Int) := by rw [IntKind.wrap_u64]; omega
  rw [← hp, ← ho]
  clear hp ho qa qb
  go_enter Tryd.func82, Tryd.ntmps82
  go_upto_block 0 with (go_at_call 93; refine (C.out _).mono ?_; rintro e w' ⟨rfl, rfl⟩)
  go_cut [15] (fun s15 wx => s15 = .int .u64 (Q1 : Int) ∧ wx = w')
  case first =>
    go_wp2_with fail
    go_loop [15, 16] (fun s15 s16 => ∃ q r : Nat, s15 = .int .u64 (q : Int) ∧ s16 = .int .u64 (r : Int) ∧ DivI u v1 z q r ∧ r < 4294967296) (fun s15 _ => (intOf s15).toNat)
    case atStart => exact ⟨qs, rs, rfl, rfl, H.out.1, H.out.2⟩
    case round =>
      obtain ⟨q, r, rfl, rfl, I, hr⟩ := hrel
      obtain ⟨G1, G2⟩ := div_round F.out.hz F.out.hz2 F.out.e1 F.out.e0 F.out.hu F.out.hv1 I hr
      obtain ⟨q2, hq2⟩ : ∃ x, x = q - 1 := ⟨_, rfl⟩
      obtain ⟨r2, hr2⟩ : ∃ x, x = r + z1 := ⟨_, rfl⟩
      obtain ⟨m, hm⟩ : ∃ x, x = q * z0 := ⟨_, rfl⟩
      obtain ⟨t0, ht0⟩ : ∃ x, x = 4294967296 * r := ⟨_, rfl⟩
      obtain ⟨t, ht⟩ : ∃ x, x = t0 + v1 := ⟨_, rfl⟩
      rw [← ht0, ← ht, ← hm, ← hq2, ← hr2] at G1
      rw [← ht0, ← ht, ← hm] at G2
      by_cases c1 : 4294967296 ≤ q
      · have c1i : (4294967296 : Int) ≤ (q : Int) := by omega
        obtain ⟨g1, g2, g3, g4⟩ := G1 (Or.inl c1)
        have x1 : IntKind.u64.wrap ((q : Int) - 1) = (q2 : Int) := by
          rw [hq2, IntKind.wrap_u64]
          have := I.l
          omega
        have x2 : IntKind.u64.wrap ((r : Int) + (z1 : Int)) = (r2 : Int) := by
          rw [hr2, IntKind.wrap_u64]
          omega
        by_cases c2 : 4294967296 ≤ r2
        · have c2i : (4294967296 : Int) ≤ (r2 : Int) := by omega
          have G := Lib.hid (g4 c2)
          clear G1 G2 g1 g2 g3 g4 I hr hq2 hr2 hm ht0 ht c1 c2
          repeat any_goals (first | go_skip | go_guarded | go_step | go_upon | (simp only []; done))
          go_meet
          case rel => exact ⟨by rw [← F.out.eQ1] at G; rw [G.out], rfl⟩
        · have c2i : ¬ (4294967296 : Int) ≤ (r2 : Int) := by omega
          have G := Lib.hid (And.intro g2 (And.intro (Nat.lt_of_not_le c2) (And.intro hq2 g1)))
          clear G1 G2 g1 g2 g3 g4 I hr hq2 hr2 hm ht0 ht c1 c2
          repeat any_goals (first | go_skip | go_guarded | go_step | go_upon | (simp only []; done))
          go_round
          case rel => exact ⟨q2, r2, rfl, rfl, G.out.1, G.out.2.1⟩
          case measure => have := G.out; simp [intOf]; omega
      · have c1i : ¬ (4294967296 : Int) ≤ (q : Int) := by omega
        have y1 : IntKind.u64.wrap ((q : Int) * (z0 : Int)) = (m : Int) := by
          rw [show (q : Int) * (z0 : Int) = ((q * z0 : Nat) : Int) from rfl, ← hm, IntKind.wrap_u64]
          have h1 : q * z0 ≤ 4294967296 * z0 := Nat.mul_le_mul_right _ (by omega)
          have h2 := F.out.e0
          omega
        have y2 : IntKind.u64.wrap (4294967296 * (r : Int)) = (t0 : Int) := by
          rw [ht0, IntKind.wrap_u64]
          omega
        have y3 : IntKind.u64.wrap ((t0 : Int) + (v1 : Int)) = (t : Int) := by
          rw [ht, IntKind.wrap_u64]
          have := F.out.hv1
          omega
        by_cases c3 : t < m
        · have c3i : (t : Int) < (m : Int) := by omega
          obtain ⟨g1, g2, g3, g4⟩ := G1 (Or.inr c3)
          have x1 : IntKind.u64.wrap ((q : Int) - 1) = (q2 : Int) := by
            rw [hq2, IntKind.wrap_u64]
            have := I.l
            omega
          have x2 : IntKind.u64.wrap ((r : Int) + (z1 : Int)) = (r2 : Int) := by
            rw [hr2, IntKind.wrap_u64]
            omega
          by_cases c2 : 4294967296 ≤ r2
          · have c2i : (4294967296 : Int) ≤ (r2 : Int) := by omega
            have G := Lib.hid (g4 c2)
            clear G1 G2 g1 g2 g3 g4 I hr hq2 hr2 hm ht0 ht c1 c2
            repeat any_goals (first | go_skip | go_guarded | go_step | go_upon | (simp only []; done))
            go_meet
            case rel => exact ⟨by rw [← F.out.eQ1] at G; rw [G.out], rfl⟩
          · have c2i : ¬ (4294967296 : Int) ≤ (r2 : Int) := by omega
            have G := Lib.hid (And.intro g2 (And.intro (Nat.lt_of_not_le c2) (And.intro hq2 g1)))
            clear G1 G2 g1 g2 g3 g4 I hr hq2 hr2 hm ht0 ht c1 c2
            repeat any_goals (first | go_skip | go_guarded | go_step | go_upon | (simp only []; done))
            go_round
            case rel => exact ⟨q2, r2, rfl, rfl, G.out.1, G.out.2.1⟩
            case measure => have := G.out; simp [intOf]; omega
        · have c3i : ¬ (t : Int) < (m : Int) := by omega
          have G := Lib.hid (G2 c1 c3)
          clear G1 G2 I hr hq2 hr2 hm ht0 ht c1 c3
          repeat any_goals (first | go_skip | go_guarded | go_step | go_upon | (simp only []; done))
          go_meet
          case rel => exact ⟨by rw [← F.out.eQ1] at G; rw [G.out], rfl⟩
  case rest =>
    obtain ⟨rfl, rfl⟩ := hcut
    go_upto_block 2 with fail
    go_cut [18] (fun s18 wx => s18 = .int .u64 (Q0 : Int) ∧ wx = wc)
    case first =>
      go_wp2_with fail
      go_loop [18, 16] (fun s18 s16 => ∃ q r : Nat, s18 = .int .u64 (q : Int) ∧ s16 = .int .u64 (r : Int) ∧ DivI R1 v0 z q r ∧ r < 4294967296) (fun s18 _ => (intOf s18).toNat)
      case atStart => exact ⟨qsb, rsb, rfl, rfl, Hb.out.1, Hb.out.2⟩
      case round =>
        obtain ⟨q, r, rfl, rfl, I, hr⟩ := hrel
        obtain ⟨G1, G2⟩ := div_round F.out.hz F.out.hz2 F.out.e1 F.out.e0 hR1 F.out.hv0 I hr
        obtain ⟨q2, hq2⟩ : ∃ x, x = q - 1 := ⟨_, rfl⟩
        obtain ⟨r2, hr2⟩ : ∃ x, x = r + z1 := ⟨_, rfl⟩
        obtain ⟨m, hm⟩ : ∃ x, x = q * z0 := ⟨_, rfl⟩
        obtain ⟨t0, ht0⟩ : ∃ x, x = 4294967296 * r := ⟨_, rfl⟩
        obtain ⟨t, ht⟩ : ∃ x, x = t0 + v0 := ⟨_, rfl⟩
        rw [← ht0, ← ht, ← hm, ← hq2, ← hr2] at G1
        rw [← ht0, ← ht, ← hm] at G2
        by_cases c1 : 4294967296 ≤ q
        · have c1i : (4294967296 : Int) ≤ (q : Int) := by omega
          obtain ⟨g1, g2, g3, g4⟩ := G1 (Or.inl c1)
          have x1 : IntKind.u64.wrap ((q : Int) - 1) = (q2 : Int) := by
            rw [hq2, IntKind.wrap_u64]
            have := I.l
            omega
          have x2 : IntKind.u64.wrap ((r : Int) + (z1 : Int)) = (r2 : Int) := by
            rw [hr2, IntKind.wrap_u64]
            omega
          by_cases c2 : 4294967296 ≤ r2
          · have c2i : (4294967296 : Int) ≤ (r2 : Int) := by omega
            have G := Lib.hid (g4 c2)
            clear G1 G2 g1 g2 g3 g4 I hr hq2 hr2 hm ht0 ht c1 c2
            repeat any_goals (first | go_skip | go_guarded | go_step | go_upon | (simp only []; done))
            go_meet
            case rel => exact ⟨by rw [← F.out.eQ0] at G; rw [G.out], rfl⟩
          · have c2i : ¬ (4294967296 : Int) ≤ (r2 : Int) := by omega
            have G := Lib.hid (And.intro g2 (And.intro (Nat.lt_of_not_le c2) (And.intro hq2 g1)))
            clear G1 G2 g1 g2 g3 g4 I hr hq2 hr2 hm ht0 ht c1 c2
            repeat any_goals (first | go_skip | go_guarded | go_step | go_upon | (simp only []; done))
            go_round
            case rel => exact ⟨q2, r2, rfl, rfl, G.out.1, G.out.2.1⟩
            case measure => have := G.out; simp [intOf]; omega
        · have c1i : ¬ (4294967296 : Int) ≤ (q : Int) := by omega
          have y1 : IntKind.u64.wrap ((q : Int) * (z0 : Int)) = (m : Int) := by
            rw [show (q : Int) * (z0 : Int) = ((q * z0 : Nat) : Int) from rfl, ← hm, IntKind.wrap_u64]
            have h1 : q * z0 ≤ 4294967296 * z0 := Nat.mul_le_mul_right _ (by omega)
            have h2 := F.out.e0
            omega
          have y2 : IntKind.u64.wrap (4294967296 * (r : Int)) = (t0 : Int) := by
            rw [ht0, IntKind.wrap_u64]
            omega
          have y3 : IntKind.u64.wrap ((t0 : Int) + (v0 : Int)) = (t : Int) := by
            rw [ht, IntKind.wrap_u64]
            have := F.out.hv0
            omega
          by_cases c3 : t < m
          · have c3i : (t : Int) < (m : Int) := by omega
            obtain ⟨g1, g2, g3, g4⟩ := G1 (Or.inr c3)
            have x1 : IntKind.u64.wrap ((q : Int) - 1) = (q2 : Int) := by
              rw [hq2, IntKind.wrap_u64]
              have := I.l
              omega
            have x2 : IntKind.u64.wrap ((r : Int) + (z1 : Int)) = (r2 : Int) := by
              rw [hr2, IntKind.wrap_u64]
              omega
            by_cases c2 : 4294967296 ≤ r2
            · have c2i : (4294967296 : Int) ≤ (r2 : Int) := by omega
              have G := Lib.hid (g4 c2)
              clear G1 G2 g1 g2 g3 g4 I hr hq2 hr2 hm ht0 ht c1 c2
              repeat any_goals (first | go_skip | go_guarded | go_step | go_upon | (simp only []; done))
              go_meet
              case rel => exact ⟨by rw [← F.out.eQ0] at G; rw [G.out], rfl⟩
            · have c2i : ¬ (4294967296 : Int) ≤ (r2 : Int) := by omega
              have G := Lib.hid (And.intro g2 (And.intro (Nat.lt_of_not_le c2) (And.intro hq2 g1)))
              clear G1 G2 g1 g2 g3 g4 I hr hq2 hr2 hm ht0 ht c1 c2
              repeat any_goals (first | go_skip | go_guarded | go_step | go_upon | (simp only []; done))
              go_round
              case rel => exact ⟨q2, r2, rfl, rfl, G.out.1, G.out.2.1⟩
              case measure => have := G.out; simp [intOf]; omega
          · have c3i : ¬ (t : Int) < (m : Int) := by omega
            have G := Lib.hid (G2 c1 c3)
            clear G1 G2 I hr hq2 hr2 hm ht0 ht c1 c3
            repeat any_goals (first | go_skip | go_guarded | go_step | go_upon | (simp only []; done))
            go_meet
            case rel => exact ⟨by rw [← F.out.eQ0] at G; rw [G.out], rfl⟩
    case rest =>
      obtain ⟨rfl, rfl⟩ := hcut
      repeat any_goals (first | go_skip | go_guarded | go_step | go_upon | (simp only []; done))
      refine bodyPost_ret (v := .tuple #[.int .u64 (o : Int), .int .u64 (R : Int)]) ?_ rfl ⟨rfl, Below.refl _ _⟩
      simp [results, Tryd.results82, go_sem]
theorem u64_and32 {b : Nat} (hb : b < 18446744073709551616) : bits BinOp.and IntKind.u64 (b : Int) 4294967295 = ((b % 4294967296 : Nat) : Int) := by
  have h := u64_and_nat b 4294967295 hb (by decide)
  rw [show (4294967295 : Nat) = 2 ^ 32 - 1 from by decide, Nat.and_two_pow_sub_one_eq_mod] at h
  exact h
/-- **bits.Div64**, where the quotient has room. -/
theorem Div64_any (hi lo y : Nat) (hh : hi < y) (hl : lo < 18446744073709551616) (hy : y < 18446744073709551616) (w : World) :
    Calls Tryd.prog 82 #[.int .u64 (hi : Int), .int .u64 (lo : Int), .int .u64 (y : Int)] w fun e w' => e = .returned (.tuple #[.int .u64 ((hi * 18446744073709551616 + lo) / y : Nat), .int .u64 ((hi * 18446744073709551616 + lo) % y : Nat)]) ∧ Below w.heap.size w w' := by
  by_cases h0 : hi = 0
  · subst h0
    rw [Nat.zero_mul, Nat.zero_add]
    exact Div64_zero lo y hl hh hy w
  have hy0 : 0 < y := by omega
  have hb := bl64 hy
  have hb1 := bl_pos hy0
  have p1 := two_pow_bl_le hy0
  have p2 := lt_two_pow_bl y
  obtain ⟨s, hs⟩ : ∃ s, s = 64 - bl y := ⟨_, rfl⟩
  have e64 : 2 ^ bl y * 2 ^ s = 18446744073709551616 := by rw [← Nat.pow_add, hs, show bl y + (64 - bl y) = 64 from by omega]
  have e63 : 2 ^ (bl y - 1) * 2 ^ s = 9223372036854775808 := by rw [← Nat.pow_add, hs, show bl y - 1 + (64 - bl y) = 63 from by omega]
  have es : 2 ^ s * 2 ^ (64 - s) = 18446744073709551616 := by rw [← Nat.pow_add, show s + (64 - s) = 64 from by omega]
  have ps := Nat.two_pow_pos s
  have ps2 := Nat.two_pow_pos (64 - s)
  obtain ⟨z, hz⟩ : ∃ z, z = y * 2 ^ s := ⟨_, rfl⟩
  have z1 : 9223372036854775808 ≤ z := by rw [hz, ← e63]; exact Nat.mul_le_mul_right _ p1
  have z2 : z < 18446744073709551616 := by rw [hz, ← e64]; exact Nat.mul_lt_mul_of_pos_right p2 ps
  have hd := Nat.div_add_mod (lo * 2 ^ s) 18446744073709551616
  obtain ⟨v, hv⟩ : ∃ v, v = lo * 2 ^ s % 18446744073709551616 := ⟨_, rfl⟩
  have hvl : v < 18446744073709551616 := by rw [hv]; exact Nat.mod_lt _ (by decide)
  have l1e : lo * 2 ^ s / 18446744073709551616 = lo / 2 ^ (64 - s) := by rw [← es, Nat.mul_comm (2 ^ s), Nat.mul_div_mul_right _ _ ps]
  obtain ⟨l1, hl1⟩ : ∃ l, l = lo / 2 ^ (64 - s) := ⟨_, rfl⟩
  have hl1s : l1 < 2 ^ s := by rw [hl1, Nat.div_lt_iff_lt_mul ps2, es]; exact hl
  rw [l1e, ← hl1, ← hv] at hd
  obtain ⟨h1, hh1⟩ : ∃ h, h = hi * 2 ^ s := ⟨_, rfl⟩
  have hu : h1 + l1 < z := by
    have h2 : (hi + 1) * 2 ^ s ≤ y * 2 ^ s := Nat.mul_le_mul_right _ hh
    rw [Nat.add_mul, Nat.one_mul, ← hh1, ← hz] at h2
    omega
  have hor : bits BinOp.or IntKind.u64 (h1 : Int) (l1 : Int) = ((h1 + l1 : Nat) : Int) := by
    rw [u64_or_nat h1 l1 (by omega) (by omega), hh1, Nat.mul_comm, Nat.two_pow_add_eq_or_of_lt hl1s]
  obtain ⟨d1, d2⟩ := div_two (u := h1 + l1) (d1 := v / 4294967296) (d0 := v % 4294967296) (y := z) (Q := ((h1 + l1) * 4294967296 + v / 4294967296) / z) (R := ((h1 + l1) * 4294967296 + v / 4294967296) % z) (by omega) (Nat.div_add_mod _ _)
  have hall : (h1 + l1) * 18446744073709551616 + (v / 4294967296 * 4294967296 + v % 4294967296) = (hi * 18446744073709551616 + lo) * 2 ^ s := by
    have h2 : v / 4294967296 * 4294967296 + v % 4294967296 = v := Nat.div_add_mod' _ _
    have h3 : (hi * 18446744073709551616 + lo) * 2 ^ s = h1 * 18446744073709551616 + lo * 2 ^ s := by rw [Nat.add_mul, Nat.mul_right_comm, ← hh1]
    rw [h2, h3, ← hd, Nat.add_mul, Nat.mul_comm 18446744073709551616 l1, Nat.add_assoc]
  obtain ⟨n1, n2⟩ := div_norm (a := hi * 18446744073709551616 + lo) (y := y) (s := s)
  rw [hall, hz, n1] at d1
  rw [hall, hz, n2] at d2
  rw [← hz] at d1 d2
  have F : DivF (h1 + l1) (v / 4294967296) (v % 4294967296) z (z / 4294967296) (z % 4294967296) _ _ _ _ := ⟨z1, z2, rfl, rfl, hu, by omega, by omega, rfl, rfl, rfl, rfl⟩
  have H := Div64_walk hi lo y s z (z / 4294967296) (z % 4294967296) h1 l1 (h1 + l1) v (v / 4294967296) (v % 4294967296) _ _ _ _ ((hi * 18446744073709551616 + lo) % y) (by omega) hh w (by omega)
    (by rw [show (y : Int) * 2 ^ s = ((y * 2 ^ s : Nat) : Int) from by simp, ← hz, IntKind.wrap_u64]; omega) (by omega) (u64_and32 z2) (by omega)
    (by rw [show (hi : Int) * 2 ^ s = ((hi * 2 ^ s : Nat) : Int) from by simp, ← hh1, IntKind.wrap_u64]; omega) (by rw [hl1]; simp) hor
    (by rw [show (lo : Int) * 2 ^ s = ((lo * 2 ^ s : Nat) : Int) from by simp, hv, IntKind.wrap_u64]; omega) (by omega) (u64_and32 hvl)
    (by rw [d2, show (2 : Int) ^ s = ((2 ^ s : Nat) : Int) from by simp, ← Int.natCast_ediv, Nat.mul_div_cancel _ ps]) (Lib.hid F)
    (Lib.hid fun w => by
      refine (Tryd.bits_LeadingZeros64 (y : Int) w (by omega) (by omega)).mono ?_
      rintro e w' ⟨rfl, rfl⟩
      rw [show ((y : Int)).toNat = y from by omega, bitLen_eq y hy]
      exact ⟨by congr 2; omega, rfl⟩)
  rw [d1] at H
  exact H
end Go.Proofs.YtbakgmkkebnhkaaDoor
