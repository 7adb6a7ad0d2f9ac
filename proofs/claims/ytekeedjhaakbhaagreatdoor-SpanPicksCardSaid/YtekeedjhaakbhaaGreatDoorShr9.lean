/- Contract of package nat: Shr. -/
import Derived.Test.YtekeedjhaakbhaaGreatDoorDM6
namespace Go.Proofs.YtekeedjhaakbhaaGreatDoor
open Go.RowKit
/-- a limb of a number moved to the right -/
theorem lm_shr (V k i : Nat) : lm (V / 2 ^ k) i = lm V (i + k / 64) / 2 ^ (k % 64) + lm V (i + k / 64 + 1) * 2 ^ (64 - k % 64) % 18446744073709551616 := by
  have hr : k % 64 < 64 := Nat.mod_lt _ (by decide)
  have hk : k = 64 * (k / 64) + k % 64 := by omega
  generalize k / 64 = q at *
  generalize k % 64 = r at *
  subst hk
  unfold lm
  rw [Nat.div_div_eq_div_mul, ← Nat.pow_add, show 64 * q + r + 64 * i = 64 * (i + q) + r from by omega, Nat.pow_add, ← Nat.div_div_eq_div_mul,
    show 64 * (i + q + 1) = 64 * (i + q) + 64 from by omega, Nat.pow_add, ← Nat.div_div_eq_div_mul]
  generalize V / 2 ^ (64 * (i + q)) = W
  have e64 : (2 : Nat) ^ 64 = 2 ^ r * 2 ^ (64 - r) := by rw [← Nat.pow_add, show r + (64 - r) = 64 from by omega]
  have e18 : (18446744073709551616 : Nat) = 2 ^ r * 2 ^ (64 - r) := by rw [← e64]
  have hA := Nat.two_pow_pos r
  have hB := Nat.two_pow_pos (64 - r)
  rw [e18, e64]
  generalize 2 ^ r = A at *
  generalize 2 ^ (64 - r) = B at *
  -- W / A % (A B) = W % (A B) / A + (W / (A B) % (A B)) * B % (A B)
  have h1 : W % (A * B) / A = W / A % B := by rw [Nat.mod_mul_right_div_self]
  have h2 : W / (A * B) % (A * B) * B % (A * B) = W / (A * B) % A * B := by
    rw [Nat.mul_mod_mul_right, Nat.mod_mul_right_mod]
  have h3 : W / (A * B) = W / A / B := by rw [Nat.div_div_eq_div_mul]
  rw [h1, h2, h3, Nat.mul_comm A B, Nat.mod_mul, Nat.mul_comm B]
theorem lm_above {V j : Nat} (h : V < 2 ^ 256) (hj : 4 ≤ j) : lm V j = 0 := by
  unfold lm
  rw [Nat.div_eq_of_lt (Nat.lt_of_lt_of_le h (Nat.pow_le_pow_right (by decide) (by omega)))]
theorem shr_lm_or {V k i : Nat} : lm V (i + k / 64) / 2 ^ (k % 64) ||| lm V (i + k / 64 + 1) * 2 ^ (64 - k % 64) % 18446744073709551616 = lm (V / 2 ^ k) i := by
  rw [lm_shr]
  have hr : k % 64 < 64 := Nat.mod_lt _ (by decide)
  have h := lm_lt V (i + k / 64)
  generalize lm V (i + k / 64) = x at *
  generalize lm V (i + k / 64 + 1) = y at *
  generalize k % 64 = r at *
  have e64 : (18446744073709551616 : Nat) = 2 ^ (64 - r) * 2 ^ r := by rw [← Nat.pow_add, show 64 - r + r = 64 from by omega]
  have h1 : x / 2 ^ r < 2 ^ (64 - r) := by
    rw [Nat.div_lt_iff_lt_mul (Nat.two_pow_pos _), ← e64]
    exact h
  have h2 : y * 2 ^ (64 - r) % 18446744073709551616 % 2 ^ (64 - r) = 0 := by
    rw [e64, Nat.mod_mul_right_mod, Nat.mul_mod_left]
  rw [Nat.or_comm, nat_join (64 - r) _ _ h2 h1, Nat.add_comm]
/-- the cells in the loop of Shr -/
structure ShrI (w wr : World) (V R m : Nat) : Prop where
  a : ∀ j, j < 4 → wr.cell? ⟨w.heap.size, j, none⟩ = some (.int .u64 (lm V j : Nat))
  o : ∀ j, j < 4 → wr.cell? ⟨w.heap.size + 1 + 1, j, none⟩ = some (.int .u64 ((if j < m then lm R j else 0 : Nat) : Int)) ∧ wr.frozen? ⟨w.heap.size + 1 + 1, j, none⟩ = false
  r : ∀ j, j < 4 → wr.cell? ⟨w.heap.size + 1, j, none⟩ = some (.int .u64 0) ∧ wr.frozen? ⟨w.heap.size + 1, j, none⟩ = false
  b : Below w.heap.size w wr
theorem ShrI.drew {w wr : World} {V R m : Nat} (h : ShrI w wr V R m) : ShrI w wr.drew V R m := ⟨h.a, h.o, h.r, h.b.drew⟩
theorem set_other {w : World} {p q : Addr} {v : Value} (h : p ≠ q) : (w.setCell p v).cell? q = w.cell? q := World.cell?_setCell_other _ _ _ _ h
/-- a store into the cell of the round -/
theorem ShrI.set {w wr : World} {V R m x : Nat} (h : ShrI w wr V R m) (hm : m < 4) : (∀ y : Nat, y = lm R m → ShrI w (wr.setCell ⟨w.heap.size + 1 + 1, m, none⟩ (.int .u64 (y : Int))) V R (m + 1)) ∧
    ((wr.setCell ⟨w.heap.size + 1 + 1, m, none⟩ (.int .u64 (x : Int))).cell? ⟨w.heap.size + 1 + 1, m, none⟩ = some (.int .u64 (x : Int))) := by
  obtain ⟨c0, f0⟩ := h.o m hm
  refine ⟨fun y hy => ⟨fun j hj => ?_, fun j hj => ⟨?_, by rw [World.frozen?_setCell]; exact (h.o j hj).2⟩, fun j hj => ⟨?_, by rw [World.frozen?_setCell]; exact (h.r j hj).2⟩, ?_⟩, World.cell?_setCell_same _ _ _ c0⟩
  · rw [set_other (by simp)]; exact h.a j hj
  · by_cases c : j = m
    · subst c
      rw [World.cell?_setCell_same _ _ _ c0, hy, if_pos (by omega)]
    · rw [set_other (fun h => c (by injection h with _ h2 _; exact h2.symm)), (h.o j hj).1]
      congr 3
      by_cases d : j < m
      · rw [if_pos d, if_pos (by omega)]
      · rw [if_neg d, if_neg (by omega)]
  · rw [set_other (by simp)]; exact (h.r j hj).1
  · exact h.b.setCell (by show w.heap.size ≤ w.heap.size + 1 + 1; omega) _
/-- .. twice -/
theorem ShrI.set2 {w wr : World} {V R m x y : Nat} (h : ShrI w wr V R m) (hm : m < 4) (hy : y = lm R m) :
    ShrI w ((wr.setCell ⟨w.heap.size + 1 + 1, m, none⟩ (.int .u64 (x : Int))).drew.setCell ⟨w.heap.size + 1 + 1, m, none⟩ (.int .u64 (y : Int))) V R (m + 1) := by
  obtain ⟨c0, f0⟩ := h.o m hm
  have c1 : (wr.setCell ⟨w.heap.size + 1 + 1, m, none⟩ (.int .u64 (x : Int))).drew.cell? ⟨w.heap.size + 1 + 1, m, none⟩ = some (.int .u64 (x : Int)) := World.cell?_setCell_same _ _ _ c0
  have k : ∀ p : Addr, (wr.setCell ⟨w.heap.size + 1 + 1, m, none⟩ (.int .u64 (x : Int))).drew.cell? p = (wr.setCell ⟨w.heap.size + 1 + 1, m, none⟩ (.int .u64 (x : Int))).cell? p := fun _ => rfl
  have kf : ∀ p : Addr, (wr.setCell ⟨w.heap.size + 1 + 1, m, none⟩ (.int .u64 (x : Int))).drew.frozen? p = wr.frozen? p := fun p => World.frozen?_setCell _ _ _ _
  refine ⟨fun j hj => ?_, fun j hj => ⟨?_, by rw [World.frozen?_setCell, kf]; exact (h.o j hj).2⟩, fun j hj => ⟨?_, by rw [World.frozen?_setCell, kf]; exact (h.r j hj).2⟩, ?_⟩
  · rw [set_other (by simp), k, set_other (by simp)]; exact h.a j hj
  · by_cases c : j = m
    · subst c
      rw [World.cell?_setCell_same _ _ _ c1, hy, if_pos (by omega)]
    · have hne : (⟨w.heap.size + 1 + 1, m, none⟩ : Addr) ≠ ⟨w.heap.size + 1 + 1, j, none⟩ := fun h => c (by injection h with _ h2 _; exact h2.symm)
      rw [set_other hne, k, set_other hne, (h.o j hj).1]
      congr 3
      by_cases d : j < m
      · rw [if_pos d, if_pos (by omega)]
      · rw [if_neg d, if_neg (by omega)]
  · rw [set_other (by simp), k, set_other (by simp)]; exact (h.r j hj).1
  · exact ((h.b.setCell (by show w.heap.size ≤ w.heap.size + 1 + 1; omega) _).drew).setCell (by show w.heap.size ≤ w.heap.size + 1 + 1; omega) _
theorem shrI_new {w : World} {V R : Nat} {t t1 t2 : TypeId} : ShrI w (((w.alloc (.cells #[.int .u64 (lm V 0 : Nat), .int .u64 (lm V 1 : Nat), .int .u64 (lm V 2 : Nat), .int .u64 (lm V 3 : Nat)] t)).alloc (.cells #[.int .u64 0, .int .u64 0, .int .u64 0, .int .u64 0] t1)).alloc (.cells #[.int .u64 0, .int .u64 0, .int .u64 0, .int .u64 0] t2)) V R 0 := by
  refine ⟨?_, ?_, ?_, ?_⟩
  · intro j hj
    match j, hj with
    | 0, _ => simp [go_sem]
    | 1, _ => simp [go_sem]
    | 2, _ => simp [go_sem]
    | 3, _ => simp [go_sem]
  · intro j hj
    match j, hj with
    | 0, _ => simp [go_sem]
    | 1, _ => simp [go_sem]
    | 2, _ => simp [go_sem]
    | 3, _ => simp [go_sem]
  · intro j hj
    match j, hj with
    | 0, _ => simp [go_sem]
    | 1, _ => simp [go_sem]
    | 2, _ => simp [go_sem]
    | 3, _ => simp [go_sem]
  · (repeat first | with_reducible exact Below.refl _ _ | with_reducible assumption | with_reducible refine Below.drew ?_ | with_reducible refine below_alloc ?_ _ | ((with_reducible refine Below.setCell ?_ ?_ _); rotate_left; (focus (first | with_reducible exact Nat.le_refl _ | (simp; done) | (simp; omega) | omega))) | (with_reducible refine below_trans ?_ (by assumption)))
set_option maxRecDepth 20000 in
set_option maxHeartbeats 1600000 in
theorem Shr_walk (V q r R : Nat) (k0 k : Int) (hV : V < 2 ^ 256) (w : World) (hk0 : 0 ≤ k) (hmx : max k0 0 = k) (hk : k < 256) (eq : k / 64 = (q : Int)) (er : k % 64 = (r : Int)) (hq : q ≤ 3) (_hr : r ≤ 63) (hR : ∀ i, lm R i = lm V (i + q) / 2 ^ r ||| (if r = 0 then 0 else lm V (i + q + 1) * 2 ^ (64 - r) % 18446744073709551616)) :
    Calls Tryz.prog 93 #[.agg #[.int .u64 (lm (V) 0 : Nat), .int .u64 (lm (V) 1 : Nat), .int .u64 (lm (V) 2 : Nat), .int .u64 (lm (V) 3 : Nat)], .int .i64 k0] w fun e w' => e = .returned (.agg #[.int .u64 (lm (R) 0 : Nat), .int .u64 (lm (R) 1 : Nat), .int .u64 (lm (R) 2 : Nat), .int .u64 (lm (R) 3 : Nat)]) ∧ Below w.heap.size w w' := by
  have RH := Lib.hid (And.intro hV hR)
  clear hV hR
  go_enter Tryz.func93, Tryz.ntmps93
  repeat any_goals (first | go_skip | go_guarded | go_step | go_upon | (simp only []; done))
  go_loopw [14] (fun i wr => ∃ m : Nat, m ≤ 4 ∧ i = .int .i64 m ∧ ShrI w wr V R m) (fun i _ => 4 - (intOf i).toNat)
  case atStart => exact ⟨0, by omega, rfl, shrI_new⟩
  case round =>
    obtain ⟨m, hm, rfl, I⟩ := hrel
    have IH := Lib.hid I
    clear I
    by_cases c0 : m < 4
    · obtain ⟨co, fo⟩ := IH.out.o m c0
      rw [if_neg (by omega)] at co
      by_cases c1 : m + q < 4
      · have ca := IH.out.a (m + q) c1
        obtain ⟨x, hx⟩ : ∃ x, x = lm V (m + q) := ⟨_, rfl⟩
        rw [← hx] at ca
        obtain ⟨y, hy⟩ : ∃ y, y = x / 2 ^ r := ⟨_, rfl⟩
        have ey : (x : Int) / 2 ^ r = (y : Int) := by rw [hy]; simp
        have GX := Lib.hid (And.intro hx hy)
        clear hx hy
        obtain ⟨z, hz⟩ : ∃ z, z = lm V (m + q + 1) := ⟨_, rfl⟩
        obtain ⟨u, hu⟩ : ∃ u, u = 64 - r := ⟨_, rfl⟩
        obtain ⟨t, ht⟩ : ∃ t, t = z * 2 ^ u % 18446744073709551616 := ⟨_, rfl⟩
        have hx64 : x < 18446744073709551616 := GX.out.1 ▸ lm_lt _ _
        have hy64 : y < 18446744073709551616 := by rw [GX.out.2]; exact Nat.lt_of_le_of_lt (Nat.div_le_self _ _) hx64
        have ht64 : t < 18446744073709551616 := by rw [ht]; exact Nat.mod_lt _ (by decide)
        obtain ⟨s, hs⟩ : ∃ s, s = y ||| t := ⟨_, rfl⟩
        have eu : IntKind.i64.wrap (64 - (r : Int)) = (u : Int) := by rw [IntKind.wrap_i64]; omega
        have eu2 : IntKind.u64.wrap (u : Int) = (u : Int) := by rw [IntKind.wrap_u64]; omega
        have eu3 : min u 64 = u := by omega
        have et : IntKind.u64.wrap ((z : Int) * 2 ^ u) = (t : Int) := by
          rw [show ((z : Int) * 2 ^ u) = ((z * 2 ^ u : Nat) : Int) from by simp, IntKind.wrap_u64, ht]
          generalize z * 2 ^ u = y
          omega
        have es : bits BinOp.or IntKind.u64 (y : Int) (t : Int) = (s : Int) := by rw [u64_or_nat y t hy64 ht64, hs]
        have er2 : k.tmod 64 = (r : Int) := by rw [Int.tmod_eq_emod_of_nonneg hk0]; exact er
        have er3 : IntKind.i64.wrap (r : Int) = (r : Int) := by rw [IntKind.wrap_i64]; omega
        have i1 : (m : Int) < 4 := by omega
        have i2 : (0 : Int) ≤ (m : Int) := by omega
        have i4 : (0 : Int) ≤ (m : Int) + (q : Int) + 1 := by omega
        have i5 : (m : Int).toNat = m := rfl
        have i6 : ((m : Int) + (q : Int) + 1).toNat = m + q + 1 := by omega
        have S0 := (IH.out.set (x := y) c0).2
        have SF : (wr.setCell ⟨w.heap.size + 1 + 1, m, none⟩ (.int .u64 (y : Int))).frozen? ⟨w.heap.size + 1 + 1, m, none⟩ = false := by rw [World.frozen?_setCell]; exact fo
        have SA : m + q + 1 < 4 → (wr.setCell ⟨w.heap.size + 1 + 1, m, none⟩ (.int .u64 (y : Int))).cell? ⟨w.heap.size, m + q + 1, none⟩ = some (.int .u64 (z : Int)) := fun h => by rw [set_other (by simp), hz]; exact IH.out.a _ h
        have FA : y = lm R m → ShrI w (wr.setCell ⟨w.heap.size + 1 + 1, m, none⟩ (.int .u64 (y : Int))) V R (m + 1) := fun h => (IH.out.set (x := y) c0).1 y h
        have FB : s = lm R m → ShrI w ((wr.setCell ⟨w.heap.size + 1 + 1, m, none⟩ (.int .u64 (y : Int))).drew.setCell ⟨w.heap.size + 1 + 1, m, none⟩ (.int .u64 (s : Int))) V R (m + 1) := fun h => IH.out.set2 c0 h
        have HF := Lib.hid (And.intro FA FB)
        have HZ := Lib.hid (And.intro hz (And.intro hu (And.intro ht hs)))
        have HS := Lib.hid SA
        clear FA FB hz hu ht hs SA hx64 hy64 ht64
        repeat any_goals (first | go_skip | go_guarded | go_step | go_upon | (simp only []; done))
        · have h1 : (m : Int) + (q : Int) + 1 < 4 := by assumption
          have h2 : 0 < r := by assumption
          have ca2 := HS.out (by omega)
          (refine still_tail 12 (by kernel_rfl) (by kernel_rfl) ?_; simp only [List.take_succ_cons, List.take_zero, List.drop_succ_cons, List.drop_zero]; (repeat still_step); refine wpStill_nil ?_)
          repeat any_goals (first | go_skip | go_guarded | go_step | go_upon | (simp only []; done))
          go_roundw
          case rel =>
            refine ⟨m + 1, by omega, by go_num, HF.out.2 ?_⟩
            obtain ⟨z1, z2, z3, z4⟩ := HZ.out
            rw [RH.out.2, if_neg (by omega), z4, z3, z2, z1, GX.out.2, GX.out.1]
          case measure => simp [intOf]; omega
        · have h2 : ¬ 0 < r := by assumption
          go_roundw
          case rel =>
            refine ⟨m + 1, by omega, by go_num, HF.out.1 ?_⟩
            rw [RH.out.2, if_pos (by omega), GX.out.2, GX.out.1, Nat.or_zero]
          case measure => simp [intOf]; omega
        · have h2 : ¬ (m : Int) + (q : Int) + 1 < 4 := by assumption
          go_roundw
          case rel =>
            refine ⟨m + 1, by omega, by go_num, HF.out.1 ?_⟩
            rw [RH.out.2, lm_above RH.out.1 (show 4 ≤ m + q + 1 by omega), Nat.zero_mul, Nat.zero_mod, GX.out.2, GX.out.1]
            split <;> rw [Nat.or_zero]
          case measure => simp [intOf]; omega
      · repeat any_goals (first | go_skip | go_guarded | go_step | go_upon | (simp only []; done))
        go_roundw
        case rel =>
          refine ⟨m + 1, by omega, by go_num, IH.out.a, fun j hj => ⟨?_, (IH.out.o j hj).2⟩, IH.out.r, IH.out.b⟩
          rw [(IH.out.o j hj).1]
          congr 3
          by_cases d : j < m
          · rw [if_pos d, if_pos (by omega)]
          · rw [if_neg d]
            by_cases e : j < m + 1
            · have hjm : j = m := by omega
              subst hjm
              rw [if_pos e, RH.out.2, lm_above RH.out.1 (show 4 ≤ j + q by omega), lm_above RH.out.1 (show 4 ≤ j + q + 1 by omega), Nat.zero_mul, Nat.zero_mod, Nat.zero_div]
              split <;> rfl
            · rw [if_neg e]
        case measure => simp [intOf]; omega
    · have hm4 : m = 4 := by omega
      subst hm4
      obtain ⟨a0, f0⟩ := IH.out.o 0 (by omega)
      obtain ⟨a1, f1⟩ := IH.out.o 1 (by omega)
      obtain ⟨a2, f2⟩ := IH.out.o 2 (by omega)
      obtain ⟨a3, f3⟩ := IH.out.o 3 (by omega)
      rw [if_pos (by omega)] at a0 a1 a2 a3
      obtain ⟨b0, g0⟩ := IH.out.r 0 (by omega)
      obtain ⟨b1, g1⟩ := IH.out.r 1 (by omega)
      obtain ⟨b2, g2⟩ := IH.out.r 2 (by omega)
      obtain ⟨b3, g3⟩ := IH.out.r 3 (by omega)
      repeat any_goals (first | go_skip | go_guarded | go_step | go_upon | (simp only []; done))
      refine bodyPost_ret (v := .agg #[.int .u64 (lm (R) 0 : Nat), .int .u64 (lm (R) 1 : Nat), .int .u64 (lm (R) 2 : Nat), .int .u64 (lm (R) 3 : Nat)]) ?_ rfl ⟨rfl, (((IH.out.b.setCell (by show w.heap.size ≤ w.heap.size + 1; omega) _).setCell (by show w.heap.size ≤ w.heap.size + 1; omega) _).setCell (by show w.heap.size ≤ w.heap.size + 1; omega) _).setCell (by show w.heap.size ≤ w.heap.size + 1; omega) _⟩
      simp [results, Tryz.results93, go_sem, b0, b1, b2, b3]
set_option maxRecDepth 20000 in
set_option maxHeartbeats 800000 in
theorem Shr_far (V : Nat) (k : Int) (w : World) (hmx : max k 0 = k) (hk : 256 ≤ k) :
    Calls Tryz.prog 93 #[.agg #[.int .u64 (lm (V) 0 : Nat), .int .u64 (lm (V) 1 : Nat), .int .u64 (lm (V) 2 : Nat), .int .u64 (lm (V) 3 : Nat)], .int .i64 k] w fun e w' => e = .returned (.agg #[.int .u64 0, .int .u64 0, .int .u64 0, .int .u64 0]) ∧ Below w.heap.size w w' := by
  go_enter Tryz.func93, Tryz.ntmps93
  repeat any_goals (first | go_skip | go_guarded | go_step | go_upon | (simp only []; done))
  refine bodyPost_ret (v := .agg #[.int .u64 0, .int .u64 0, .int .u64 0, .int .u64 0]) ?_ rfl ⟨rfl, by (repeat first | with_reducible exact Below.refl _ _ | with_reducible assumption | with_reducible refine Below.drew ?_ | with_reducible refine below_alloc ?_ _ | ((with_reducible refine Below.setCell ?_ ?_ _); rotate_left; (focus (first | with_reducible exact Nat.le_refl _ | (simp; done) | (simp; omega) | omega))) | (with_reducible refine below_trans ?_ (by assumption)))⟩
  simp [results, Tryz.results93, go_sem]
/-- **Shr**, where the place is not below 0. -/
theorem Shr_any (V k : Nat) (hV : V < 2 ^ 256) (w : World) (hk : k < 9223372036854775808) :
    Calls Tryz.prog 93 #[.agg #[.int .u64 (lm (V) 0 : Nat), .int .u64 (lm (V) 1 : Nat), .int .u64 (lm (V) 2 : Nat), .int .u64 (lm (V) 3 : Nat)], .int .i64 (k : Int)] w fun e w' => e = .returned (.agg #[.int .u64 (lm (V / 2 ^ k) 0 : Nat), .int .u64 (lm (V / 2 ^ k) 1 : Nat), .int .u64 (lm (V / 2 ^ k) 2 : Nat), .int .u64 (lm (V / 2 ^ k) 3 : Nat)]) ∧ Below w.heap.size w w' := by
  by_cases c : k < 256
  · refine Shr_walk V (k / 64) (k % 64) (V / 2 ^ k) (k : Int) (k : Int) hV w (by omega) (by omega) (by omega) (by omega) (by omega) (by omega) (by omega) ?_
    intro i
    rw [← shr_lm_or]
    by_cases d : k % 64 = 0
    · rw [if_pos d, d, Nat.or_zero, Nat.pow_zero, Nat.div_one, show (2 : Nat) ^ (64 - 0) = 18446744073709551616 from by decide, Nat.mul_mod_left, Nat.or_zero]
    · rw [if_neg d]
  · have h0 : V / 2 ^ k = 0 := Nat.div_eq_of_lt (Nat.lt_of_lt_of_le hV (Nat.pow_le_pow_right (by decide) (by omega)))
    rw [h0, lm_zero, lm_zero, lm_zero, lm_zero]
    exact Shr_far V (k : Int) w (by omega) (by omega)
/-- **Shr.** -/
theorem ShrI_any (V : Nat) (k : Int) (hV : V < 2 ^ 256) (w : World) (hk : k < 9223372036854775808) :
    Calls Tryz.prog 93 #[.agg #[.int .u64 (lm (V) 0 : Nat), .int .u64 (lm (V) 1 : Nat), .int .u64 (lm (V) 2 : Nat), .int .u64 (lm (V) 3 : Nat)], .int .i64 k] w fun e w' => e = .returned (.agg #[.int .u64 (lm (V / 2 ^ k.toNat) 0 : Nat), .int .u64 (lm (V / 2 ^ k.toNat) 1 : Nat), .int .u64 (lm (V / 2 ^ k.toNat) 2 : Nat), .int .u64 (lm (V / 2 ^ k.toNat) 3 : Nat)]) ∧ Below w.heap.size w w' := by
  by_cases c : 0 ≤ k
  · have h := Shr_any V k.toNat hV w (by omega)
    rw [show ((k.toNat : Nat) : Int) = k from by omega] at h
    exact h
  · rw [show k.toNat = 0 from by omega, Nat.pow_zero, Nat.div_one]
    refine Shr_walk V 0 0 V k 0 hV w (by omega) (by omega) (by omega) (by omega) (by omega) (by omega) (by omega) ?_
    intro i
    rw [if_pos rfl, Nat.pow_zero, Nat.div_one, Nat.or_zero, Nat.add_zero]
end Go.Proofs.YtekeedjhaakbhaaGreatDoor
