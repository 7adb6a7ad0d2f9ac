/- Contracts of package nat: Sub. -/
import Derived.Test.YtekeedjhaakbhaaGreatDoorAdd
namespace Go.Proofs.YtekeedjhaakbhaaGreatDoor
open Go.RowKit
/-- the borrow from limb i of a difference; the difference modulo 2^256 -/
def borrow (A B i : Nat) : Nat := if A % 2 ^ (64 * i) < B % 2 ^ (64 * i) then 1 else 0
def dif (A B : Nat) : Nat := if B ≤ A then A - B else A + 2 ^ 256 - B
theorem borrow_le (A B i : Nat) : borrow A B i ≤ 1 := by unfold borrow; split <;> omega
theorem dif_add {A B : Nat} (hB : B < 2 ^ 256) : ∃ e, e ≤ 1 ∧ dif A B + B = A + e * 2 ^ 256 := by
  unfold dif
  by_cases c : B ≤ A
  · rw [if_pos c]
    exact ⟨0, by decide, by omega⟩
  · rw [if_neg c]
    exact ⟨1, by decide, by omega⟩
theorem lm_add_top (A e i : Nat) (hi : i < 4) : lm (A + e * 2 ^ 256) i = lm A i := by
  unfold lm
  have h : (2 : Nat) ^ 256 = 2 ^ (64 * i) * (2 ^ 64 * 2 ^ (64 * (3 - i))) := by
    rw [← Nat.pow_add, ← Nat.pow_add]
    congr 1
    omega
  rw [h, Nat.mul_left_comm, Nat.add_mul_div_left _ _ (Nat.two_pow_pos _), Nat.mul_left_comm, Nat.add_mul_mod_self_left]
theorem mod_add_top (A e i : Nat) (hi : i ≤ 4) : (A + e * 2 ^ 256) % 2 ^ (64 * i) = A % 2 ^ (64 * i) := by
  have h : (2 : Nat) ^ 256 = 2 ^ (64 * i) * 2 ^ (64 * (4 - i)) := by
    rw [← Nat.pow_add]
    congr 1
    omega
  rw [h, Nat.mul_left_comm, Nat.add_mul_mod_self_left]
theorem carry_dif {A B : Nat} (hB : B < 2 ^ 256) (i : Nat) (hi : i ≤ 4) : carry (dif A B) B i = borrow A B i := by
  obtain ⟨e, _, h⟩ := dif_add (A := A) hB
  have hm : A % 2 ^ (64 * i) = (dif A B % 2 ^ (64 * i) + B % 2 ^ (64 * i)) % 2 ^ (64 * i) := by
    rw [← Nat.add_mod, h, mod_add_top A e i hi]
  have hp := Nat.two_pow_pos (64 * i)
  have h1 : dif A B % 2 ^ (64 * i) < 2 ^ (64 * i) := Nat.mod_lt _ hp
  have h2 : B % 2 ^ (64 * i) < 2 ^ (64 * i) := Nat.mod_lt _ hp
  unfold carry borrow
  rw [hm]
  generalize dif A B % 2 ^ (64 * i) = x at *
  generalize B % 2 ^ (64 * i) = y at *
  generalize 2 ^ (64 * i) = T at *
  by_cases c : x + y < T
  · rw [Nat.div_eq_of_lt c, Nat.mod_eq_of_lt c, if_neg (by omega)]
  · have e1 : x + y = (x + y - T) + T * 1 := by omega
    rw [e1, Nat.add_mul_div_left _ _ hp, Nat.add_mul_mod_self_left, Nat.div_eq_of_lt (by omega), Nat.mod_eq_of_lt (by omega), if_pos (by omega)]
theorem sub_limb {A B : Nat} (hB : B < 2 ^ 256) (i : Nat) (hi : i < 4) : (if lm A i < lm B i + borrow A B i then 1 else 0) = borrow A B (i + 1) ∧ (lm A i + 18446744073709551616 - lm B i - borrow A B i) % 18446744073709551616 = lm (dif A B) i := by
  obtain ⟨h1, h2⟩ := add_limb (dif A B) B i
  obtain ⟨e, _, h⟩ := dif_add (A := A) hB
  rw [h, lm_add_top A e i hi] at h2
  rw [carry_dif hB i (by omega), carry_dif hB (i + 1) (by omega), show (2 : Nat) ^ 64 = 18446744073709551616 from by decide] at h1
  rw [carry_dif hB i (by omega), show (2 : Nat) ^ 64 = 18446744073709551616 from by decide] at h2
  have l1 := lm_lt (dif A B) i
  have l2 := lm_lt B i
  have l3 := borrow_le A B i
  rw [← h1, ← h2]
  generalize lm (dif A B) i = d at *
  generalize lm B i = y at *
  generalize borrow A B i = b at *
  clear h1 h2 h
  have e1 : d + y + b < 2 * 18446744073709551616 := by omega
  constructor
  · by_cases c : d + y + b < 18446744073709551616
    · rw [Nat.div_eq_of_lt c, Nat.mod_eq_of_lt c, if_neg (by omega)]
    · rw [if_pos (by omega)]
      omega
  · omega
set_option maxRecDepth 20000 in
set_option maxHeartbeats 1600000 in
theorem Sub_walk (A B : Nat) (hB : B < 2 ^ 256) (w : World) (ok : Bool) (R : Nat) (F : Hid (∀ w : World, Calls Tryz.prog 95 #[.agg #[.int .u64 (lm (dif A B) 0 : Nat), .int .u64 (lm (dif A B) 1 : Nat), .int .u64 (lm (dif A B) 2 : Nat), .int .u64 (lm (dif A B) 3 : Nat)], .int .u64 (borrow A B 4 : Nat)] w fun e w' => e = .returned (.tuple #[.agg #[.int .u64 (lm (R) 0 : Nat), .int .u64 (lm (R) 1 : Nat), .int .u64 (lm (R) 2 : Nat), .int .u64 (lm (R) 3 : Nat)], .bool ok]) ∧ Below w.heap.size w w')) :
    Calls Tryz.prog 90 #[.agg #[.int .u64 (lm (A) 0 : Nat), .int .u64 (lm (A) 1 : Nat), .int .u64 (lm (A) 2 : Nat), .int .u64 (lm (A) 3 : Nat)], .agg #[.int .u64 (lm (B) 0 : Nat), .int .u64 (lm (B) 1 : Nat), .int .u64 (lm (B) 2 : Nat), .int .u64 (lm (B) 3 : Nat)]] w fun e w' => e = .returned (.tuple #[.agg #[.int .u64 (lm (R) 0 : Nat), .int .u64 (lm (R) 1 : Nat), .int .u64 (lm (R) 2 : Nat), .int .u64 (lm (R) 3 : Nat)], .bool ok]) ∧ Below w.heap.size w w' := by
  have HB := Lib.hid hB
  clear hB
  go_enter Tryz.func90, Tryz.ntmps90
  repeat any_goals (first | go_skip | go_guarded | go_step | go_upon | (simp only []; done))
  go_loopw [6, 8] (fun c i wr => ∃ m : Nat, m ≤ 4 ∧ i = .int .i64 m ∧ c = .int .u64 (borrow A B m : Nat) ∧ AddI w wr (fun j => if j < m then lm (dif A B) j else lm A j) B) (fun _ i _ => 4 - (intOf i).toNat)
  case atStart =>
    refine ⟨0, by omega, rfl, ?_, ?_⟩
    · have h : borrow A B 0 = 0 := by unfold borrow; simp [Nat.mod_one]
      rw [h]
      rfl
    · have h : (fun j => if j < 0 then lm (dif A B) j else lm A j) = lm A := by funext j; simp
      rw [h]
      exact addI_new
  case round =>
    obtain ⟨m, hm, rfl, rfl, I⟩ := hrel
    have IH := Lib.hid I
    clear I
    by_cases c0 : m < 4
    · obtain ⟨ca, fa⟩ := IH.out.a m c0
      rw [if_neg (by omega)] at ca
      have cb := IH.out.o m c0
      obtain ⟨x, hx⟩ : ∃ x, x = lm A m := ⟨_, rfl⟩
      obtain ⟨y, hy⟩ : ∃ x, x = lm B m := ⟨_, rfl⟩
      obtain ⟨c, hc⟩ : ∃ x, x = borrow A B m := ⟨_, rfl⟩
      obtain ⟨s, hs⟩ : ∃ s, s = lm (dif A B) m := ⟨_, rfl⟩
      obtain ⟨c2, hc2⟩ : ∃ x, x = borrow A B (m + 1) := ⟨_, rfl⟩
      have hsub : ∀ w, (callFunc 102 #[.int .u64 (x : Int), .int .u64 (y : Int), .int .u64 (c : Int)]).run Tryz.prog w = .ok (.value (.tuple #[.int .u64 (s : Int), .int .u64 (c2 : Int)])) w := by
        intro w
        have h := Tryz.bits_Sub64 x y c (by rw [hc]; exact borrow_le _ _ _) w
        obtain ⟨a1, a2⟩ := sub_limb (A := A) HB.out m c0
        rw [hs, hc2, ← a1, ← a2, ← hx, ← hy, ← hc]
        exact h
      rw [← hx] at ca
      rw [← hy] at cb
      rw [← hc]
      have G := Lib.hid (And.intro hs hc2)
      have i1 : (m : Int) < 4 := by omega
      have i2 : (0 : Int) ≤ (m : Int) := by omega
      have i5 : (m : Int).toNat = m := rfl
      clear hx hy hc hs hc2
      have FS : AddI w (wr.drew.setCell ⟨w.heap.size, m, none⟩ (.int .u64 (s : Int))) (fun j => if j < m + 1 then lm (dif A B) j else lm A j) B := by
        refine IH.out.set c0 ?_ ?_
        · show s = if m < m + 1 then _ else _
          rw [if_pos (by omega)]
          exact G.out.1
        · intro j _ hj
          show (if j < m + 1 then lm (dif A B) j else lm A j) = if j < m then lm (dif A B) j else lm A j
          by_cases d : j < m
          · rw [if_pos d, if_pos (by omega)]
          · rw [if_neg d, if_neg (by omega)]
      have FH := Lib.hid FS
      clear FS
      repeat any_goals (first | go_skip | go_guarded | go_step | go_upon | (simp only []; done))
      go_region
      repeat any_goals (first | go_skip | go_guarded | go_step | go_upon | (simp only []; done))
      go_roundw
      case rel => exact ⟨m + 1, by omega, by go_num, by rw [G.out.2], FH.out⟩
      case measure => simp [intOf]; omega
    · have hm4 : m = 4 := by omega
      subst hm4
      obtain ⟨a0, f0⟩ := IH.out.a 0 (by omega)
      obtain ⟨a1, f1⟩ := IH.out.a 1 (by omega)
      obtain ⟨a2, f2⟩ := IH.out.a 2 (by omega)
      obtain ⟨a3, f3⟩ := IH.out.a 3 (by omega)
      rw [if_pos (by omega)] at a0 a1 a2 a3
      obtain ⟨b0, g0⟩ := IH.out.r 0 (by omega)
      obtain ⟨b1, g1⟩ := IH.out.r 1 (by omega)
      obtain ⟨b2, g2⟩ := IH.out.r 2 (by omega)
      obtain ⟨b3, g3⟩ := IH.out.r 3 (by omega)
      have hl := IH.out.l
      have hbb := IH.out.b
      repeat any_goals (first | (go_at_call 95; refine (F.out _).mono ?_; rintro e w3 ⟨rfl, hb3⟩; have d0 := hb3.cell (p := ⟨w.heap.size + 1 + 1, 0, none⟩) hl; rw [b0] at d0; have d1 := hb3.cell (p := ⟨w.heap.size + 1 + 1, 1, none⟩) hl; rw [b1] at d1; have d2 := hb3.cell (p := ⟨w.heap.size + 1 + 1, 2, none⟩) hl; rw [b2] at d2; have d3 := hb3.cell (p := ⟨w.heap.size + 1 + 1, 3, none⟩) hl; rw [b3] at d3; have e0 := hb3.frozen (p := ⟨w.heap.size + 1 + 1, 0, none⟩) hl; rw [g0] at e0; have e1 := hb3.frozen (p := ⟨w.heap.size + 1 + 1, 1, none⟩) hl; rw [g1] at e1; have e2 := hb3.frozen (p := ⟨w.heap.size + 1 + 1, 2, none⟩) hl; rw [g2] at e2; have e3 := hb3.frozen (p := ⟨w.heap.size + 1 + 1, 3, none⟩) hl; rw [g3] at e3) | go_skip | go_guarded | go_step | go_upon | (dsimp only []))
      have hW := below_trans hbb hb3
      refine bodyPost_ret (v := .tuple #[.agg #[.int .u64 (lm (R) 0 : Nat), .int .u64 (lm (R) 1 : Nat), .int .u64 (lm (R) 2 : Nat), .int .u64 (lm (R) 3 : Nat)], .bool ok]) ?_ rfl ⟨rfl, (((hW.setCell (by show w.heap.size ≤ w.heap.size + 1 + 1; omega) _).setCell (by show w.heap.size ≤ w.heap.size + 1 + 1; omega) _).setCell (by show w.heap.size ≤ w.heap.size + 1 + 1; omega) _).setCell (by show w.heap.size ≤ w.heap.size + 1 + 1; omega) _⟩
      simp [results, Tryz.results90, go_sem, d0, d1, d2, d3]
/-- **Sub.** -/
theorem Sub_any (A B : Nat) (hA : A < 2 ^ 256) (hB : B < 2 ^ 256) (w : World) :
    Calls Tryz.prog 90 #[.agg #[.int .u64 (lm (A) 0 : Nat), .int .u64 (lm (A) 1 : Nat), .int .u64 (lm (A) 2 : Nat), .int .u64 (lm (A) 3 : Nat)], .agg #[.int .u64 (lm (B) 0 : Nat), .int .u64 (lm (B) 1 : Nat), .int .u64 (lm (B) 2 : Nat), .int .u64 (lm (B) 3 : Nat)]] w fun e w' => e = .returned (.tuple #[.agg #[.int .u64 (lm (A - B) 0 : Nat), .int .u64 (lm (A - B) 1 : Nat), .int .u64 (lm (A - B) 2 : Nat), .int .u64 (lm (A - B) 3 : Nat)], .bool (decide (B ≤ A))]) ∧ Below w.heap.size w w' := by
  have hb : borrow A B 4 = if A < B then 1 else 0 := by
    unfold borrow
    rw [Nat.mod_eq_of_lt hA, Nat.mod_eq_of_lt hB]
  by_cases c : B ≤ A
  · rw [decide_eq_true c]
    have h0 : borrow A B 4 = 0 := by rw [hb, if_neg (by omega)]
    have hd : dif A B = A - B := if_pos c
    refine Sub_walk A B hB w true (A - B) (Lib.hid fun w => ?_)
    rw [h0, hd]
    exact fits_yes (A - B) w
  · rw [decide_eq_false c, show A - B = 0 from by omega]
    have h1 : borrow A B 4 = 1 := by rw [hb, if_pos (by omega)]
    refine Sub_walk A B hB w false 0 (Lib.hid fun w => ?_)
    rw [lm_zero, lm_zero, lm_zero, lm_zero, h1]
    exact fits_no (dif A B) 1 rfl w
end Go.Proofs.YtekeedjhaakbhaaGreatDoor
