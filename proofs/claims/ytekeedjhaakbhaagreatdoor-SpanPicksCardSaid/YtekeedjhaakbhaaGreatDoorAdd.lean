/- Contracts of package nat: fits, Add. -/
import Derived.Test.YtekeedjhaakbhaaGreatDoorGen
import Derived.Laws.Externs
namespace Go.Proofs.YtekeedjhaakbhaaGreatDoor
open Go.RowKit
set_option maxRecDepth 20000 in
set_option maxHeartbeats 400000 in
theorem fits_yes (V : Nat) (w : World) :
    Calls Tryz.prog 95 #[.agg #[.int .u64 (lm (V) 0 : Nat), .int .u64 (lm (V) 1 : Nat), .int .u64 (lm (V) 2 : Nat), .int .u64 (lm (V) 3 : Nat)], .int .u64 0] w fun e w' => e = .returned (.tuple #[.agg #[.int .u64 (lm (V) 0 : Nat), .int .u64 (lm (V) 1 : Nat), .int .u64 (lm (V) 2 : Nat), .int .u64 (lm (V) 3 : Nat)], .bool true]) ∧ Below w.heap.size w w' := by
  go_enter Tryz.func95, Tryz.ntmps95
  repeat any_goals (first | go_skip | go_guarded | go_step | go_upon | (simp only []; done))
  refine bodyPost_ret (v := .tuple #[.agg #[.int .u64 (lm (V) 0 : Nat), .int .u64 (lm (V) 1 : Nat), .int .u64 (lm (V) 2 : Nat), .int .u64 (lm (V) 3 : Nat)], .bool true]) ?_ rfl ⟨rfl, by (repeat first | with_reducible exact Below.refl _ _ | with_reducible assumption | with_reducible refine Below.drew ?_ | with_reducible refine below_alloc ?_ _ | ((with_reducible refine Below.setCell ?_ ?_ _); rotate_left; (focus (first | with_reducible exact Nat.le_refl _ | (simp; done) | (simp; omega) | omega))) | (with_reducible refine below_trans ?_ (by assumption)))⟩
  simp [results, Tryz.results95, go_sem]
set_option maxRecDepth 20000 in
set_option maxHeartbeats 400000 in
theorem fits_no (V c : Nat) (hc : ((c : Int) != 0) = true) (w : World) :
    Calls Tryz.prog 95 #[.agg #[.int .u64 (lm (V) 0 : Nat), .int .u64 (lm (V) 1 : Nat), .int .u64 (lm (V) 2 : Nat), .int .u64 (lm (V) 3 : Nat)], .int .u64 (c : Int)] w fun e w' => e = .returned (.tuple #[.agg #[.int .u64 0, .int .u64 0, .int .u64 0, .int .u64 0], .bool false]) ∧ Below w.heap.size w w' := by
  go_enter Tryz.func95, Tryz.ntmps95
  repeat any_goals (first | go_skip | go_guarded | go_step | go_upon | (simp only []; done))
  refine bodyPost_ret (v := .tuple #[.agg #[.int .u64 0, .int .u64 0, .int .u64 0, .int .u64 0], .bool false]) ?_ rfl ⟨rfl, by (repeat first | with_reducible exact Below.refl _ _ | with_reducible assumption | with_reducible refine Below.drew ?_ | with_reducible refine below_alloc ?_ _ | ((with_reducible refine Below.setCell ?_ ?_ _); rotate_left; (focus (first | with_reducible exact Nat.le_refl _ | (simp; done) | (simp; omega) | omega))) | (with_reducible refine below_trans ?_ (by assumption)))⟩
  simp [results, Tryz.results95, go_sem]
/-- the carry into limb i of a sum -/
def carry (A B i : Nat) : Nat := (A % 2 ^ (64 * i) + B % 2 ^ (64 * i)) / 2 ^ (64 * i)
theorem carry_le (A B i : Nat) : carry A B i ≤ 1 := by
  have h1 : A % 2 ^ (64 * i) < 2 ^ (64 * i) := Nat.mod_lt _ (Nat.two_pow_pos _)
  have h2 : B % 2 ^ (64 * i) < 2 ^ (64 * i) := Nat.mod_lt _ (Nat.two_pow_pos _)
  unfold carry
  apply Nat.le_of_lt_succ
  rw [Nat.div_lt_iff_lt_mul (Nat.two_pow_pos _)]
  omega
theorem mod64_succ (A i : Nat) : A % 2 ^ (64 * (i + 1)) = A % 2 ^ (64 * i) + 2 ^ (64 * i) * lm A i := by
  unfold lm
  rw [show 64 * (i + 1) = 64 * i + 64 from by omega, Nat.pow_add, Nat.mod_mul]
theorem add_limb (A B i : Nat) : (lm A i + lm B i + carry A B i) / 2 ^ 64 = carry A B (i + 1) ∧ (lm A i + lm B i + carry A B i) % 2 ^ 64 = lm (A + B) i := by
  have hp := Nat.two_pow_pos (64 * i)
  have hs : A % 2 ^ (64 * (i + 1)) + B % 2 ^ (64 * (i + 1)) = (A % 2 ^ (64 * i) + B % 2 ^ (64 * i)) + 2 ^ (64 * i) * (lm A i + lm B i) := by
    rw [mod64_succ, mod64_succ, Nat.mul_add]
    omega
  constructor
  · unfold carry
    rw [hs, show 64 * (i + 1) = 64 * i + 64 from by omega, Nat.pow_add, ← Nat.div_div_eq_div_mul, Nat.add_mul_div_left _ _ hp, Nat.add_comm ((A % 2 ^ (64 * i) + B % 2 ^ (64 * i)) / 2 ^ (64 * i))]
  · have hab : (A + B) % 2 ^ (64 * (i + 1)) = (A % 2 ^ (64 * (i + 1)) + B % 2 ^ (64 * (i + 1))) % 2 ^ (64 * (i + 1)) := by rw [Nat.add_mod]
    have hl : lm (A + B) i = (A + B) % 2 ^ (64 * (i + 1)) / 2 ^ (64 * i) := by
      unfold lm
      rw [show 64 * (i + 1) = 64 * i + 64 from by omega, Nat.pow_add, Nat.mod_mul_right_div_self]
    rw [hl, hab, hs]
    unfold carry
    rw [show 64 * (i + 1) = 64 * i + 64 from by omega, Nat.pow_add, Nat.mod_mul_right_div_self, Nat.add_mul_div_left _ _ hp, Nat.add_comm ((A % 2 ^ (64 * i) + B % 2 ^ (64 * i)) / 2 ^ (64 * i))]
/-- the cells in the loop of Add: block w.heap.size holds limbs f, the next one the limbs of B, the one behind it the result's -/
structure AddI (w wr : World) (f : Nat → Nat) (B : Nat) : Prop where
  a : ∀ j, j < 4 → wr.cell? ⟨w.heap.size, j, none⟩ = some (.int .u64 (f j : Nat)) ∧ wr.frozen? ⟨w.heap.size, j, none⟩ = false
  o : ∀ j, j < 4 → wr.cell? ⟨w.heap.size + 1, j, none⟩ = some (.int .u64 (lm B j : Nat))
  r : ∀ j, j < 4 → wr.cell? ⟨w.heap.size + 1 + 1, j, none⟩ = some (.int .u64 0) ∧ wr.frozen? ⟨w.heap.size + 1 + 1, j, none⟩ = false
  b : Below w.heap.size w wr
  l : w.heap.size + 1 + 1 < wr.heap.size
theorem set_other {w : World} {p q : Addr} {v : Value} (h : p ≠ q) : (w.setCell p v).cell? q = w.cell? q := World.cell?_setCell_other _ _ _ _ h
theorem AddI.set {w wr : World} {f g : Nat → Nat} {B m x : Nat} (h : AddI w wr f B) (hm : m < 4) (hx : x = g m) (hg : ∀ j, j < 4 → j ≠ m → g j = f j) : AddI w (wr.drew.setCell ⟨w.heap.size, m, none⟩ (.int .u64 (x : Int))) g B := by
  obtain ⟨c0, f0⟩ := h.a m hm
  have c1 : wr.drew.cell? ⟨w.heap.size, m, none⟩ = some (.int .u64 (f m : Nat)) := c0
  refine ⟨fun j hj => ⟨?_, by rw [World.frozen?_setCell]; exact (h.a j hj).2⟩, fun j hj => ?_, fun j hj => ⟨?_, by rw [World.frozen?_setCell]; exact (h.r j hj).2⟩, ?_, by simpa using h.l⟩
  · by_cases c : j = m
    · subst c
      rw [World.cell?_setCell_same _ _ _ c1, hx]
    · rw [set_other (fun h => c (by injection h with _ h2 _; exact h2.symm)), hg j hj c]
      exact (h.a j hj).1
  · rw [set_other (by simp)]; exact h.o j hj
  · rw [set_other (by simp)]; exact (h.r j hj).1
  · exact (h.b.drew).setCell (Nat.le_refl _) _
theorem addI_new {w : World} {A B : Nat} {t t1 t2 : TypeId} : AddI w (((w.alloc (.cells #[.int .u64 (lm A 0 : Nat), .int .u64 (lm A 1 : Nat), .int .u64 (lm A 2 : Nat), .int .u64 (lm A 3 : Nat)] t)).alloc (.cells #[.int .u64 (lm B 0 : Nat), .int .u64 (lm B 1 : Nat), .int .u64 (lm B 2 : Nat), .int .u64 (lm B 3 : Nat)] t1)).alloc (.cells #[.int .u64 0, .int .u64 0, .int .u64 0, .int .u64 0] t2)) (lm A) B := by
  refine ⟨?_, ?_, ?_, ?_, ?_⟩
  · intro j hj
    match j, hj with
    | 0, _ => simp [go_sem]
    | 1, _ => simp [go_sem]
    | 2, _ => simp [go_sem]
    | 3, _ => simp [go_sem]
  · intro j hj
    match j, hj with
    | 0, _ => simp [go_sem]
    | 1, _ => simp [go_sem]
    | 2, _ => simp [go_sem]
    | 3, _ => simp [go_sem]
  · intro j hj
    match j, hj with
    | 0, _ => simp [go_sem]
    | 1, _ => simp [go_sem]
    | 2, _ => simp [go_sem]
    | 3, _ => simp [go_sem]
  · (repeat first | with_reducible exact Below.refl _ _ | with_reducible assumption | with_reducible refine Below.drew ?_ | with_reducible refine below_alloc ?_ _ | ((with_reducible refine Below.setCell ?_ ?_ _); rotate_left; (focus (first | with_reducible exact Nat.le_refl _ | (simp; done) | (simp; omega) | omega))) | (with_reducible refine below_trans ?_ (by assumption)))
  · simp
set_option maxRecDepth 20000 in
set_option maxHeartbeats 1600000 in
theorem Add_walk (A B : Nat) (w : World) (ok : Bool) (R : Nat) (F : Hid (∀ w : World, Calls Tryz.prog 95 #[.agg #[.int .u64 (lm (A + B) 0 : Nat), .int .u64 (lm (A + B) 1 : Nat), .int .u64 (lm (A + B) 2 : Nat), .int .u64 (lm (A + B) 3 : Nat)], .int .u64 (carry A B 4 : Nat)] w fun e w' => e = .returned (.tuple #[.agg #[.int .u64 (lm (R) 0 : Nat), .int .u64 (lm (R) 1 : Nat), .int .u64 (lm (R) 2 : Nat), .int .u64 (lm (R) 3 : Nat)], .bool ok]) ∧ Below w.heap.size w w')) :
    Calls Tryz.prog 76 #[.agg #[.int .u64 (lm (A) 0 : Nat), .int .u64 (lm (A) 1 : Nat), .int .u64 (lm (A) 2 : Nat), .int .u64 (lm (A) 3 : Nat)], .agg #[.int .u64 (lm (B) 0 : Nat), .int .u64 (lm (B) 1 : Nat), .int .u64 (lm (B) 2 : Nat), .int .u64 (lm (B) 3 : Nat)]] w fun e w' => e = .returned (.tuple #[.agg #[.int .u64 (lm (R) 0 : Nat), .int .u64 (lm (R) 1 : Nat), .int .u64 (lm (R) 2 : Nat), .int .u64 (lm (R) 3 : Nat)], .bool ok]) ∧ Below w.heap.size w w' := by
  go_enter Tryz.func76, Tryz.ntmps76
  repeat any_goals (first | go_skip | go_guarded | go_step | go_upon | (simp only []; done))
  go_loopw [6, 8] (fun c i wr => ∃ m : Nat, m ≤ 4 ∧ i = .int .i64 m ∧ c = .int .u64 (carry A B m : Nat) ∧ AddI w wr (fun j => if j < m then lm (A + B) j else lm A j) B) (fun _ i _ => 4 - (intOf i).toNat)
  case atStart =>
    refine ⟨0, by omega, rfl, ?_, ?_⟩
    · have h : carry A B 0 = 0 := by unfold carry; simp [Nat.mod_one]
      rw [h]
      rfl
    · have h : (fun j => if j < 0 then lm (A + B) j else lm A j) = lm A := by funext j; simp
      rw [h]
      exact addI_new
  case round =>
    obtain ⟨m, hm, rfl, rfl, I⟩ := hrel
    have IH := Lib.hid I
    clear I
    by_cases c0 : m < 4
    · obtain ⟨ca, fa⟩ := IH.out.a m c0
      rw [if_neg (by omega)] at ca
      have cb := IH.out.o m c0
      obtain ⟨x, hx⟩ : ∃ x, x = lm A m := ⟨_, rfl⟩
      obtain ⟨y, hy⟩ : ∃ x, x = lm B m := ⟨_, rfl⟩
      obtain ⟨c, hc⟩ : ∃ x, x = carry A B m := ⟨_, rfl⟩
      obtain ⟨s, hs⟩ : ∃ s, s = lm (A + B) m := ⟨_, rfl⟩
      obtain ⟨c2, hc2⟩ : ∃ x, x = carry A B (m + 1) := ⟨_, rfl⟩
      have hadd : ∀ w, (callFunc 94 #[.int .u64 (x : Int), .int .u64 (y : Int), .int .u64 (c : Int)]).run Tryz.prog w = .ok (.value (.tuple #[.int .u64 (s : Int), .int .u64 (c2 : Int)])) w := by
        intro w
        have h := Tryz.bits_Add64 x y c (by rw [hc]; exact carry_le _ _ _) w
        obtain ⟨a1, a2⟩ := add_limb A B m
        rw [hs, hc2, ← a1, ← a2, ← hx, ← hy, ← hc]
        exact h
      rw [← hx] at ca
      rw [← hy] at cb
      rw [← hc]
      have G := Lib.hid (And.intro hs hc2)
      have i1 : (m : Int) < 4 := by omega
      have i2 : (0 : Int) ≤ (m : Int) := by omega
      have i5 : (m : Int).toNat = m := rfl
      clear hx hy hc hs hc2
      have FS : AddI w (wr.drew.setCell ⟨w.heap.size, m, none⟩ (.int .u64 (s : Int))) (fun j => if j < m + 1 then lm (A + B) j else lm A j) B := by
        refine IH.out.set c0 ?_ ?_
        · show s = if m < m + 1 then _ else _
          rw [if_pos (by omega)]
          exact G.out.1
        · intro j _ hj
          show (if j < m + 1 then lm (A + B) j else lm A j) = if j < m then lm (A + B) j else lm A j
          by_cases d : j < m
          · rw [if_pos d, if_pos (by omega)]
          · rw [if_neg d, if_neg (by omega)]
      have FH := Lib.hid FS
      clear FS
      repeat any_goals (first | go_skip | go_guarded | go_step | go_upon | (simp only []; done))
      go_region
      repeat any_goals (first | go_skip | go_guarded | go_step | go_upon | (simp only []; done))
      go_roundw
      case rel => exact ⟨m + 1, by omega, by go_num, by rw [G.out.2], FH.out⟩
      case measure => simp [intOf]; omega
    · have hm4 : m = 4 := by omega
      subst hm4
      obtain ⟨a0, f0⟩ := IH.out.a 0 (by omega)
      obtain ⟨a1, f1⟩ := IH.out.a 1 (by omega)
      obtain ⟨a2, f2⟩ := IH.out.a 2 (by omega)
      obtain ⟨a3, f3⟩ := IH.out.a 3 (by omega)
      rw [if_pos (by omega)] at a0 a1 a2 a3
      obtain ⟨b0, g0⟩ := IH.out.r 0 (by omega)
      obtain ⟨b1, g1⟩ := IH.out.r 1 (by omega)
      obtain ⟨b2, g2⟩ := IH.out.r 2 (by omega)
      obtain ⟨b3, g3⟩ := IH.out.r 3 (by omega)
      have hl := IH.out.l
      have hbb := IH.out.b
      repeat any_goals (first | (go_at_call 95; refine (F.out _).mono ?_; rintro e w3 ⟨rfl, hb3⟩; have d0 := hb3.cell (p := ⟨w.heap.size + 1 + 1, 0, none⟩) hl; rw [b0] at d0; have d1 := hb3.cell (p := ⟨w.heap.size + 1 + 1, 1, none⟩) hl; rw [b1] at d1; have d2 := hb3.cell (p := ⟨w.heap.size + 1 + 1, 2, none⟩) hl; rw [b2] at d2; have d3 := hb3.cell (p := ⟨w.heap.size + 1 + 1, 3, none⟩) hl; rw [b3] at d3; have e0 := hb3.frozen (p := ⟨w.heap.size + 1 + 1, 0, none⟩) hl; rw [g0] at e0; have e1 := hb3.frozen (p := ⟨w.heap.size + 1 + 1, 1, none⟩) hl; rw [g1] at e1; have e2 := hb3.frozen (p := ⟨w.heap.size + 1 + 1, 2, none⟩) hl; rw [g2] at e2; have e3 := hb3.frozen (p := ⟨w.heap.size + 1 + 1, 3, none⟩) hl; rw [g3] at e3) | go_skip | go_guarded | go_step | go_upon | (dsimp only []))
      have hW := below_trans hbb hb3
      refine bodyPost_ret (v := .tuple #[.agg #[.int .u64 (lm (R) 0 : Nat), .int .u64 (lm (R) 1 : Nat), .int .u64 (lm (R) 2 : Nat), .int .u64 (lm (R) 3 : Nat)], .bool ok]) ?_ rfl ⟨rfl, (((hW.setCell (by show w.heap.size ≤ w.heap.size + 1 + 1; omega) _).setCell (by show w.heap.size ≤ w.heap.size + 1 + 1; omega) _).setCell (by show w.heap.size ≤ w.heap.size + 1 + 1; omega) _).setCell (by show w.heap.size ≤ w.heap.size + 1 + 1; omega) _⟩
      simp [results, Tryz.results76, go_sem, d0, d1, d2, d3]
/-- **Add.** -/
theorem Add_any (A B : Nat) (hA : A < 2 ^ 256) (hB : B < 2 ^ 256) (w : World) :
    Calls Tryz.prog 76 #[.agg #[.int .u64 (lm (A) 0 : Nat), .int .u64 (lm (A) 1 : Nat), .int .u64 (lm (A) 2 : Nat), .int .u64 (lm (A) 3 : Nat)], .agg #[.int .u64 (lm (B) 0 : Nat), .int .u64 (lm (B) 1 : Nat), .int .u64 (lm (B) 2 : Nat), .int .u64 (lm (B) 3 : Nat)]] w fun e w' => e = .returned (.tuple #[.agg #[.int .u64 (lm (if A + B < 2 ^ 256 then A + B else 0) 0 : Nat), .int .u64 (lm (if A + B < 2 ^ 256 then A + B else 0) 1 : Nat), .int .u64 (lm (if A + B < 2 ^ 256 then A + B else 0) 2 : Nat), .int .u64 (lm (if A + B < 2 ^ 256 then A + B else 0) 3 : Nat)], .bool (decide (A + B < 2 ^ 256))]) ∧ Below w.heap.size w w' := by
  have hc : carry A B 4 = (A + B) / 2 ^ 256 := by
    unfold carry
    rw [Nat.mod_eq_of_lt hA, Nat.mod_eq_of_lt hB]
  by_cases c : A + B < 2 ^ 256
  · rw [if_pos c, decide_eq_true c]
    have h0 : carry A B 4 = 0 := by rw [hc, Nat.div_eq_of_lt c]
    refine Add_walk A B w true (A + B) (Lib.hid fun w => ?_)
    rw [h0]
    exact fits_yes (A + B) w
  · rw [if_neg c, decide_eq_false c]
    have h1 : carry A B 4 ≠ 0 := by
      rw [hc]
      intro h
      rcases Nat.div_eq_zero_iff.1 h with h | h
      · exact absurd h (by decide)
      · exact c h
    refine Add_walk A B w false 0 (Lib.hid fun w => ?_)
    rw [lm_zero, lm_zero, lm_zero, lm_zero]
    exact fits_no (A + B) _ (by simp; omega) w
end Go.Proofs.YtekeedjhaakbhaaGreatDoor
