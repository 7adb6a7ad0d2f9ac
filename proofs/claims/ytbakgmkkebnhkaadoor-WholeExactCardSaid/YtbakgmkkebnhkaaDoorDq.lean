/- Contracts of the document's digits: Shift. -/
import Derived.Test.YtbakgmkkebnhkaaDoorDp
namespace Go.Proofs.YtbakgmkkebnhkaaDoor
open Go.RowKit
def lenOf : Value → Nat
  | .slice _ n _ => n
  | _ => 0
theorem own_form {w : World} {B e n : Nat} {v : Value} {xs : List Value} (h : w.ownsRow B e 1 v n xs) (hn : 0 < n) : ∃ g cap, v = .slice (some ⟨g, 0, none⟩) n cap ∧ B ≤ g := by
  rcases h.2 with ⟨_, h0⟩ | ⟨g, cap, _, h1, h2, _⟩
  · omega
  · exact ⟨g, cap, h1, h2⟩
theorem own_len {w : World} {B e n : Nat} {v : Value} {xs : List Value} (h : w.ownsRow B e 1 v n xs) : ∃ ao cap, v = .slice ao n cap := by
  rcases h.2 with ⟨h1, h0⟩ | ⟨g, cap, _, h1, h2, _⟩
  · subst h0; exact ⟨none, 0, h1⟩
  · exact ⟨_, cap, h1⟩
theorem digl_snoc (P m : Nat) (h : P < 2 ^ (32 * m)) : digl P m ++ [Value.int .u32 0] = digl P (m + 1) := by
  unfold digl
  rw [List.range_succ]
  simp [dig_zero h (Nat.le_refl m)]
/-- one more bit -/
theorem shr_bit (W j : Nat) : W % 2 ^ (j + 1) = W % 2 ^ j + W / 2 ^ j % 2 * 2 ^ j := by
  rw [Nat.pow_succ, Nat.mod_mul, Nat.mul_comm (2 ^ j)]
/-- a bit put into its digit -/
theorem sd_bit {P j : Nat} (h : P < 2 ^ j) : dig P (j / 32) < 2 ^ (j % 32) ∧ dig P (j / 32) + 2 ^ (j % 32) < 4294967296 ∧ sd P (j / 32) (dig P (j / 32) + 2 ^ (j % 32)) = P + 2 ^ j := by
  have hr : j % 32 < 32 := Nat.mod_lt _ (by decide)
  have hj : j = 32 * (j / 32) + j % 32 := by omega
  have h1 : P / 2 ^ (32 * (j / 32)) < 2 ^ (j % 32) := by
    rw [Nat.div_lt_iff_lt_mul (Nat.two_pow_pos _), ← Nat.pow_add, Nat.add_comm, ← hj]
    exact h
  have h2 : (2 : Nat) ^ (j % 32) ≤ 2147483648 := Nat.le_trans (Nat.pow_le_pow_right (by decide) (show j % 32 ≤ 31 by omega)) (by decide)
  have h3 : dig P (j / 32) < 2 ^ (j % 32) := Nat.lt_of_le_of_lt (Nat.mod_le _ _) h1
  refine ⟨h3, by omega, ?_⟩
  have h4 := sd_add P (j / 32) (dig P (j / 32) + 2 ^ (j % 32))
  rw [Nat.add_mul, ← Nat.pow_add, Nat.add_comm (j % 32), ← hj] at h4
  omega
theorem row_store2 {w wr : World} {n P q lo g cp : Nat} (hown : wr.ownsRow w.heap.size 64 1 (.slice (some ⟨g, 0, none⟩) n cp) n (digl P n)) (hg : w.heap.size ≤ g) (hb : Below w.heap.size w wr) (hlo : lo < 4294967296) :
    (wr.setCell ⟨g, q, none⟩ (.int .u32 (lo : Int))).ownsRow w.heap.size 64 1 (.slice (some ⟨g, 0, none⟩) n cp) n (digl (sd P q lo) n) ∧ Below w.heap.size w (wr.setCell ⟨g, q, none⟩ (.int .u32 (lo : Int))) := by
  obtain ⟨o1, o2⟩ := hown.stored q (.int .u32 (lo : Int))
  rw [digl_set hlo] at o1
  exact ⟨o1, hb.grown o2 hb.size (fun k h => by cases h; exact hg)⟩
theorem one_cell {w : World} {B : Nat} {x : Value} (c0 : w.cell? ⟨B, 0, none⟩ = some x) : ∀ j u, [x][j]? = some u → w.cell? ((⟨B, 0, none⟩ : Addr).add j) = some u := by
  intro j u hj
  match j, hj with
  | 0, hj => simp at hj; subst hj; exact c0
theorem one_one {x : Int} : ∀ u ∈ [Value.int .u32 x], u.oneCell' = true := by
  intro u hu
  simp at hu
  subst hu
  rfl
theorem or_bit {x r : Nat} (h : x < 2 ^ r) : x ||| 2 ^ r = x + 2 ^ r := by
  rw [Nat.or_comm]
  have := Nat.two_pow_add_eq_or_of_lt h 1
  rw [Nat.mul_one] at this
  omega
set_option maxRecDepth 20000 in
set_option maxHeartbeats 1600000 in
theorem Shift_walk (do_ : Option Addr) (n cap V s : Nat) (w : World) (h : DN w (.slice do_ n cap) n V) (hn : n ≤ 1000000) (hs : 0 < s) (hs2 : s ≤ 1000000) :
    Calls Tryd.prog 52 #[.slice do_ n cap, .int .i64 (-(s : Int))] w fun e w' => ∃ v, e = .returned v ∧ IsD w' v (V / 2 ^ s) ∧ Below w.heap.size w w' := by
  obtain ⟨i0, hi, hz0, hz1, hz2⟩ := info_parts infoU32
  have H := Lib.hid h
  clear h
  go_enter Tryd.func52, Tryd.ntmps52
  repeat any_goals (first | go_skip | go_guarded | go_step | go_upon | (simp only []; done))
  rw [decide_eq_false (show ¬ s = 0 by omega)]
  go_loopw [5, 6] (fun v i wr => ∃ j : Nat, j ≤ 32 * n ∧ i = .int .i64 ((s : Int) + j) ∧ wr.ownsRow w.heap.size 64 1 v ((j + 31) / 32) (digl (V / 2 ^ s % 2 ^ j) ((j + 31) / 32)) ∧ (j = 0 ∨ s + j ≤ 32 * n) ∧ Below w.heap.size w wr)
    (fun _ i _ => 32 * n + s - (intOf i).toNat)
  case atStart =>
    refine ⟨0, by omega, by simp, ?_, .inl rfl, Below.refl _ _⟩
    exact World.ownsRow_nil _ _ _ _
  case round =>
    obtain ⟨j, hj, rfl, hown, hjn, hbel⟩ := hrel
    obtain ⟨m, hm⟩ : ∃ m, m = (j + 31) / 32 := ⟨_, rfl⟩
    obtain ⟨q, hq⟩ : ∃ q, q = j / 32 := ⟨_, rfl⟩
    obtain ⟨P, hP⟩ : ∃ P, P = V / 2 ^ s % 2 ^ j := ⟨_, rfl⟩
    rw [← hm, ← hP] at hown
    have hPj : P < 2 ^ j := by rw [hP]; exact Nat.mod_lt _ (Nat.two_pow_pos _)
    have eq : (j : Int) / 32 = (q : Int) := by omega
    have hmq : m = q ∨ m = q + 1 := by omega
    have hm2 : m ≤ 1000000 := by omega
    have hq2 : q ≤ 1000000 := by omega
    have ej : (s : Int) + (j : Int) + -(s : Int) = (j : Int) := by omega
    obtain ⟨ao, cp, rfl⟩ := own_len hown
    have HM := Lib.hid (And.intro hm (And.intro hq (And.intro hP hPj)))
    have HJ := Lib.hid hjn
    clear hm hq hP hPj hjn
    by_cases hlt : s + j < n * 32
    · repeat any_goals (first | go_skip | go_guarded | go_step | go_upon | (simp only []; done))
      rw [decide_eq_true (show (s : Int) + (j : Int) < (n : Int) * 32 by omega)]
      go_loopw [5] (fun v wr => ∃ m' : Nat, ((m' = q ∧ P < 2 ^ (32 * q)) ∨ m' = q + 1) ∧ wr.ownsRow w.heap.size 64 1 v m' (digl P m') ∧ Below w.heap.size w wr)
        (fun v _ => q + 1 - lenOf v)
      case atStart =>
        refine ⟨m, ?_, hown, hbel⟩
        rcases hmq with h | h
        · left
          obtain ⟨h1, h2, _, h4⟩ := HM.out
          have h5 : j = 32 * q := by omega
          rw [h5] at h4
          exact ⟨h, h4⟩
        · exact .inr h
      case round =>
        clear hown hbel hmq hm2
        obtain ⟨m', hmq', hown, hbel⟩ := hrel
        obtain ⟨ao', cp', rfl⟩ := own_len hown
        by_cases hmm : m' = q
        · subst hmm
          have b1 : m' + 1 ≤ maxLen := by unfold maxLen; omega
          have b2 : (m' + 1) * 4 ≤ 140737488355328 := by omega
          have hsz := hbel.size
          repeat any_goals (first | (at_builtin; refine wpList_append_own _ rfl (.tmp 31) (.tmp 32) 54 rfl w.heap.size 64 i0 (.int .u32 0) 1 4 Tryd.underlying54 hi hz0 hz1 hz2 rfl (by decide) _ _ _ rfl (hown.alloc _) ⟨wr.heap.size, 0, none⟩ 1 1 [.int .u32 0] rfl rfl (one_cell (by simp)) one_one b1 b2 (by simp; omega) ?_; intro v' w1 hown' hgrow _) | go_skip | go_guarded | go_step | go_upon | (dsimp only []))
          go_roundw
          case rel =>
            refine ⟨m' + 1, .inr rfl, ?_, (hbel.alloc hsz _).grown hgrow (by simp; omega) (fun k h => (hown.lt k h).1)⟩
            have hPq : P < 2 ^ (32 * m') := by
              rcases hmq' with h | h
              · exact h.2
              · omega
            rw [← digl_snoc P m' hPq]
            exact hown'
          case measure =>
            obtain ⟨ao2, cp2, rfl⟩ := own_len hown'
            simp [lenOf]
        · have hm1 : m' = q + 1 := by omega
          subst hm1
          obtain ⟨g, cp2, hv, hg⟩ := own_form hown (by omega)
          obtain ⟨rfl, _, rfl⟩ : ao' = some ⟨g, 0, none⟩ ∧ True ∧ cp' = cp2 := by simp at hv; exact ⟨hv.1, trivial, hv.2⟩
          have hD := H.out.below hbel
          obtain ⟨g1, g2, g3, g4⟩ := HM.out
          have hW : V / 2 ^ s % 2 ^ (j + 1) = P + V / 2 ^ (s + j) % 2 * 2 ^ j := by
            rw [shr_bit, ← g3, Nat.pow_add, ← Nat.div_div_eq_div_mul]
          have hbI : bitI V ((s : Int) + (j : Int)) = (V / 2 ^ (s + j) % 2 == 1) := by
            unfold bitI
            rw [decide_eq_true (by omega), Bool.true_and, show ((s : Int) + (j : Int)).toNat = s + j from by omega]
          have he1 : (j + 1 + 31) / 32 = q + 1 := by omega
          have hfin : j + 1 = 0 ∨ s + (j + 1) ≤ 32 * n := .inr (by omega)
          have hj1 : j + 1 ≤ 32 * n := by omega
          have FH := Lib.hid (And.intro hW (And.intro he1 (And.intro hfin (And.intro hbI hj1))))
          have BH := Lib.hid hmq'
          have sb := sd_bit g4
          rw [← g2] at sb
          obtain ⟨x, hx⟩ : ∃ x, x = dig P q := ⟨_, rfl⟩
          obtain ⟨r, hr⟩ : ∃ r, r = j % 32 := ⟨_, rfl⟩
          rw [← hx, ← hr] at sb
          have cw := hown.cellAt q (by omega)
          rw [digl_get (by omega), ← hx] at cw
          have fw := hown.frozenAt q
          obtain ⟨s1, s2, s3⟩ := sb
          obtain ⟨p2, hp2⟩ : ∃ p2, p2 = 2 ^ r := ⟨_, rfl⟩
          have er : (j : Int) % 32 = (r : Int) := by omega
          have ex : IntKind.u32.wrap (2 ^ r) = (p2 : Int) := by
            rw [show (2 ^ r : Int) = ((2 ^ r : Nat) : Int) from by simp, IntKind.wrap_u32, hp2]
            have h : ∀ z : Nat, z < 4294967296 → (z : Int) % 4294967296 = z := fun z hz => by omega
            exact h _ (by omega)
          have eo : bits BinOp.or IntKind.u32 (x : Int) (p2 : Int) = ((x + p2 : Nat) : Int) := by
            rw [u32_or_nat x p2 (by omega) (by rw [hp2]; omega), hp2, or_bit s1]
          obtain ⟨z, hz⟩ : ∃ z, z = x + p2 := ⟨_, rfl⟩
          rw [← hz] at eo
          have SH := Lib.hid (And.intro hz (And.intro hp2 (And.intro s2 s3)))
          have hr32 : r < 32 := by omega
          clear hW hbI he1 hfin hj1 s1 s2 s3 hp2 hz hr hx g1 g2 g3 g4 hmq'
          cases hbit : bitI V ((s : Int) + (j : Int)) with
          | false =>
            repeat any_goals (first | (go_at_call 75; refine (Bit_any _ _ V _ _ hD (by omega) (by omega)).mono ?_; rintro e w' ⟨rfl, rfl⟩; rw [hbit]) | go_skip | go_guarded | go_step | go_upon | (dsimp only []))
            go_roundw
            case rel =>
              obtain ⟨f1, f2, f3, f4, f5⟩ := FH.out
              refine ⟨j + 1, f5, by go_num, ?_, f3, hbel⟩
              rw [f4] at hbit
              have h0 : V / 2 ^ (s + j) % 2 = 0 := by
                have h1 : V / 2 ^ (s + j) % 2 < 2 := Nat.mod_lt _ (by decide)
                generalize V / 2 ^ (s + j) % 2 = y at *
                have : y ≠ 1 := by simpa using hbit
                omega
              rw [f1, f2, h0, Nat.zero_mul, Nat.add_zero]
              exact hown
            case measure => simp [intOf]; omega
          | true =>
            repeat any_goals (first | (go_at_call 75; refine (Bit_any _ _ V _ _ hD (by omega) (by omega)).mono ?_; rintro e w' ⟨rfl, rfl⟩; rw [hbit]) | go_skip | go_guarded | go_step | go_upon | (dsimp only []))
            go_roundw
            case rel =>
              obtain ⟨f1, f2, f3, f4, f5⟩ := FH.out
              obtain ⟨z1, z2, z3, z4⟩ := SH.out
              have hzl : z < 4294967296 := by rw [z1, z2]; exact z3
              obtain ⟨r1, r2⟩ := row_store2 (q := q) hown hg hbel hzl
              refine ⟨j + 1, f5, by go_num, ?_, f3, r2⟩
              rw [f4] at hbit
              have h0 : V / 2 ^ (s + j) % 2 = 1 := by simpa using hbit
              rw [f1, f2, h0, Nat.one_mul]
              rw [z1, z2, z4] at r1
              rw [z1, z2]
              exact r1
            case measure => simp [intOf]; omega
    · obtain ⟨g1, g2, g3, g4⟩ := HM.out
      have hlt' : ¬ (s : Int) + (j : Int) < (n : Int) * 32 := by omega
      have hPV : P = V / 2 ^ s := by
        rw [g3]
        apply Nat.mod_eq_of_lt
        rw [Nat.div_lt_iff_lt_mul (Nat.two_pow_pos _), ← Nat.pow_add]
        refine Nat.lt_of_lt_of_le H.out.1 (Nat.pow_le_pow_right (by decide) ?_)
        rcases HJ.out with h | h
        · omega
        · omega
      have hPm : P < 2 ^ (32 * m) := Nat.lt_of_lt_of_le g4 (Nat.pow_le_pow_right (by decide) (by omega))
      have hD := DN_own hown hPm (by omega)
      rw [hPV] at hD
      have DH := Lib.hid hD
      clear hD hown hPm g1 g2 g3 g4 hPV hlt hmq hm2 hq2
      repeat any_goals (first | (go_at_call 69; refine (trim_any _ _ _ _ DH.out).mono ?_; rintro e w' ⟨⟨v, rfl, hv⟩, rfl⟩) | go_skip | go_guarded | go_step | go_upon | (dsimp only []))
      go_ret
      exact ⟨v, rfl, hv, hbel⟩
end Go.Proofs.YtbakgmkkebnhkaaDoor
