/- Contracts of the document's digits: Less. -/
import Derived.Test.YtbmeejfpaeggjaaDoorDt
namespace Go.Proofs.YtbmeejfpaeggjaaDoor
open Go.RowKit
theorem div_digit (A d i : Nat) (hd : 0 < d) : (A / 2 ^ (32 * (i + 1)) % d * 4294967296 + dig A i) / d = dig (A / d) i ∧ (A / 2 ^ (32 * (i + 1)) % d * 4294967296 + dig A i) % d = A / 2 ^ (32 * i) % d := by
  have e1 := top_digit A i
  have hx := dig_lt A i
  obtain ⟨U, hU⟩ : ∃ U, U = A / 2 ^ (32 * (i + 1)) := ⟨_, rfl⟩
  rw [← hU] at e1 ⊢
  have hm := Nat.div_add_mod U d
  have hr : U % d < d := Nat.mod_lt _ hd
  obtain ⟨x, hx2⟩ : ∃ x, x = dig A i := ⟨_, rfl⟩
  rw [← hx2] at e1 hx ⊢
  have e2 : U * 4294967296 + x = (U % d * 4294967296 + x) + d * (U / d * 4294967296) := by
    conv => lhs; rw [← hm]
    rw [Nat.add_mul, Nat.mul_assoc]
    omega
  have hq : (U % d * 4294967296 + x) / d < 4294967296 := by
    rw [Nat.div_lt_iff_lt_mul hd, Nat.mul_comm]
    have : (U % d + 1) * 4294967296 ≤ d * 4294967296 := Nat.mul_le_mul_right _ hr
    omega
  constructor
  · show _ = A / d / 2 ^ (32 * i) % 4294967296
    rw [Nat.div_div_eq_div_mul, Nat.mul_comm d, ← Nat.div_div_eq_div_mul, e1, e2, Nat.add_mul_div_left _ _ hd, Nat.add_mul_mod_self_right, Nat.mod_eq_of_lt hq]
  · rw [e1, e2, Nat.add_mul_mod_self_left]
/-- the digits from m on -/
def upD (V m : Nat) : Nat := V / 2 ^ (32 * m) * 2 ^ (32 * m)
theorem upD_zero (V : Nat) : upD V 0 = V := by unfold upD; simp
theorem upD_top {V m : Nat} (h : V < 2 ^ (32 * m)) : upD V m = 0 := by unfold upD; rw [Nat.div_eq_of_lt h, Nat.zero_mul]
theorem upD_step (V i : Nat) : sd (upD V (i + 1)) i (dig V i) = upD V i := by
  have hp := Nat.two_pow_pos (32 * i)
  have hp2 := Nat.two_pow_pos (32 * (i + 1))
  have e : 2 ^ (32 * (i + 1)) = 2 ^ (32 * i) * 4294967296 := by
    rw [show 32 * (i + 1) = 32 * i + 32 from by omega, Nat.pow_add]
  have h1 : upD V (i + 1) % 2 ^ (32 * i) = 0 := by
    unfold upD
    rw [e, Nat.mul_left_comm, Nat.mul_mod_right]
  have h2 : upD V (i + 1) / 2 ^ (32 * (i + 1)) = V / 2 ^ (32 * (i + 1)) := by
    unfold upD
    rw [Nat.mul_div_cancel _ hp2]
  unfold sd
  rw [h1, h2, Nat.zero_add]
  unfold upD
  rw [top_digit V i]
  generalize 2 ^ (32 * i) = T
  generalize dig V i = x
  generalize V / 2 ^ (32 * (i + 1)) = y
  rw [Nat.mul_comm T, Nat.add_comm x, Nat.mul_comm 4294967296 y]
set_option maxRecDepth 20000 in
set_option maxHeartbeats 1600000 in
theorem DLess_walk (ba n ca A d : Nat) (w : World) (hn : n ≤ 1000000) (hn0 : 0 < n) (hd : 0 < d) (hd2 : (d : Int) < 4294967296) (hbw : ba < w.heap.size) (hcell : ∀ j, j < n → w.cell? ⟨ba, j, none⟩ = some (.int .u32 (dig A j : Nat))) (hA : A < 2 ^ (32 * n)) :
    Calls Tryd.prog 46 #[.slice (some ⟨ba, 0, none⟩) n ca, .int .u32 (d : Int)] w fun e w' => ∃ v, e = .returned (.tuple #[v, .int .u32 (A % d : Nat)]) ∧ IsD w' v (A / d) ∧ Below w.heap.size w w' := by
  obtain ⟨i0, hi, hz0, hz1, hz2⟩ := info_parts infoU32
  have H := Lib.hid (And.intro hcell (And.intro hA hd))
  have hd0 : ((d : Int) == 0) = false := by simp; omega
  have hd3 : 0 < (d : Int) := by omega
  clear hcell hA hd
  go_enter Tryd.func46, Tryd.ntmps46
  repeat any_goals (first | (at_make; refine wpList_make_full _ rfl (.tmp 10) (.tmp 10) 29 rfl w.heap.size 63 i0 (.int .u32 0) 1 Tryd.underlying29 hi hz0 hz1 .i64 .i64 _ _ n rfl rfl (by omega) (by omega) (by rw [hz2]; omega) (by unfold maxLen; omega) (Nat.le_refl _) ?_; intro w1 hown hgrow; rw [madeCells_digl] at hown; have OH := Lib.hid (And.intro hown hgrow); clear hown hgrow) | go_skip | go_guarded | go_step | go_upon | (dsimp only []))
  go_loopw [7, 8] (fun c i wr => ∃ m : Nat, m ≤ n ∧ i = .int .i64 ((m : Int) - 1) ∧ c = .int .u64 (A / 2 ^ (32 * m) % d : Nat) ∧ wr.ownsRow w.heap.size 63 1 (.slice (some ⟨w.heap.size, 0, none⟩) n n) n (digl (upD (A / d) m) n) ∧ Below w.heap.size w wr)
    (fun _ i _ => (intOf i + 1).toNat)
  case atStart =>
    refine ⟨n, by omega, rfl, ?_, ?_, (Below.refl _ _).grown OH.out.2 (Nat.le_refl _) (fun k h => by cases h)⟩
    · rw [Nat.div_eq_of_lt H.out.2.1, Nat.zero_mod]
      rfl
    · rw [upD_top (Nat.lt_of_le_of_lt (Nat.div_le_self _ _) H.out.2.1)]
      exact OH.out.1
  case round =>
    obtain ⟨m, hm, rfl, rfl, hown, hbel⟩ := hrel
    by_cases c0 : m = 0
    · subst c0
      rw [upD_zero] at hown
      have hD := Lib.hid (DN_own hown (Nat.lt_of_le_of_lt (Nat.div_le_self _ _) H.out.2.1) (by omega))
      rw [Nat.mul_zero, Nat.pow_zero, Nat.div_one]
      obtain ⟨r, hr⟩ : ∃ r, r = A % d := ⟨_, rfl⟩
      rw [← hr]
      have hrl : r < d := by rw [hr]; exact Nat.mod_lt _ H.out.2.2
      have hr4 : (r : Int) < 4294967296 := by omega
      have hrw : IntKind.u32.wrap (r : Int) = (r : Int) := by rw [IntKind.wrap_u32]; omega
      have HR := Lib.hid hr
      clear hown hr
      repeat any_goals (first | (go_at_call 42; refine (trim_any _ _ _ _ hD.out).mono ?_; rintro e w' ⟨⟨v, rfl, hv⟩, rfl⟩) | go_skip | go_guarded | go_step | go_upon | (dsimp only []))
      refine bodyPost_ret (v := .tuple #[v, .int .u32 (r : Int)]) (by simp [results, Tryd.results46, go_sem]) rfl ⟨v, by rw [HR.out], hv, hbel⟩
    · obtain ⟨i, rfl⟩ : ∃ i, m = i + 1 := ⟨m - 1, by omega⟩
      rw [show ((i + 1 : Nat) : Int) - 1 = (i : Int) from by omega]
      obtain ⟨q1, q2⟩ := div_digit A d i H.out.2.2
      have ca := (hbel.cell (p := ⟨ba, i, none⟩) hbw).trans (H.out.1 i (by omega))
      obtain ⟨c, hc⟩ : ∃ c, c = A / 2 ^ (32 * (i + 1)) % d := ⟨_, rfl⟩
      obtain ⟨x, hx⟩ : ∃ x, x = dig A i := ⟨_, rfl⟩
      obtain ⟨q, hq⟩ : ∃ q, q = dig (A / d) i := ⟨_, rfl⟩
      obtain ⟨c', hc'⟩ : ∃ c, c = A / 2 ^ (32 * i) % d := ⟨_, rfl⟩
      have hx4 : x < 4294967296 := hx ▸ dig_lt _ _
      have hq4 : q < 4294967296 := hq ▸ dig_lt _ _
      have hcd : c < d := by rw [hc]; exact Nat.mod_lt _ H.out.2.2
      rw [← hc, ← hx] at q1 q2
      rw [← hq] at q1
      rw [← hc'] at q2
      rw [← hx] at ca
      rw [← hc]
      obtain ⟨t, ht⟩ : ∃ t, t = c * 4294967296 + x := ⟨_, rfl⟩
      rw [← ht] at q1 q2
      have ht64 : t < 18446744073709551616 := by omega
      have o1 : bits BinOp.or IntKind.u64 ((c : Int) * 4294967296) (x : Int) = (t : Int) := by
        have h := u64_or_nat (c * 4294967296) x (by omega) (by omega)
        rw [show (c * 4294967296 : Nat) ||| x = t from by
          rw [ht, show c * 4294967296 = 2 ^ 32 * c from by omega, ← Nat.two_pow_add_eq_or_of_lt hx4]] at h
        rw [← h]
        simp
      have d1 : (t : Int) / (d : Int) = (q : Int) := by rw [← q1]; simp
      have d2 : (t : Int) % (d : Int) = (c' : Int) := by rw [← q2]; simp
      have d3 : IntKind.u64.wrap (q : Int) = (q : Int) := by rw [IntKind.wrap_u64]; omega
      have d4 : IntKind.u32.wrap (q : Int) = (q : Int) := by rw [IntKind.wrap_u32]; omega
      obtain ⟨s1, s2⟩ := row_store2 (q := i) (lo := q) hown (Nat.le_refl _) hbel hq4
      have s3 : digl (sd (upD (A / d) (i + 1)) i q) n = digl (upD (A / d) i) n := by rw [hq, upD_step]
      rw [s3] at s1
      have co := hown.cellAt i (show i < n * 1 by omega)
      have fo := hown.frozenAt i
      rw [digl_get (show i < n by omega)] at co
      have FH := Lib.hid (And.intro s1 (And.intro s2 hc'))
      have i1 : (i : Int) < (n : Int) := by omega
      have i2 : (0 : Int) ≤ (i : Int) := by omega
      clear s1 s2 s3 hown hc hx hq hc' ht q1 q2 hq4
      repeat any_goals (first | go_skip | go_guarded | go_step | go_upon | (simp only []; done))
      refine ⟨⟨i, by omega, by go_num, by rw [d2, FH.out.2.2], FH.out.1, FH.out.2.1⟩, ?_⟩
      first | (simp [intOf]; done) | (simp [intOf]; omega)
/-- **Less.** -/
theorem LessI_any (v : Value) (A d : Nat) (w : World) (h : IsD w v A) (hA : 0 < A) (hl : dl A ≤ 1000) (hd : 0 < d) (hd2 : d < 4294967296) :
    Calls Tryd.prog 46 #[v, .int .u32 (d : Int)] w fun e w' => ∃ v, e = .returned (.tuple #[v, .int .u32 (A % d : Nat)]) ∧ IsD w' v (A / d) ∧ Below w.heap.size w w' := by
  obtain ⟨hV, _, ao, cap, rfl, _, _, hc⟩ := h
  obtain ⟨b, rfl, hb, hce⟩ := hc (dl_pos hA)
  exact DLess_walk b (dl A) cap A d w (by omega) (dl_pos hA) hd (by omega) hb hce hV
end Go.Proofs.YtbmeejfpaeggjaaDoor
