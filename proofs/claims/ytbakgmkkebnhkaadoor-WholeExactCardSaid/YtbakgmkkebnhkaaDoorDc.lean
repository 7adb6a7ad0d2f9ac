/- Contracts of the document's digits: at, Pow. -/
import Derived.Test.YtbakgmkkebnhkaaDoorMathE
namespace Go.Proofs.YtbakgmkkebnhkaaDoor
open Go.RowKit
theorem at_in (b n cap q x : Nat) (w : World) (_hn : n ≤ 281474976) (hq : q < n) (hx : x < 4294967296) (hc : w.cell? ⟨b, q, none⟩ = some (.int .u32 (x : Nat))) :
    Calls Tryd.prog 77 #[.slice (some ⟨b, 0, none⟩) n cap, .int .i64 (q : Int)] w fun e w' => e = .returned (.int .u64 (x : Nat)) ∧ w = w' := by
  go_enter Tryd.func77, Tryd.ntmps77
  repeat any_goals (first | go_skip | go_guarded | go_step | go_upon | (simp only []; done))
  go_ret
  simp
theorem at_out (ao : Option Addr) (n cap q : Nat) (w : World) (hq : ¬ q < n) :
    Calls Tryd.prog 77 #[.slice ao n cap, .int .i64 (q : Int)] w fun e w' => e = .returned (.int .u64 0) ∧ w = w' := by
  go_enter Tryd.func77, Tryd.ntmps77
  repeat any_goals (first | go_skip | go_guarded | go_step | go_upon | (simp only []; done))
  go_ret
  simp
/-- **at.** -/
theorem at_any (v : Value) (n V q : Nat) (w : World) (h : DN w v n V) :
    Calls Tryd.prog 77 #[v, .int .i64 (q : Int)] w fun e w' => e = .returned (.int .u64 (dig V q : Nat)) ∧ w = w' := by
  obtain ⟨hV, hn, ao, cap, rfl, hcap, _, hc⟩ := h
  by_cases c : q < n
  · obtain ⟨b, rfl, _, hcell⟩ := hc (by omega)
    exact at_in b n cap q _ w hn c (dig_lt _ _) (hcell q c)
  · rw [dig_zero hV (by omega)]
    exact at_out ao n cap q w c
theorem sd_0 (q d : Nat) : sd 0 q d = d * 2 ^ (32 * q) := by
  have h := sd_add 0 q d
  rw [dig_0, Nat.zero_mul, Nat.add_zero, Nat.zero_add] at h
  exact h
set_option maxRecDepth 20000 in
set_option maxHeartbeats 800000 in
theorem Pow_walk (k q r x : Nat) (w : World) (hk : k ≤ 9000000) (eq : (k : Int) / 32 = (q : Int)) (er : (k : Int) % 32 = (r : Int)) (hq : q ≤ 300000) (_hr : r < 32) (hx : x < 4294967296) (ex : IntKind.u32.wrap (2 ^ r) = (x : Int)) :
    Calls Tryd.prog 55 #[.int .i64 (k : Int)] w fun e w' => ∃ v, e = .returned v ∧ w'.ownsRow w.heap.size 64 1 v (q + 1) (digl (sd 0 q x) (q + 1)) ∧ Below w.heap.size w w' := by
  obtain ⟨i0, hi, hz0, hz1, hz2⟩ := info_parts infoU32
  go_enter Tryd.func55, Tryd.ntmps55
  repeat any_goals (first | (at_make; refine wpList_make_full _ rfl (.tmp 6) (.tmp 6) 54 rfl w.heap.size 64 i0 (.int .u32 0) 1 Tryd.underlying54 hi hz0 hz1 .i64 .i64 _ _ (q + 1) rfl rfl (by omega) (by omega) (by rw [hz2]; omega) (by unfold maxLen; omega) (Nat.le_refl _) ?_; intro w1 hown hgrow; rw [madeCells_digl] at hown; have cw := hown.cellAt q (by omega); rw [digl_get (by omega)] at cw; have fw := hown.frozenAt q; have OH := Lib.hid (And.intro (hown.stored q (.int .u32 (x : Int))) hgrow); clear hown hgrow) | go_skip | go_guarded | go_step | go_upon | (dsimp only []))
  obtain ⟨⟨o1, o2⟩, g⟩ := OH.out
  rw [digl_set hx] at o1
  go_ret
  exact ⟨_, rfl, o1, ((Below.refl _ _).grown g (Nat.le_refl _) (fun k h => by cases h)).grown o2 (by have := g.size; omega) (fun k h => by cases h; exact Nat.le_refl _)⟩
/-- **Pow.** -/
theorem Pow_any (k : Nat) (hk : k ≤ 9000000) (w : World) :
    Calls Tryd.prog 55 #[.int .i64 (k : Int)] w fun e w' => ∃ v, e = .returned v ∧ DN w' v (k / 32 + 1) (2 ^ k) ∧ Below w.heap.size w w' := by
  have hr : k % 32 < 32 := Nat.mod_lt _ (by decide)
  have hx : 2 ^ (k % 32) < 4294967296 := Nat.lt_of_lt_of_le (Nat.pow_lt_pow_right (by decide) hr) (by decide)
  have ex : IntKind.u32.wrap (2 ^ (k % 32)) = ((2 ^ (k % 32) : Nat) : Int) := by
    rw [show (2 ^ (k % 32) : Int) = ((2 ^ (k % 32) : Nat) : Int) from by simp, IntKind.wrap_u32]
    have h : ∀ z : Nat, z < 4294967296 → (z : Int) % 4294967296 = z := fun z hz => by omega
    exact h _ hx
  refine (Pow_walk k (k / 32) (k % 32) _ w hk (by omega) (by omega) (by omega) hr hx ex).mono ?_
  rintro e w' ⟨v, rfl, ho, hb⟩
  have e : sd 0 (k / 32) (2 ^ (k % 32)) = 2 ^ k := by
    rw [sd_0, ← Nat.pow_add]
    congr 1
    omega
  rw [e] at ho
  exact ⟨v, rfl, DN_own ho (Nat.pow_lt_pow_right (by decide) (by omega)) (by omega), hb⟩
end Go.Proofs.YtbakgmkkebnhkaaDoor
