/- Contracts of the document's digits: Mul. -/
import Derived.Test.YtbakgmkkebnhkaaDoorDm
namespace Go.Proofs.YtbakgmkkebnhkaaDoor
open Go.RowKit
theorem at_quiet (v : Value) (n V q : Nat) (w : World) (m : Nat) (h : DN (w.drewN m) v n V) :
    Calls Tryd.prog 77 #[v, .int .i64 (q : Int)] (w.drewN m) fun e w' => e = .returned (.int .u64 (dig V q : Nat)) ∧ w' = w.drewN m :=
  (at_any v n V q _ h).mono fun _ _ ⟨h1, h2⟩ => ⟨h1, h2.symm⟩
theorem DN.drewN {w : World} {v : Value} {n V : Nat} (h : DN w v n V) (m : Nat) : DN (w.drewN m) v n V := by
  obtain ⟨h1, h0, ao, cap, h2, h3, h4, h5⟩ := h
  exact ⟨h1, h0, ao, cap, h2, h3, h4, h5⟩
theorem own_drewN {w : World} {B e n : Nat} {v : Value} {xs : List Value} (h : w.ownsRow B e 1 v n xs) (m : Nat) : (w.drewN m).ownsRow B e 1 v n xs := h
theorem below_drewN {B : Nat} {a w : World} (h : Below B a w) (m : Nat) : Below B a (w.drewN m) := ⟨h.os, h.tape, h.output, h.size, h.block⟩
/-- the row behind a store -/
theorem row_store {w wr : World} {n P q lo m : Nat} (hown : wr.ownsRow w.heap.size 64 1 (.slice (some ⟨w.heap.size, 0, none⟩) n n) n (digl P n)) (hb : Below w.heap.size w wr) (hlo : lo < 4294967296) :
    ((wr.drewN m).setCell ⟨w.heap.size, q, none⟩ (.int .u32 (lo : Int))).ownsRow w.heap.size 64 1 (.slice (some ⟨w.heap.size, 0, none⟩) n n) n (digl (sd P q lo) n) ∧ Below w.heap.size w ((wr.drewN m).setCell ⟨w.heap.size, q, none⟩ (.int .u32 (lo : Int))) := by
  obtain ⟨o1, o2⟩ := (own_drewN hown m).stored q (.int .u32 (lo : Int))
  rw [digl_set hlo] at o1
  exact ⟨o1, (below_drewN hb m).grown o2 hb.size (fun k h => by cases h; exact Nat.le_refl _)⟩
theorem mul_small {cc x d y : Nat} (hc : cc < 4294967296) (hx : x < 4294967296) (hd : d < 4294967296) (hy : y < 4294967296) : d * y < 18446744073709551616 ∧ cc + x + d * y < 18446744073709551616 ∧ (cc + x + d * y) / 4294967296 < 4294967296 := by
  have h : d * y ≤ 4294967295 * 4294967295 := Nat.mul_le_mul (by omega) (by omega)
  generalize d * y = m at *
  omega
theorem wrap64u {n : Nat} (h : n < 18446744073709551616) : IntKind.u64.wrap (n : Int) = n := by rw [IntKind.wrap_u64]; omega
set_option maxRecDepth 20000 in
set_option maxHeartbeats 1600000 in
theorem Mul_walk (ba la ca A : Nat) (bo : Option Addr) (lb cb B : Nat) (w : World) (hla : la ≤ 100000000) (hla0 : 0 < la) (hlb : lb ≤ 100000000) (hbaw : ba < w.heap.size) (hca : ∀ j, j < la → w.cell? ⟨ba, j, none⟩ = some (.int .u32 (dig A j : Nat))) (hB : DN w (.slice bo lb cb) lb B) (hA : A < 2 ^ (32 * la)) :
    Calls Tryd.prog 76 #[.slice (some ⟨ba, 0, none⟩) la ca, .slice bo lb cb] w fun e w' => ∃ v, e = .returned v ∧ IsD w' v (A * B) ∧ Below w.heap.size w w' := by
  obtain ⟨i0, hi, hz0, hz1, hz2⟩ := info_parts infoU32
  have HB := Lib.hid hB
  have HA := Lib.hid (And.intro hA hca)
  clear hB hA hca
  go_enter Tryd.func76, Tryd.ntmps76
  repeat any_goals (first | (at_make; refine wpList_make_full _ rfl (.tmp 14) (.tmp 14) 54 rfl w.heap.size 64 i0 (.int .u32 0) 1 Tryd.underlying54 hi hz0 hz1 .i64 .i64 _ _ (la + lb + 1) rfl rfl (by omega) (by omega) (by rw [hz2]; omega) (by unfold maxLen; omega) (Nat.le_refl _) ?_; intro w1 hown hgrow; rw [madeCells_digl] at hown; have OH := Lib.hid (And.intro hown hgrow); clear hown hgrow) | go_skip | go_guarded | go_step | go_upon | (dsimp only []))
  go_loopw [6] (fun i wr => ∃ k : Nat, k ≤ la ∧ i = .int .i64 k ∧ wr.ownsRow w.heap.size 64 1 (.slice (some ⟨w.heap.size, 0, none⟩) (la + lb + 1) (la + lb + 1)) (la + lb + 1) (digl (A % 2 ^ (32 * k) * B) (la + lb + 1)) ∧ Below w.heap.size w wr)
    (fun i _ => la - (intOf i).toNat)
  case atStart =>
    refine ⟨0, by omega, rfl, ?_, (Below.refl _ _).grown OH.out.2 (Nat.le_refl _) (fun k h => by cases h)⟩
    rw [Nat.mul_zero, Nat.pow_zero, Nat.mod_one, Nat.zero_mul]
    exact OH.out.1
  case round =>
    obtain ⟨k, hk, rfl, hown, hbel⟩ := hrel
    repeat any_goals (first | go_skip | go_guarded | go_step | go_upon | (simp only []; done))
    · have hkl : k < la := by omega
      rw [decide_eq_true hkl]
      go_loopw [7, 8] (fun c i wi => ∃ j cc P : Nat, j ≤ lb + 1 ∧ cc < 4294967296 ∧ c = .int .u64 cc ∧ i = .int .i64 j ∧ wi.ownsRow w.heap.size 64 1 (.slice (some ⟨w.heap.size, 0, none⟩) (la + lb + 1) (la + lb + 1)) (la + lb + 1) (digl P (la + lb + 1)) ∧ P + cc * 2 ^ (32 * (k + j)) = (A % 2 ^ (32 * k)) * B + dig A k * (B % 2 ^ (32 * j)) * 2 ^ (32 * k) ∧ Below w.heap.size w wi)
        (fun _ i _ => lb + 2 - (intOf i).toNat)
      case atStart =>
        refine ⟨0, 0, A % 2 ^ (32 * k) * B, by omega, by omega, rfl, rfl, hown, ?_, hbel⟩
        simp [Nat.mod_one]
      case round =>
        obtain ⟨j, cc, P, hj, hcc, rfl, rfl, howni, hI, hbeli⟩ := hrel
        have hjb : 0 < cc → lb ≤ j → j ≤ lb := fun h1 h2 => mul_bound ((dl_le_iff B lb).1 ((dl_le_iff B lb).2 HB.out.1)) h2 hI h1
        have hnx : j ≤ lb → wr.cell? ⟨w.heap.size, k + j, none⟩ = some (.int .u32 (dig P (k + j) : Nat)) := fun h => by rw [howni.cellAt (k + j) (by omega), digl_get (by omega)]
        have hna := (hbeli.cell (p := ⟨ba, k, none⟩) hbaw).trans (HA.out.2 k hkl)
        have hnb := HB.out.below hbeli
        obtain ⟨x, hx⟩ : ∃ x, x = dig P (k + j) := ⟨_, rfl⟩
        obtain ⟨d, hd⟩ : ∃ x, x = dig A k := ⟨_, rfl⟩
        obtain ⟨y, hy⟩ : ∃ x, x = dig B j := ⟨_, rfl⟩
        have hx4 : x < 4294967296 := hx ▸ dig_lt _ _
        have hd4 : d < 4294967296 := hd ▸ dig_lt _ _
        have hy4 : y < 4294967296 := hy ▸ dig_lt _ _
        rw [← hx] at hnx
        rw [← hd] at hna
        have hQ : ∀ m, Calls Tryd.prog 77 #[.slice bo lb cb, .int .i64 (j : Int)] (wr.drewN m) fun e w' => e = .returned (.int .u64 (y : Nat)) ∧ w' = wr.drewN m := fun m => by rw [hy]; exact at_quiet _ _ _ _ _ _ (hnb.drewN m)
        have fz := howni.frozenAt (k + j)
        obtain ⟨ms1, ms2, ms3⟩ := mul_small hcc hx4 hd4 hy4
        obtain ⟨m, hm⟩ : ∃ m, m = d * y := ⟨_, rfl⟩
        rw [← hm] at ms1 ms2 ms3
        obtain ⟨t, ht⟩ : ∃ t, t = cc + x + m := ⟨_, rfl⟩
        rw [← ht] at ms2 ms3
        obtain ⟨lo, hlo⟩ : ∃ z, z = t % 4294967296 := ⟨_, rfl⟩
        obtain ⟨hi', hhi⟩ : ∃ z, z = t / 4294967296 := ⟨_, rfl⟩
        have em : IntKind.u64.wrap ((d : Int) * (y : Int)) = (m : Int) := by rw [show (d : Int) * (y : Int) = ((d * y : Nat) : Int) from by simp, ← hm]; exact wrap64u ms1
        have es : IntKind.u64.wrap ((cc : Int) + (x : Int) + (m : Int)) = (t : Int) := by rw [show (cc : Int) + (x : Int) + (m : Int) = ((cc + x + m : Nat) : Int) from by simp, ← ht]; exact wrap64u ms2
        have el : (t : Int) % 4294967296 = (lo : Int) := by omega
        have eh : (t : Int) / 4294967296 = (hi' : Int) := by omega
        have hlo4 : lo < 4294967296 := by omega
        rw [← hhi] at ms3
        have GM := Lib.hid (And.intro hm (And.intro ht (And.intro hlo (And.intro hhi ms2))))
        clear hm ht hlo hhi ms1 ms2
        have G := Lib.hid (And.intro hI (And.intro hbeli (And.intro howni (And.intro hx (And.intro hd hy)))))
        have GQ := Lib.hid hQ
        clear hI hbeli howni hnb hQ hx hd hy
        have FIN : ∀ nq : Nat, j ≤ lb → (∃ j' cc' P' : Nat, j' ≤ lb + 1 ∧ cc' < 4294967296 ∧ Value.int .u64 (hi' : Int) = Value.int .u64 cc' ∧ Value.int .i64 ((j : Int) + 1) = Value.int .i64 j' ∧ ((wr.drewN nq).setCell ⟨w.heap.size, k + j, none⟩ (.int .u32 (lo : Int))).ownsRow w.heap.size 64 1 (.slice (some ⟨w.heap.size, 0, none⟩) (la + lb + 1) (la + lb + 1)) (la + lb + 1) (digl P' (la + lb + 1)) ∧ P' + cc' * 2 ^ (32 * (k + j')) = (A % 2 ^ (32 * k)) * B + dig A k * (B % 2 ^ (32 * j')) * 2 ^ (32 * k) ∧ Below w.heap.size w ((wr.drewN nq).setCell ⟨w.heap.size, k + j, none⟩ (.int .u32 (lo : Int)))) := by
          intro nq hjl
          obtain ⟨g1, g2, g3, g4, g5, g6⟩ := G.out
          obtain ⟨m1, m2, m3, m4, _⟩ := GM.out
          obtain ⟨r1, r2⟩ := row_store (q := k + j) (m := nq) g3 g2 hlo4
          refine ⟨j + 1, hi', sd P (k + j) lo, by omega, ms3, rfl, by go_num, r1, ?_, r2⟩
          rw [← g5] at g1
          have ms := mul_step (d := d) g1 g4 g6 g5
          rw [← m1, ← m2, ← m3, ← m4] at ms
          rw [← g5]
          exact ms
        have FH := Lib.hid FIN
        clear FIN
        repeat any_goals (first | go_skip | go_guarded | go_step | go_upon | (simp only []; done))
        · have hjl : j ≤ lb := by
            have h1 : lb ≤ j := by assumption
            have h2 : j < lb ∨ 0 < cc := by assumption
            rcases h2 with h2 | h2
            · omega
            · exact hjb h2 h1
          have hnx2 := hnx hjl
          go_quiet ((go_at_call 77; exact Calls.quiet_of_same (GQ.out _)))
          repeat any_goals (first | go_skip | go_guarded | go_step | go_upon | (simp only []; done))
          go_roundw
          case rel => exact FH.out _ hjl
          case measure => simp [intOf]; omega
        · have h1 : lb ≤ j := by assumption
          have h2 : ¬ j < lb ∧ ¬ 0 < cc := by assumption
          go_roundw
          case rel =>
            have e0 : cc = 0 := by omega
            subst e0
            have he := mul_end HB.out.1 h1 G.out.1
            exact ⟨k + 1, by omega, by go_num, by rw [← he]; exact G.out.2.2.1, G.out.2.1⟩
          case measure => simp [intOf]; omega
        · have hjl : j ≤ lb := by
            have h1 : ¬ lb ≤ j := by assumption
            omega
          have hnx2 := hnx hjl
          go_quiet ((go_at_call 77; exact Calls.quiet_of_same (GQ.out _)))
          repeat any_goals (first | go_skip | go_guarded | go_step | go_upon | (simp only []; done))
          go_roundw
          case rel => exact FH.out _ hjl
          case measure => simp [intOf]; omega
    · have hk2 : k = la := by omega
      subst hk2
      have hE : A % 2 ^ (32 * k) = A := Nat.mod_eq_of_lt HA.out.1
      rw [hE] at hown
      have hlt : A * B < 2 ^ (32 * (k + lb + 1)) := by
        have h1 : A * B < 2 ^ (32 * k) * 2 ^ (32 * lb) := Nat.mul_lt_mul'' HA.out.1 HB.out.1
        rw [← Nat.pow_add] at h1
        exact Nat.lt_of_lt_of_le h1 (Nat.pow_le_pow_right (by decide) (by omega))
      have hD := DN_own hown hlt (by omega)
      have DH := Lib.hid hD
      clear hD hown hlt
      repeat any_goals (first | (go_at_call 69; refine (trim_any _ _ _ _ DH.out).mono ?_; rintro e w' ⟨⟨v, rfl, hv⟩, rfl⟩) | go_skip | go_guarded | go_step | go_upon | (dsimp only []))
      go_ret
      exact ⟨v, rfl, hv, hbel⟩
set_option maxRecDepth 20000 in
set_option maxHeartbeats 800000 in
theorem Mul_nil (ao : Option Addr) (ca : Nat) (bo : Option Addr) (lb cb : Nat) (w : World) (hlb : lb ≤ 100000000) :
    Calls Tryd.prog 76 #[.slice ao 0 ca, .slice bo lb cb] w fun e w' => ∃ v, e = .returned v ∧ IsD w' v 0 ∧ Below w.heap.size w w' := by
  obtain ⟨i0, hi, hz0, hz1, hz2⟩ := info_parts infoU32
  go_enter Tryd.func76, Tryd.ntmps76
  repeat any_goals (first | (at_make; refine wpList_make_full _ rfl (.tmp 14) (.tmp 14) 54 rfl w.heap.size 64 i0 (.int .u32 0) 1 Tryd.underlying54 hi hz0 hz1 .i64 .i64 _ _ (lb + 1) rfl rfl (by omega) (by omega) (by rw [hz2]; omega) (by unfold maxLen; omega) (Nat.le_refl _) ?_; intro w1 hown hgrow; rw [madeCells_digl] at hown; have OH := Lib.hid (And.intro hown hgrow); clear hown hgrow) | go_skip | go_guarded | go_step | go_upon | (dsimp only []))
  go_loopw [6] (fun i wr => i = .int .i64 0 ∧ wr.ownsRow w.heap.size 64 1 (.slice (some ⟨w.heap.size, 0, none⟩) (lb + 1) (lb + 1)) (lb + 1) (digl 0 (lb + 1)) ∧ Below w.heap.size w wr)
    (fun i _ => (intOf i).toNat)
  case atStart => exact ⟨rfl, OH.out.1, (Below.refl _ _).grown OH.out.2 (Nat.le_refl _) (fun k h => by cases h)⟩
  case round =>
    obtain ⟨rfl, hown, hbel⟩ := hrel
    have hD := DN_own hown (Nat.two_pow_pos _) (by omega)
    have DH := Lib.hid hD
    clear hD hown
    repeat any_goals (first | (go_at_call 69; refine (trim_any _ _ _ _ DH.out).mono ?_; rintro e w' ⟨⟨v, rfl, hv⟩, rfl⟩) | go_skip | go_guarded | go_step | go_upon | (dsimp only []))
    go_ret
    exact ⟨v, rfl, hv, hbel⟩
/-- **Mul.** -/
theorem Mul_any (va vb : Value) (la lb A B : Nat) (w : World) (ha : DN w va la A) (hb : DN w vb lb B) (hla : la ≤ 100000000) (hlb : lb ≤ 100000000) :
    Calls Tryd.prog 76 #[va, vb] w fun e w' => ∃ v, e = .returned v ∧ IsD w' v (A * B) ∧ Below w.heap.size w w' := by
  obtain ⟨hA, _, ao, ca, rfl, _, _, hc⟩ := ha
  have hb' := hb
  obtain ⟨_, _, bo, cb, rfl, _, _, _⟩ := hb'
  by_cases c : 0 < la
  · obtain ⟨b, rfl, hbw, hcell⟩ := hc c
    exact Mul_walk b la ca A bo lb cb B w hla c hlb hbw hcell hb hA
  · obtain rfl : la = 0 := by omega
    have hA0 : A = 0 := by simpa using hA
    subst hA0
    rw [Nat.zero_mul]
    exact Mul_nil ao ca bo lb cb w hlb
end Go.Proofs.YtbakgmkkebnhkaaDoor
