/- Contracts: the document's Sub; the law's own function two. -/
import Derived.Test.YtbmeejfpaeggjaaDoorDt
import Derived.Test.YtbmeejfpaeggjaaDoorTold1
namespace Go.Proofs.YtbmeejfpaeggjaaDoor
open Go.RowKit
set_option maxRecDepth 20000 in
set_option maxHeartbeats 1600000 in
theorem DSub_walk (a1 a2 : Option Addr) (n1 n2 c1 c2 A B D : Nat) (w : World) (h1 : DN w (.slice a1 n1 c1) n1 A) (h2 : DN w (.slice a2 n2 c2) n2 B) (l1 : n1 ≤ 1000000) (hD : A = D + B) :
    Calls Tryd.prog 31 #[.slice a1 n1 c1, .slice a2 n2 c2] w fun e w' => ∃ v, e = .returned v ∧ IsD w' v D ∧ Below w.heap.size w w' := by
  obtain ⟨i0, hi, hz0, hz1, hz2⟩ := info_parts infoU32
  have H := Lib.hid (And.intro h1 (And.intro h2 hD))
  clear h1 h2 hD
  go_enter Tryd.func31, Tryd.ntmps31
  repeat any_goals (first | go_skip | go_guarded | go_step | go_upon | (simp only []; done))
  go_loopw [5, 6, 7] (fun v c i wr => ∃ j : Nat, j ≤ n1 ∧ i = .int .i64 j ∧ c = .int .i64 (-(cy D B j : Int)) ∧ wr.ownsRow w.heap.size 63 1 v j (digl D j) ∧ Below w.heap.size w wr)
    (fun _ _ i _ => n1 - (intOf i).toNat)
  case atStart =>
    refine ⟨0, by omega, rfl, by rw [cy_zero]; rfl, World.ownsRow_nil _ _ _ _, Below.refl _ _⟩
  case round =>
    obtain ⟨j, hj, rfl, rfl, hown, hbel⟩ := hrel
    by_cases c0 : j < n1
    · obtain ⟨x, hx⟩ : ∃ x, x = dig A j := ⟨_, rfl⟩
      obtain ⟨y, hy⟩ : ∃ x, x = dig B j := ⟨_, rfl⟩
      obtain ⟨c, hc⟩ : ∃ x, x = cy D B j := ⟨_, rfl⟩
      obtain ⟨s, hs⟩ : ∃ s, s = dig D j := ⟨_, rfl⟩
      obtain ⟨c', hc'⟩ : ∃ x, x = cy D B (j + 1) := ⟨_, rfl⟩
      have hx4 : x < 4294967296 := hx ▸ dig_lt _ _
      have hy4 : y < 4294967296 := hy ▸ dig_lt _ _
      have hs4 : s < 4294967296 := hs ▸ dig_lt _ _
      have hc1 : c ≤ 1 := hc ▸ cy_le _ _ _
      have a1c : Hid (Calls Tryd.prog 41 #[.slice a1 n1 c1, .int .i64 (j : Int)] wr fun e w' => e = .returned (.int .u64 (x : Int)) ∧ wr = w') := Lib.hid (by rw [hx]; exact at_any _ _ _ j wr (H.out.1.below hbel))
      have a2c : Hid (Calls Tryd.prog 41 #[.slice a2 n2 c2, .int .i64 (j : Int)] wr fun e w' => e = .returned (.int .u64 (y : Int)) ∧ wr = w') := Lib.hid (by rw [hy]; exact at_any _ _ _ j wr (H.out.2.1.below hbel))
      obtain ⟨d1, d2⟩ := add_digit D B j
      rw [← H.out.2.2, ← hx, ← hy, ← hc, ← hs] at d2
      rw [← hy, ← hc, ← hc', ← hs] at d1
      have e1 : (-(c : Int) + (x : Int) - (y : Int)) % 4294967296 = (s : Int) := by omega
      have e2 : (-(c : Int) + (x : Int) - (y : Int)) / 4294967296 = -(c' : Int) := by omega
      have e3 : IntKind.u32.wrap (-(c : Int) + (x : Int) - (y : Int)) = (s : Int) := by rw [IntKind.wrap_u32]; exact e1
      rw [← hc]
      have hown2 : digl D j ++ [.int .u32 (s : Nat)] = digl D (j + 1) := by rw [digl_succ1, hs]
      have G := Lib.hid (And.intro hown2 hc')
      have hsz := hbel.size
      clear hx hy hs hc' hc d1 d2 hown2
      have b1 : j + 1 ≤ maxLen := by unfold maxLen; omega
      have b2 : (j + 1) * 4 ≤ 140737488355328 := by omega
      have BH := Lib.hid (And.intro b1 b2)
      clear b1 b2
      repeat any_goals (first | (go_at_call 41; with_reducible refine a1c.out.mono ?_; rintro e w' ⟨rfl, rfl⟩) | (go_at_call 41; with_reducible refine a2c.out.mono ?_; rintro e w' ⟨rfl, rfl⟩) | (at_builtin; refine wpList_append_own _ rfl (.tmp 25) (.tmp 28) 29 rfl w.heap.size 63 i0 (.int .u32 0) 1 4 Tryd.underlying29 hi hz0 hz1 hz2 rfl (by decide) _ _ _ rfl (hown.alloc _) ⟨wr.heap.size, 0, none⟩ 1 1 [.int .u32 (s : Int)] rfl rfl (one_cell (by simp)) one_one BH.out.1 BH.out.2 (by simp; omega) ?_; intro v' w1 hown' hgrow _) | go_skip | go_guarded | go_step | go_upon | (dsimp only []))
      have hW1 := (hbel.alloc hsz _).grown hgrow (by simp; omega) (fun k h => (hown.lt k h).1)
      rw [G.out.1] at hown'
      have F := Lib.hid (And.intro hown' hW1)
      clear hown hown' hgrow hW1 hbel
      go_roundw
      case rel => exact ⟨j + 1, by omega, by go_num, by rw [← G.out.2], F.out.1, F.out.2⟩
      case measure => first | (simp [intOf]; done) | (simp [intOf]; omega)
    · have hjn : j = n1 := by omega
      subst hjn
      have hlt : D < 2 ^ (32 * j) := Nat.lt_of_le_of_lt (by rw [H.out.2.2]; exact Nat.le_add_right _ _) H.out.1.1
      have hD := Lib.hid (DN_own hown hlt (by omega))
      clear hlt hown
      repeat any_goals (first | (go_at_call 42; refine (trim_any _ _ _ _ hD.out).mono ?_; rintro e w' ⟨⟨v, rfl, hv⟩, rfl⟩) | go_skip | go_guarded | go_step | go_upon | (dsimp only []))
      go_ret
      exact ⟨v, rfl, hv, hbel⟩
/-- **Sub.** -/
theorem SubI_any (v1 v2 : Value) (A B : Nat) (w : World) (h1 : IsD w v1 A) (h2 : IsD w v2 B) (hl : dl A ≤ 1000) (hBA : B ≤ A) :
    Calls Tryd.prog 31 #[v1, v2] w fun e w' => ∃ v, e = .returned v ∧ IsD w' v (A - B) ∧ Below w.heap.size w w' := by
  obtain ⟨_, _, a1, c1, rfl, _⟩ := id h1
  obtain ⟨_, _, a2, c2, rfl, _⟩ := id h2
  exact DSub_walk a1 a2 _ _ c1 c2 A B (A - B) w h1 h2 (by omega) (by omega)
set_option maxRecDepth 20000 in
set_option maxHeartbeats 800000 in
/-- **two**, of a number and what it is to be. -/
theorem two_any (v : Value) (N V : Nat) (o : Bool) (w : World) (h : IsD w v N) (hV : V = if N < 2 ^ 256 then N else 0) (ho : o = decide (N < 2 ^ 256)) :
    Calls Tryd.prog 30 #[.agg #[.int .u64 (lm (V) 0 : Nat), .int .u64 (lm (V) 1 : Nat), .int .u64 (lm (V) 2 : Nat), .int .u64 (lm (V) 3 : Nat)], .bool o, v] w fun e w' => e = .returned (.bool true) ∧ Below w.heap.size w w' := by
  have K : Hid (∀ w : World, IsD w v N → Calls Tryd.prog 35 #[v] w fun e w' => e = .returned (.tuple #[.agg #[.int .u64 (lm (V) 0 : Nat), .int .u64 (lm (V) 1 : Nat), .int .u64 (lm (V) 2 : Nat), .int .u64 (lm (V) 3 : Nat)], .bool o]) ∧ Below w.heap.size w w') := Lib.hid fun w h => by
    rw [hV, ho]
    exact NatI_any v N w h
  have H := Lib.hid h
  clear h hV ho
  go_enter Tryd.func30, Tryd.ntmps30
  repeat any_goals (first | (go_at_call 35; with_reducible refine (K.out _ ((H.out.alloc _))).mono ?_; rintro e w1 ⟨rfl, hb1⟩; have x1 := Lib.hid (box_hb hb1); obtain ⟨_, _, _, _, _⟩ := x1.out.all) | go_skip | go_guarded | go_step | go_upon | (dsimp only []))
  go_ret
  exact ⟨by simp, by (repeat first | with_reducible exact Below.refl _ _ | with_reducible assumption | with_reducible refine Below.drew ?_ | with_reducible refine below_alloc ?_ _ | ((with_reducible refine Below.setCell ?_ ?_ _); rotate_left; (focus (first | with_reducible exact Nat.le_refl _ | (simp; done) | (simp; omega) | omega))) | (with_reducible refine below_trans ?_ (by assumption)))⟩
end Go.Proofs.YtbmeejfpaeggjaaDoor
