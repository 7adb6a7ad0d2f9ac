/- Has of the program. -/
import Derived.Test.YtekeedjhaakbhaaGreatDoorEqN
namespace Go.Proofs.YtekeedjhaakbhaaGreatDoor
open Go.RowKit
theorem cmpZ_le0 (p q : Int) : cmpZ p q ≤ 0 ↔ p ≤ q := by
  unfold cmpZ
  split
  · omega
  · split <;> omega
set_option maxRecDepth 20000 in
set_option maxHeartbeats 1600000 in
theorem has1_any (x : Cl) (A : Int) (nl nh an : Bool) (vl vh av Ba : Nat) (w : World) (hA : IBox w Ba an av) (hb : A.natAbs < 2 ^ 256) (ha : an = sg A ∧ av = ab A) (hX : nl = sg x.lo ∧ vl = ab x.lo ∧ nh = sg x.hi ∧ vh = ab x.hi) :
    Calls Tryz.prog 26 #[.agg #[.bool nl, .int .u64 (lm vl 0 : Nat), .int .u64 (lm vl 1 : Nat), .int .u64 (lm vl 2 : Nat), .int .u64 (lm vl 3 : Nat), .bool nh, .int .u64 (lm vh 0 : Nat), .int .u64 (lm vh 1 : Nat), .int .u64 (lm vh 2 : Nat), .int .u64 (lm vh 3 : Nat)], .pointer (some ⟨Ba, 0, none⟩)] w fun e w' => e = .returned (.bool (decide (x.lo ≤ A) && decide (A ≤ x.hi))) ∧ Below w.heap.size w w' := by
  have HA := Lib.hid hA
  obtain ⟨z1, hz1⟩ : ∃ z, cmpI (sg x.lo) (ab x.lo) (sg A) (ab A) = z := ⟨_, rfl⟩
  obtain ⟨z2, hz2⟩ : ∃ z, cmpI (sg A) (ab A) (sg x.hi) (ab x.hi) = z := ⟨_, rfl⟩
  have C1 := Lib.hid fun wx => Cmp_any (sg x.lo) (ab x.lo) x.hl (sg A) (ab A) hb wx
  have C2 := Lib.hid fun wx => Cmp_any (sg A) (ab A) hb (sg x.hi) (ab x.hi) x.hh wx
  rw [hz1, ← hX.1, ← hX.2.1, ← ha.1, ← ha.2] at C1
  rw [hz2, ← hX.2.2.1, ← hX.2.2.2, ← ha.1, ← ha.2] at C2
  have J1 : z1 ≤ 0 ↔ x.lo ≤ A := by rw [← hz1, cmpI_sg]; exact cmpZ_le0 _ _
  have J2 : z2 ≤ 0 ↔ A ≤ x.hi := by rw [← hz2, cmpI_sg]; exact cmpZ_le0 _ _
  obtain ⟨r, hr⟩ : ∃ r, r = (decide (x.lo ≤ A) && decide (A ≤ x.hi)) := ⟨_, rfl⟩
  rw [← hr]
  have hl := hA.l
  obtain ⟨_, _, _, _, _⟩ := hA.all
  have JH := Lib.hid (And.intro J1 (And.intro J2 hr))
  clear hA hb ha hX hz1 hz2 J1 J2 hr
  by_cases c1 : z1 ≤ 0
  · by_cases c2 : z2 ≤ 0
    · obtain rfl : r = true := by rw [JH.out.2.2, decide_eq_true (JH.out.1.1 c1), decide_eq_true (JH.out.2.1.1 c2)]; rfl
      go_enter Tryz.func26, Tryz.ntmps26
      repeat any_goals (first | (go_at_call 27; with_reducible refine (C1.out _).mono ?_; rintro e w1 ⟨rfl, hb1⟩; have K1 := Lib.hid (k10_new.below hb1); have A1 := Lib.hid (HA.out.below (below_trans (by (repeat first | with_reducible exact Below.refl _ _ | with_reducible assumption | with_reducible refine Below.drew ?_ | with_reducible refine below_alloc ?_ _ | ((with_reducible refine Below.setCell ?_ ?_ _); rotate_left; (focus (first | with_reducible exact Nat.le_refl _ | (simp; done) | (simp; omega) | omega))) | (with_reducible refine below_trans ?_ (by assumption)))) hb1)); obtain ⟨_, _, _, _, _, _, _, _, _, _⟩ := K1.out.all; obtain ⟨_, _, _, _, _⟩ := A1.out.all) | (go_at_call 27; with_reducible refine (C2.out _).mono ?_; rintro e w2 ⟨rfl, hb2⟩) | go_skip | go_guarded | go_step | go_upon | (dsimp only []))
      exact bodyPost_ret (v := .bool true) (by simp [results, Tryz.results26, go_sem]) rfl ⟨rfl, by (repeat first | with_reducible exact Below.refl _ _ | with_reducible assumption | with_reducible refine Below.drew ?_ | with_reducible refine below_alloc ?_ _ | ((with_reducible refine Below.setCell ?_ ?_ _); rotate_left; (focus (first | with_reducible exact Nat.le_refl _ | (simp; done) | (simp; omega) | omega))) | (with_reducible refine below_trans ?_ (by assumption)))⟩
    · obtain rfl : r = false := by rw [JH.out.2.2, decide_eq_false (fun h => c2 (JH.out.2.1.2 h)), Bool.and_false]
      go_enter Tryz.func26, Tryz.ntmps26
      repeat any_goals (first | (go_at_call 27; with_reducible refine (C1.out _).mono ?_; rintro e w1 ⟨rfl, hb1⟩; have K1 := Lib.hid (k10_new.below hb1); have A1 := Lib.hid (HA.out.below (below_trans (by (repeat first | with_reducible exact Below.refl _ _ | with_reducible assumption | with_reducible refine Below.drew ?_ | with_reducible refine below_alloc ?_ _ | ((with_reducible refine Below.setCell ?_ ?_ _); rotate_left; (focus (first | with_reducible exact Nat.le_refl _ | (simp; done) | (simp; omega) | omega))) | (with_reducible refine below_trans ?_ (by assumption)))) hb1)); obtain ⟨_, _, _, _, _, _, _, _, _, _⟩ := K1.out.all; obtain ⟨_, _, _, _, _⟩ := A1.out.all) | (go_at_call 27; with_reducible refine (C2.out _).mono ?_; rintro e w2 ⟨rfl, hb2⟩) | go_skip | go_guarded | go_step | go_upon | (dsimp only []))
      exact bodyPost_ret (v := .bool false) (by simp [results, Tryz.results26, go_sem]) rfl ⟨rfl, by (repeat first | with_reducible exact Below.refl _ _ | with_reducible assumption | with_reducible refine Below.drew ?_ | with_reducible refine below_alloc ?_ _ | ((with_reducible refine Below.setCell ?_ ?_ _); rotate_left; (focus (first | with_reducible exact Nat.le_refl _ | (simp; done) | (simp; omega) | omega))) | (with_reducible refine below_trans ?_ (by assumption)))⟩
  · obtain rfl : r = false := by rw [JH.out.2.2, decide_eq_false (fun h => c1 (JH.out.1.2 h)), Bool.false_and]
    go_enter Tryz.func26, Tryz.ntmps26
    repeat any_goals (first | (go_at_call 27; with_reducible refine (C1.out _).mono ?_; rintro e w1 ⟨rfl, hb1⟩; have K1 := Lib.hid (k10_new.below hb1); have A1 := Lib.hid (HA.out.below (below_trans (by (repeat first | with_reducible exact Below.refl _ _ | with_reducible assumption | with_reducible refine Below.drew ?_ | with_reducible refine below_alloc ?_ _ | ((with_reducible refine Below.setCell ?_ ?_ _); rotate_left; (focus (first | with_reducible exact Nat.le_refl _ | (simp; done) | (simp; omega) | omega))) | (with_reducible refine below_trans ?_ (by assumption)))) hb1)); obtain ⟨_, _, _, _, _, _, _, _, _, _⟩ := K1.out.all; obtain ⟨_, _, _, _, _⟩ := A1.out.all) | go_skip | go_guarded | go_step | go_upon | (dsimp only []))
    exact bodyPost_ret (v := .bool false) (by simp [results, Tryz.results26, go_sem]) rfl ⟨rfl, by (repeat first | with_reducible exact Below.refl _ _ | with_reducible assumption | with_reducible refine Below.drew ?_ | with_reducible refine below_alloc ?_ _ | ((with_reducible refine Below.setCell ?_ ?_ _); rotate_left; (focus (first | with_reducible exact Nat.le_refl _ | (simp; done) | (simp; omega) | omega))) | (with_reducible refine below_trans ?_ (by assumption)))⟩
/-- is a number in one of the intervals? -/
def IdxO (l : List Cl) (A z : Int) : Prop := 0 ≤ z ↔ MemL (l.map Cl.iv) A
set_option maxRecDepth 20000 in
set_option maxHeartbeats 1600000 in
theorem index_any (B : Nat) (v : Value) (l : List Cl) (A : Int) (an : Bool) (av Ba : Nat) (w : World) (h : w.ownsRow B 51 10 v l.length (encs l)) (hn : l.length ≤ 1000000) (hA : IBox w Ba an av) (hb : A.natAbs < 2 ^ 256) (ha : an = sg A ∧ av = ab A) :
    Calls Tryz.prog 53 #[v, .func (.func 26) #[] #[.pointer (some ⟨Ba, 0, none⟩)]] w fun e w' => ∃ z : Int, e = .returned (.int .i64 z) ∧ IdxO l A z ∧ Below w.heap.size w w' := by
  obtain ⟨a0, q0, rfl⟩ := own_shape h
  obtain ⟨n, hln⟩ : ∃ n, n = l.length := ⟨_, rfl⟩
  have HC := Lib.hid fun (k : Nat) (hk : k < l.length) (wr : World) (hb : Below w.heap.size w wr) => cl_lit h hk hb
  have HN := Lib.hid hln
  have HA := Lib.hid hA
  have HB := Lib.hid (And.intro hb ha)
  rw [← hln] at HC hn ⊢
  clear h hA hb ha hln
  go_enter Tryz.func53, Tryz.ntmps53
  repeat any_goals (first | go_skip | go_guarded | go_step | go_upon | (simp only []; done))
  go_loopw [8] (fun i wr => ∃ k : Nat, k ≤ n ∧ i = .int .i64 k ∧ (∀ j x, j < k → l[j]? = some x → ¬ (x.lo ≤ A ∧ A ≤ x.hi)) ∧ Below w.heap.size w wr) (fun i _ => n - (intOf i).toNat)
  case atStart => exact ⟨0, Nat.zero_le _, rfl, fun j x hj => by omega, Below.refl _ _⟩
  case round =>
    obtain ⟨k, hk, rfl, hN, hW⟩ := hrel
    have HNN := Lib.hid hN
    clear hN
    by_cases hkn : k < n
    · obtain ⟨g', cap', x, hv, hbx, hx, hc1, hc2, hc⟩ := HC.out k hkn wr hW
      injection hv with hv1 _ hv3
      subst hv1 hv3
      obtain ⟨nl, hnl⟩ : ∃ n, n = sg x.lo := ⟨_, rfl⟩
      obtain ⟨vl, hvl⟩ : ∃ n, n = ab x.lo := ⟨_, rfl⟩
      obtain ⟨nh, hnh⟩ : ∃ n, n = sg x.hi := ⟨_, rfl⟩
      obtain ⟨vh, hvh⟩ : ∃ n, n = ab x.hi := ⟨_, rfl⟩
      rw [← hnl, ← hvl, ← hnh, ← hvh] at hc
      obtain ⟨r, hr⟩ : ∃ r, r = (decide (x.lo ≤ A) && decide (A ≤ x.hi)) := ⟨_, rfl⟩
      have C1 := Lib.hid (has1_any x A nl nh an vl vh av Ba wr (HA.out.below hW) HB.out.1 HB.out.2 ⟨hnl, hvl, hnh, hvh⟩)
      rw [← hr] at C1
      have HR := Lib.hid (And.intro hx hr)
      obtain ⟨_, _, _, _, _, _, _, _, _, _⟩ := hc.all
      have i1 : (k : Int) < (n : Int) := by omega
      have i2 : (0 : Int) ≤ (k : Int) := by omega
      have i5 : (k : Int).toNat = k := rfl
      clear hc hnl hvl hnh hvh hx hr
      cases r with
      | true =>
        repeat any_goals (first | (go_at_call 26; with_reducible refine C1.out.mono ?_; rintro e w1 ⟨rfl, hb1⟩) | go_skip | go_guarded | go_step | go_upon | (dsimp only []))
        exact bodyPost_ret (v := .int .i64 (k : Nat)) (by simp [results, Tryz.results53, go_sem]) rfl ⟨(k : Int), rfl, ⟨fun _ => by
          have e := HR.out.2.symm
          rw [Bool.and_eq_true, decide_eq_true_eq, decide_eq_true_eq] at e
          exact ⟨x.iv, List.mem_map.2 ⟨x, List.mem_of_getElem? HR.out.1, rfl⟩, e⟩, fun _ => i2⟩, by (repeat first | with_reducible exact Below.refl _ _ | with_reducible assumption | with_reducible refine Below.drew ?_ | with_reducible refine below_alloc ?_ _ | ((with_reducible refine Below.setCell ?_ ?_ _); rotate_left; (focus (first | with_reducible exact Nat.le_refl _ | (simp; done) | (simp; omega) | omega))) | (with_reducible refine below_trans ?_ (by assumption)))⟩
      | false =>
        repeat any_goals (first | (go_at_call 26; with_reducible refine C1.out.mono ?_; rintro e w1 ⟨rfl, hb1⟩) | go_skip | go_guarded | go_step | go_upon | (dsimp only []))
        go_roundw
        case rel => exact ⟨k + 1, by omega, rfl, fun j y hj hy hin => by
          by_cases e : j = k
          · subst e
            rw [HR.out.1] at hy
            obtain rfl := Option.some.inj hy
            have e2 := HR.out.2
            rw [decide_eq_true hin.1, decide_eq_true hin.2] at e2
            cases e2
          · exact HNN.out j y (by omega) hy hin, by (repeat first | with_reducible exact Below.refl _ _ | with_reducible assumption | with_reducible refine Below.drew ?_ | with_reducible refine below_alloc ?_ _ | ((with_reducible refine Below.setCell ?_ ?_ _); rotate_left; (focus (first | with_reducible exact Nat.le_refl _ | (simp; done) | (simp; omega) | omega))) | (with_reducible refine below_trans ?_ (by assumption)))⟩
        case measure => simp [intOf]; omega
    · have i1 : ¬ (k : Int) < (n : Int) := by omega
      repeat any_goals (first | go_skip | go_guarded | go_step | go_upon | (simp only []; done))
      exact bodyPost_ret (v := .int .i64 (-1)) (by simp [results, Tryz.results53, go_sem]) rfl ⟨-1, rfl, ⟨fun h => absurd h (by decide), fun ⟨c, hc, hin⟩ => by
        obtain ⟨x, hx, rfl⟩ := List.mem_map.1 hc
        obtain ⟨j, hj⟩ := List.getElem?_of_mem hx
        obtain ⟨hjl, -⟩ := List.getElem?_eq_some_iff.1 hj
        exact absurd hin (HNN.out j x (by have := HN.out; omega) hj)⟩, by (repeat first | with_reducible exact Below.refl _ _ | with_reducible assumption | with_reducible refine Below.drew ?_ | with_reducible refine below_alloc ?_ _ | ((with_reducible refine Below.setCell ?_ ?_ _); rotate_left; (focus (first | with_reducible exact Nat.le_refl _ | (simp; done) | (simp; omega) | omega))) | (with_reducible refine below_trans ?_ (by assumption)))⟩
set_option maxRecDepth 20000 in
theorem contains_any (B : Nat) (v : Value) (l : List Cl) (A : Int) (an : Bool) (av Ba : Nat) (w : World) (h : w.ownsRow B 51 10 v l.length (encs l)) (hn : l.length ≤ 1000000) (hA : IBox w Ba an av) (hb : A.natAbs < 2 ^ 256) (ha : an = sg A ∧ av = ab A) :
    Calls Tryz.prog 24 #[v, .func (.func 26) #[] #[.pointer (some ⟨Ba, 0, none⟩)]] w fun e w' => ∃ r : Bool, e = .returned (.bool r) ∧ (r = true ↔ MemL (l.map Cl.iv) A) ∧ Below w.heap.size w w' := by
  have C1 := Lib.hid fun wx hx hy => index_any B v l A an av Ba wx hx hn hy hb ha
  have H := Lib.hid h
  have HA := Lib.hid hA
  clear h hA
  go_enter Tryz.func24, Tryz.ntmps24
  repeat any_goals (first | go_skip | go_guarded | go_step | go_upon | (simp only []; done))
  refine (C1.out _ H.out HA.out).mono ?_
  rintro e w1 ⟨z, rfl, hz, hb1⟩
  dsimp only []
  have HZ := Lib.hid hz
  clear hz
  by_cases c : 0 ≤ z
  · repeat any_goals (first | go_skip | go_guarded | go_step | go_upon | (simp only []; done))
    exact bodyPost_ret (v := .bool true) (by simp [results, Tryz.results24, go_sem]) rfl ⟨true, rfl, ⟨fun _ => HZ.out.1 c, fun _ => rfl⟩, by (repeat first | with_reducible exact Below.refl _ _ | with_reducible assumption | with_reducible refine Below.drew ?_ | with_reducible refine below_alloc ?_ _ | ((with_reducible refine Below.setCell ?_ ?_ _); rotate_left; (focus (first | with_reducible exact Nat.le_refl _ | (simp; done) | (simp; omega) | omega))) | (with_reducible refine below_trans ?_ (by assumption)))⟩
  · repeat any_goals (first | go_skip | go_guarded | go_step | go_upon | (simp only []; done))
    exact bodyPost_ret (v := .bool false) (by simp [results, Tryz.results24, go_sem]) rfl ⟨false, rfl, ⟨fun h => (by cases h), fun h => absurd (HZ.out.2 h) c⟩, by (repeat first | with_reducible exact Below.refl _ _ | with_reducible assumption | with_reducible refine Below.drew ?_ | with_reducible refine below_alloc ?_ _ | ((with_reducible refine Below.setCell ?_ ?_ _); rotate_left; (focus (first | with_reducible exact Nat.le_refl _ | (simp; done) | (simp; omega) | omega))) | (with_reducible refine below_trans ?_ (by assumption)))⟩
/-- is a number in a set? -/
def HasO (S : Nat → Sp) (n : Nat) (an : Bool) (av : Nat) (r : Bool) : Prop := r = true ↔ mayR S n = true ∧ mayI an av = true ∧ InS S n (zI an av)
set_option maxRecDepth 20000 in
set_option maxHeartbeats 1600000 in
/-- **Has.** -/
theorem Has_any (a : Option Addr) (n c : Nat) (S : Nat → Sp) (an : Bool) (av : Nat) (hv : av < 2 ^ 256) (w : World) (h : SRow w a n c S) :
    Calls Tryz.prog 8 #[.slice a n c, .agg #[.bool (an ), .int .u64 (lm ( av) 0 : Nat), .int .u64 (lm ( av) 1 : Nat), .int .u64 (lm ( av) 2 : Nat), .int .u64 (lm ( av) 3 : Nat)]] w fun e w' => ∃ r : Bool, e = .returned (.bool r) ∧ HasO S n an av r ∧ Below w.heap.size w w' := by
  have hmf : ∀ (fn : Fn) (first cap : Array Value) (w : World), (Instr.makeFunc fn first cap).run Tryz.prog w = .ok (.func fn first cap) w := fun _ _ _ _ => rfl
  have H := Lib.hid h
  obtain ⟨R, hR⟩ : ∃ R, R = mayR S n := ⟨_, rfl⟩
  obtain ⟨q, hq⟩ : ∃ R, R = mayI an av := ⟨_, rfl⟩
  have M := Lib.hid fun wx (hx : SRow wx a n c S) => PMayS_any a n c S wx hx
  have N := Lib.hid fun wx => May_any an av hv wx
  rw [← hR] at M
  rw [← hq] at N
  have HR := Lib.hid (And.intro hR hq)
  clear h hR hq
  cases R with
  | false =>
    go_enter Tryz.func8, Tryz.ntmps8
    repeat any_goals (first | (go_at_call 16; with_reducible refine (M.out _ (H.out.below (by (repeat first | with_reducible exact Below.refl _ _ | with_reducible assumption | with_reducible refine Below.drew ?_ | with_reducible refine below_alloc ?_ _ | ((with_reducible refine Below.setCell ?_ ?_ _); rotate_left; (focus (first | with_reducible exact Nat.le_refl _ | (simp; done) | (simp; omega) | omega))) | (with_reducible refine below_trans ?_ (by assumption)))))).mono ?_; rintro e w1 ⟨rfl, hb1⟩; have A1 := Lib.hid ((@ibox_new w an av 29).below hb1); obtain ⟨_, _, _, _, _⟩ := A1.out.all; have hw1 : Below w.heap.size w w1 := (below_trans (by (repeat first | with_reducible exact Below.refl _ _ | with_reducible assumption | with_reducible refine Below.drew ?_ | with_reducible refine below_alloc ?_ _ | ((with_reducible refine Below.setCell ?_ ?_ _); rotate_left; (focus (first | with_reducible exact Nat.le_refl _ | (simp; done) | (simp; omega) | omega))) | (with_reducible refine below_trans ?_ (by assumption)))) hb1)) | go_skip | go_guarded | go_step | go_upon | (dsimp only []))
    exact bodyPost_ret (v := .bool false) (by simp [results, Tryz.results8, go_sem]) rfl ⟨false, rfl, ⟨fun h => (by cases h), fun h => by rw [← HR.out.1] at h; cases h.1⟩, by (repeat first | with_reducible exact Below.refl _ _ | with_reducible assumption | with_reducible refine Below.drew ?_ | with_reducible refine below_alloc ?_ _ | ((with_reducible refine Below.setCell ?_ ?_ _); rotate_left; (focus (first | with_reducible exact Nat.le_refl _ | (simp; done) | (simp; omega) | omega))) | (with_reducible refine below_trans ?_ (by assumption)))⟩
  | true =>
    cases q with
    | false =>
      go_enter Tryz.func8, Tryz.ntmps8
      repeat any_goals (first | (go_at_call 16; with_reducible refine (M.out _ (H.out.below (by (repeat first | with_reducible exact Below.refl _ _ | with_reducible assumption | with_reducible refine Below.drew ?_ | with_reducible refine below_alloc ?_ _ | ((with_reducible refine Below.setCell ?_ ?_ _); rotate_left; (focus (first | with_reducible exact Nat.le_refl _ | (simp; done) | (simp; omega) | omega))) | (with_reducible refine below_trans ?_ (by assumption)))))).mono ?_; rintro e w1 ⟨rfl, hb1⟩; have A1 := Lib.hid ((@ibox_new w an av 29).below hb1); obtain ⟨_, _, _, _, _⟩ := A1.out.all; have hw1 : Below w.heap.size w w1 := (below_trans (by (repeat first | with_reducible exact Below.refl _ _ | with_reducible assumption | with_reducible refine Below.drew ?_ | with_reducible refine below_alloc ?_ _ | ((with_reducible refine Below.setCell ?_ ?_ _); rotate_left; (focus (first | with_reducible exact Nat.le_refl _ | (simp; done) | (simp; omega) | omega))) | (with_reducible refine below_trans ?_ (by assumption)))) hb1)) | (go_at_call 23; with_reducible refine (N.out _).mono ?_; rintro e w2 ⟨rfl, hb2⟩) | go_skip | go_guarded | go_step | go_upon | (dsimp only []))
      exact bodyPost_ret (v := .bool false) (by simp [results, Tryz.results8, go_sem]) rfl ⟨false, rfl, ⟨fun h => (by cases h), fun h => by rw [← HR.out.2] at h; cases h.2.1⟩, by (repeat first | with_reducible exact Below.refl _ _ | with_reducible assumption | with_reducible refine Below.drew ?_ | with_reducible refine below_alloc ?_ _ | ((with_reducible refine Below.setCell ?_ ?_ _); rotate_left; (focus (first | with_reducible exact Nat.le_refl _ | (simp; done) | (simp; omega) | omega))) | (with_reducible refine below_trans ?_ (by assumption)))⟩
    | true =>
      have e1 : an = sg (zI an av) := (sg_zI HR.out.2.symm).symm
      have e2 : av = ab (zI an av) := (ab_zI an av).symm
      have HE := Lib.hid (And.intro e1 e2)
      clear e1 e2
      go_enter Tryz.func8, Tryz.ntmps8
      repeat any_goals (first | (go_at_call 16; with_reducible refine (M.out _ (H.out.below (by (repeat first | with_reducible exact Below.refl _ _ | with_reducible assumption | with_reducible refine Below.drew ?_ | with_reducible refine below_alloc ?_ _ | ((with_reducible refine Below.setCell ?_ ?_ _); rotate_left; (focus (first | with_reducible exact Nat.le_refl _ | (simp; done) | (simp; omega) | omega))) | (with_reducible refine below_trans ?_ (by assumption)))))).mono ?_; rintro e w1 ⟨rfl, hb1⟩; have A1 := Lib.hid ((@ibox_new w an av 29).below hb1); obtain ⟨_, _, _, _, _⟩ := A1.out.all; have hw1 : Below w.heap.size w w1 := (below_trans (by (repeat first | with_reducible exact Below.refl _ _ | with_reducible assumption | with_reducible refine Below.drew ?_ | with_reducible refine below_alloc ?_ _ | ((with_reducible refine Below.setCell ?_ ?_ _); rotate_left; (focus (first | with_reducible exact Nat.le_refl _ | (simp; done) | (simp; omega) | omega))) | (with_reducible refine below_trans ?_ (by assumption)))) hb1)) | (go_at_call 23; with_reducible refine (N.out _).mono ?_; rintro e w2 ⟨rfl, hb2⟩) | go_skip | go_guarded | go_step | go_upon | (dsimp only []))
      have hw2 : Below w.heap.size w w2 := hw1.trans (below_weak hb2 hw1.size)
      refine (close_out a n c S w2 _ (H.out.below hw2) (Nat.le_trans (mayR_le HR.out.1.symm) (by omega)) HR.out.1.symm (Below.refl _ _)).mono ?_
      rintro e w3 ⟨v3, rfl, h3⟩
      obtain ⟨l, p1, p2, p3, p4, p5, p6⟩ := h3
      have hw3 : Below w.heap.size w w3 := hw2.trans (below_weak p6 hw2.size)
      have A3 := Lib.hid (A1.out.below hb2 |>.below p6)
      have HO := Lib.hid p5
      have HL := Lib.hid (Nat.le_trans p4 (Nat.le_trans (mayR_le HR.out.1.symm) (by decide : 1000 ≤ 1000000)))
      have HP := Lib.hid p3
      dsimp only []
      clear p1 p2 p3 p4 p5 p6
      repeat any_goals (first | go_skip | go_guarded | go_step | go_upon | (simp only []; done))
      refine (contains_any w2.heap.size v3 l (zI an av) an av _ w3 HO.out HL.out A3.out (by rw [show (zI an av).natAbs = av from ab_zI an av]; exact hv) HE.out).mono ?_
      rintro e w4 ⟨r, rfl, hr, hb4⟩
      dsimp only []
      have HH := Lib.hid (show HasO S n an av r from hr.trans ⟨fun h => ⟨HR.out.1.symm, HR.out.2.symm, (HP.out _).1 h⟩, fun h => (HP.out _).2 h.2.2⟩)
      clear hr
      cases r with
      | true =>
        repeat any_goals (first | go_skip | go_guarded | go_step | go_upon | (simp only []; done))
        exact bodyPost_ret (v := .bool true) (by simp [results, Tryz.results8, go_sem]) rfl ⟨true, rfl, HH.out, by (repeat first | with_reducible exact Below.refl _ _ | with_reducible assumption | with_reducible refine Below.drew ?_ | with_reducible refine below_alloc ?_ _ | ((with_reducible refine Below.setCell ?_ ?_ _); rotate_left; (focus (first | with_reducible exact Nat.le_refl _ | (simp; done) | (simp; omega) | omega))) | (with_reducible refine below_trans ?_ (by assumption)))⟩
      | false =>
        repeat any_goals (first | go_skip | go_guarded | go_step | go_upon | (simp only []; done))
        exact bodyPost_ret (v := .bool false) (by simp [results, Tryz.results8, go_sem]) rfl ⟨false, rfl, HH.out, by (repeat first | with_reducible exact Below.refl _ _ | with_reducible assumption | with_reducible refine Below.drew ?_ | with_reducible refine below_alloc ?_ _ | ((with_reducible refine Below.setCell ?_ ?_ _); rotate_left; (focus (first | with_reducible exact Nat.le_refl _ | (simp; done) | (simp; omega) | omega))) | (with_reducible refine below_trans ?_ (by assumption)))⟩
end Go.Proofs.YtekeedjhaakbhaaGreatDoor
