/- The law WholeNear. IBOX -/
import Derived.Test.YtbakgmkkebnhkaaDoorWhP
namespace Go.Proofs.YtbakgmkkebnhkaaDoor
open Go.RowKit
theorem ibox_new1 {w : World} {n : Bool} {V : Nat} {t : TypeId} {o : Obj} : IBox ((w.alloc o).alloc (.cells #[.bool n, .int .u64 (lm V 0 : Nat), .int .u64 (lm V 1 : Nat), .int .u64 (lm V 2 : Nat), .int .u64 (lm V 3 : Nat)] t)) (w.heap.size + 1) n V := by
  have h := @ibox_new (w.alloc o) n V t
  simpa using h
structure NrM (n : Bool) (V : Nat) (m : Bool) (U : Nat) (m1 m2 : Bool) : Prop where
  c1 : ∀ w : World, Calls Tryd.prog 18 #[.agg #[.bool (n ), .int .u64 (lm ( V) 0 : Nat), .int .u64 (lm ( V) 1 : Nat), .int .u64 (lm ( V) 2 : Nat), .int .u64 (lm ( V) 3 : Nat)]] w fun e w' => e = .returned (.bool m1) ∧ Below w.heap.size w w'
  c2 : ∀ w : World, Calls Tryd.prog 18 #[.agg #[.bool (m ), .int .u64 (lm ( U) 0 : Nat), .int .u64 (lm ( U) 1 : Nat), .int .u64 (lm ( U) 2 : Nat), .int .u64 (lm ( U) 3 : Nat)]] w fun e w' => e = .returned (.bool m2) ∧ Below w.heap.size w w'
/-- what the law asks of the program -/
structure NrC (n : Bool) (V : Nat) (m : Bool) (U : Nat) (nu : Bool) (Vu : Nat) (nd : Bool) (Vd : Nat) (nh : Bool) (Vh : Nat) (nl : Bool) (Vl : Nat) (p q e : Bool) (c u1 d1 h1 l1 u2 d2 h2 l2 : Int) : Prop where
  c3 : ∀ w : World, Calls Tryd.prog 26 #[.agg #[.bool (n ), .int .u64 (lm ( V) 0 : Nat), .int .u64 (lm ( V) 1 : Nat), .int .u64 (lm ( V) 2 : Nat), .int .u64 (lm ( V) 3 : Nat)]] w fun e w' => e = .returned (.tuple #[.agg #[.bool (nu ), .int .u64 (lm ( Vu) 0 : Nat), .int .u64 (lm ( Vu) 1 : Nat), .int .u64 (lm ( Vu) 2 : Nat), .int .u64 (lm ( Vu) 3 : Nat)], .bool p]) ∧ Below w.heap.size w w'
  c4 : ∀ w : World, Calls Tryd.prog 28 #[.agg #[.bool (n ), .int .u64 (lm ( V) 0 : Nat), .int .u64 (lm ( V) 1 : Nat), .int .u64 (lm ( V) 2 : Nat), .int .u64 (lm ( V) 3 : Nat)]] w fun e w' => e = .returned (.tuple #[.agg #[.bool (nd ), .int .u64 (lm ( Vd) 0 : Nat), .int .u64 (lm ( Vd) 1 : Nat), .int .u64 (lm ( Vd) 2 : Nat), .int .u64 (lm ( Vd) 3 : Nat)], .bool q]) ∧ Below w.heap.size w w'
  c5 : ∀ w : World, Tabs w → Calls Tryd.prog 29 #[.agg #[.bool (n ), .int .u64 (lm ( V) 0 : Nat), .int .u64 (lm ( V) 1 : Nat), .int .u64 (lm ( V) 2 : Nat), .int .u64 (lm ( V) 3 : Nat)]] w fun e w' => e = .returned (.tuple #[.agg #[.bool (nh ), .int .u64 (lm ( Vh) 0 : Nat), .int .u64 (lm ( Vh) 1 : Nat), .int .u64 (lm ( Vh) 2 : Nat), .int .u64 (lm ( Vh) 3 : Nat)], .bool true]) ∧ Below w.heap.size w w'
  c6 : ∀ w : World, Tabs w → Calls Tryd.prog 30 #[.agg #[.bool (n ), .int .u64 (lm ( V) 0 : Nat), .int .u64 (lm ( V) 1 : Nat), .int .u64 (lm ( V) 2 : Nat), .int .u64 (lm ( V) 3 : Nat)]] w fun e w' => e = .returned (.tuple #[.agg #[.bool (nl ), .int .u64 (lm ( Vl) 0 : Nat), .int .u64 (lm ( Vl) 1 : Nat), .int .u64 (lm ( Vl) 2 : Nat), .int .u64 (lm ( Vl) 3 : Nat)], .bool true]) ∧ Below w.heap.size w w'
  c7 : ∀ w : World, Tab w → Calls Tryd.prog 17 #[.agg #[.bool (m ), .int .u64 (lm ( U) 0 : Nat), .int .u64 (lm ( U) 1 : Nat), .int .u64 (lm ( U) 2 : Nat), .int .u64 (lm ( U) 3 : Nat)]] w fun x w' => x = .returned (.bool e) ∧ Below w.heap.size w w'
  c8 : ∀ w : World, Calls Tryd.prog 19 #[.agg #[.bool (m ), .int .u64 (lm ( U) 0 : Nat), .int .u64 (lm ( U) 1 : Nat), .int .u64 (lm ( U) 2 : Nat), .int .u64 (lm ( U) 3 : Nat)], .agg #[.bool (n ), .int .u64 (lm ( V) 0 : Nat), .int .u64 (lm ( V) 1 : Nat), .int .u64 (lm ( V) 2 : Nat), .int .u64 (lm ( V) 3 : Nat)]] w fun e w' => e = .returned (.int .i64 c) ∧ Below w.heap.size w w'
  c9 : ∀ w : World, Calls Tryd.prog 19 #[.agg #[.bool (nu ), .int .u64 (lm ( Vu) 0 : Nat), .int .u64 (lm ( Vu) 1 : Nat), .int .u64 (lm ( Vu) 2 : Nat), .int .u64 (lm ( Vu) 3 : Nat)], .agg #[.bool (m ), .int .u64 (lm ( U) 0 : Nat), .int .u64 (lm ( U) 1 : Nat), .int .u64 (lm ( U) 2 : Nat), .int .u64 (lm ( U) 3 : Nat)]] w fun e w' => e = .returned (.int .i64 u1) ∧ Below w.heap.size w w'
  c10 : ∀ w : World, Calls Tryd.prog 19 #[.agg #[.bool (nd ), .int .u64 (lm ( Vd) 0 : Nat), .int .u64 (lm ( Vd) 1 : Nat), .int .u64 (lm ( Vd) 2 : Nat), .int .u64 (lm ( Vd) 3 : Nat)], .agg #[.bool (m ), .int .u64 (lm ( U) 0 : Nat), .int .u64 (lm ( U) 1 : Nat), .int .u64 (lm ( U) 2 : Nat), .int .u64 (lm ( U) 3 : Nat)]] w fun e w' => e = .returned (.int .i64 d1) ∧ Below w.heap.size w w'
  c11 : ∀ w : World, Calls Tryd.prog 19 #[.agg #[.bool (nh ), .int .u64 (lm ( Vh) 0 : Nat), .int .u64 (lm ( Vh) 1 : Nat), .int .u64 (lm ( Vh) 2 : Nat), .int .u64 (lm ( Vh) 3 : Nat)], .agg #[.bool (m ), .int .u64 (lm ( U) 0 : Nat), .int .u64 (lm ( U) 1 : Nat), .int .u64 (lm ( U) 2 : Nat), .int .u64 (lm ( U) 3 : Nat)]] w fun e w' => e = .returned (.int .i64 h1) ∧ Below w.heap.size w w'
  c12 : ∀ w : World, Calls Tryd.prog 19 #[.agg #[.bool (nl ), .int .u64 (lm ( Vl) 0 : Nat), .int .u64 (lm ( Vl) 1 : Nat), .int .u64 (lm ( Vl) 2 : Nat), .int .u64 (lm ( Vl) 3 : Nat)], .agg #[.bool (m ), .int .u64 (lm ( U) 0 : Nat), .int .u64 (lm ( U) 1 : Nat), .int .u64 (lm ( U) 2 : Nat), .int .u64 (lm ( U) 3 : Nat)]] w fun e w' => e = .returned (.int .i64 l1) ∧ Below w.heap.size w w'
  c13 : ∀ w : World, Tab w → Calls Tryd.prog 17 #[.agg #[.bool (nu ), .int .u64 (lm ( Vu) 0 : Nat), .int .u64 (lm ( Vu) 1 : Nat), .int .u64 (lm ( Vu) 2 : Nat), .int .u64 (lm ( Vu) 3 : Nat)]] w fun x w' => x = .returned (.bool true) ∧ Below w.heap.size w w'
  c14 : ∀ w : World, Calls Tryd.prog 19 #[.agg #[.bool (nu ), .int .u64 (lm ( Vu) 0 : Nat), .int .u64 (lm ( Vu) 1 : Nat), .int .u64 (lm ( Vu) 2 : Nat), .int .u64 (lm ( Vu) 3 : Nat)], .agg #[.bool (n ), .int .u64 (lm ( V) 0 : Nat), .int .u64 (lm ( V) 1 : Nat), .int .u64 (lm ( V) 2 : Nat), .int .u64 (lm ( V) 3 : Nat)]] w fun e w' => e = .returned (.int .i64 u2) ∧ Below w.heap.size w w'
  c15 : ∀ w : World, Tab w → Calls Tryd.prog 17 #[.agg #[.bool (nd ), .int .u64 (lm ( Vd) 0 : Nat), .int .u64 (lm ( Vd) 1 : Nat), .int .u64 (lm ( Vd) 2 : Nat), .int .u64 (lm ( Vd) 3 : Nat)]] w fun x w' => x = .returned (.bool true) ∧ Below w.heap.size w w'
  c16 : ∀ w : World, Calls Tryd.prog 19 #[.agg #[.bool (nd ), .int .u64 (lm ( Vd) 0 : Nat), .int .u64 (lm ( Vd) 1 : Nat), .int .u64 (lm ( Vd) 2 : Nat), .int .u64 (lm ( Vd) 3 : Nat)], .agg #[.bool (n ), .int .u64 (lm ( V) 0 : Nat), .int .u64 (lm ( V) 1 : Nat), .int .u64 (lm ( V) 2 : Nat), .int .u64 (lm ( V) 3 : Nat)]] w fun e w' => e = .returned (.int .i64 d2) ∧ Below w.heap.size w w'
  c17 : ∀ w : World, Tab w → Calls Tryd.prog 17 #[.agg #[.bool (nh ), .int .u64 (lm ( Vh) 0 : Nat), .int .u64 (lm ( Vh) 1 : Nat), .int .u64 (lm ( Vh) 2 : Nat), .int .u64 (lm ( Vh) 3 : Nat)]] w fun x w' => x = .returned (.bool false) ∧ Below w.heap.size w w'
  c18 : ∀ w : World, Calls Tryd.prog 19 #[.agg #[.bool (nh ), .int .u64 (lm ( Vh) 0 : Nat), .int .u64 (lm ( Vh) 1 : Nat), .int .u64 (lm ( Vh) 2 : Nat), .int .u64 (lm ( Vh) 3 : Nat)], .agg #[.bool (n ), .int .u64 (lm ( V) 0 : Nat), .int .u64 (lm ( V) 1 : Nat), .int .u64 (lm ( V) 2 : Nat), .int .u64 (lm ( V) 3 : Nat)]] w fun e w' => e = .returned (.int .i64 h2) ∧ Below w.heap.size w w'
  c19 : ∀ w : World, Tab w → Calls Tryd.prog 17 #[.agg #[.bool (nl ), .int .u64 (lm ( Vl) 0 : Nat), .int .u64 (lm ( Vl) 1 : Nat), .int .u64 (lm ( Vl) 2 : Nat), .int .u64 (lm ( Vl) 3 : Nat)]] w fun x w' => x = .returned (.bool false) ∧ Below w.heap.size w w'
  c20 : ∀ w : World, Calls Tryd.prog 19 #[.agg #[.bool (nl ), .int .u64 (lm ( Vl) 0 : Nat), .int .u64 (lm ( Vl) 1 : Nat), .int .u64 (lm ( Vl) 2 : Nat), .int .u64 (lm ( Vl) 3 : Nat)], .agg #[.bool (n ), .int .u64 (lm ( V) 0 : Nat), .int .u64 (lm ( V) 1 : Nat), .int .u64 (lm ( V) 2 : Nat), .int .u64 (lm ( V) 3 : Nat)]] w fun e w' => e = .returned (.int .i64 l2) ∧ Below w.heap.size w w'
set_option maxRecDepth 20000 in
set_option maxHeartbeats 3200000 in
theorem Near2_no (n : Bool) (V : Nat) (m : Bool) (U : Nat) (m1 m2 : Bool) (w : World) (hT : Tabs w) (C : Hid (NrM n V m U m1 m2)) (h : m1 = false ∨ m1 = true ∧ m2 = false) :
    Calls Tryd.prog 9 #[.agg #[.bool (n ), .int .u64 (lm ( V) 0 : Nat), .int .u64 (lm ( V) 1 : Nat), .int .u64 (lm ( V) 2 : Nat), .int .u64 (lm ( V) 3 : Nat)], .agg #[.bool (m ), .int .u64 (lm ( U) 0 : Nat), .int .u64 (lm ( U) 1 : Nat), .int .u64 (lm ( U) 2 : Nat), .int .u64 (lm ( U) 3 : Nat)]] w fun e w' => e = .returned (.bool true) ∧ Below w.heap.size w w' := by
  have T0 := Lib.hid hT
  clear hT
  rcases h with rfl | ⟨rfl, rfl⟩
  all_goals (
    go_enter Tryd.func9, Tryd.ntmps9
    (repeat any_goals (first | (go_at_call 18; with_reducible refine (C.out.c1 _).mono ?_; rintro e w1 ⟨rfl, hb1⟩; have a1 := Lib.hid (ibox_hb2 hb1); obtain ⟨_, _, _, _, _⟩ := a1.out.all; have b1 := Lib.hid (ibox_hbB hb1); obtain ⟨_, _, _, _, _⟩ := b1.out.all) | (go_at_call 18; with_reducible refine (C.out.c2 _).mono ?_; rintro e w2 ⟨rfl, hb2⟩; (first | have Ta2 := Lib.hid (a1.out.below hb2) | have Ta2 := Lib.hid (a1.out.step hb2) | have Ta2 := Lib.hid (a1.out.step2 hb2))) | (go_at_call 11; with_reducible refine (told_any _ (T0.out.below (by (repeat first | with_reducible exact Below.refl _ _ | with_reducible assumption | with_reducible refine Below.drew ?_ | with_reducible refine below_alloc ?_ _ | ((with_reducible refine Below.setCell ?_ ?_ _); rotate_left; (focus (first | with_reducible exact Nat.le_refl _ | (simp; done) | (simp; omega) | omega))) | (with_reducible refine below_trans ?_ (by assumption)))))).mono ?_; rintro e w4 ⟨rfl, hb4⟩) | go_skip | go_guarded | go_step | go_upon | (dsimp only [])))
    go_ret
    exact ⟨by simp, by (repeat first | with_reducible exact Below.refl _ _ | with_reducible assumption | with_reducible refine Below.drew ?_ | with_reducible refine below_alloc ?_ _ | ((with_reducible refine Below.setCell ?_ ?_ _); rotate_left; (focus (first | with_reducible exact Nat.le_refl _ | (simp; done) | (simp; omega) | omega))) | (with_reducible refine below_trans ?_ (by assumption)))⟩)
set_option maxRecDepth 20000 in
set_option maxHeartbeats 6400000 in
theorem Near2_walk (n : Bool) (V : Nat) (m : Bool) (U : Nat) (nu : Bool) (Vu : Nat) (nd : Bool) (Vd : Nat) (nh : Bool) (Vh : Nat) (nl : Bool) (Vl : Nat) (p q e : Bool) (c u1 d1 h1 l1 u2 d2 h2 l2 : Int) (w : World) (hT : Tabs w) (M : Hid (NrM n V m U true true)) (C : Hid (NrC n V m U nu Vu nd Vd nh Vh nl Vl p q e c u1 d1 h1 l1 u2 d2 h2 l2))
    (HC : Hid ((c = -1 ∨ c = 0 ∨ c = 1) ∧ (e = true → (0 ≤ c → p = true ∧ u1 ≤ 0) ∧ (c ≤ 0 → q = true ∧ 0 ≤ d1)) ∧ (e = false → (0 ≤ c → h1 ≤ 0) ∧ (c ≤ 0 → 0 ≤ l1))))
    (HP : Hid (p = true ∧ q = true ∨ p = true ∧ q = false ∨ p = false ∧ q = true)) (hu2 : Hid (p = true → 0 ≤ u2)) (hd2 : Hid (q = true → d2 ≤ 0)) (hh2 : 0 ≤ h2) (hl2 : l2 ≤ 0) :
    Calls Tryd.prog 9 #[.agg #[.bool (n ), .int .u64 (lm ( V) 0 : Nat), .int .u64 (lm ( V) 1 : Nat), .int .u64 (lm ( V) 2 : Nat), .int .u64 (lm ( V) 3 : Nat)], .agg #[.bool (m ), .int .u64 (lm ( U) 0 : Nat), .int .u64 (lm ( U) 1 : Nat), .int .u64 (lm ( U) 2 : Nat), .int .u64 (lm ( U) 3 : Nat)]] w fun e w' => e = .returned (.bool true) ∧ Below w.heap.size w w' := by
  have T0 := Lib.hid hT
  clear hT
  go_enter Tryd.func9, Tryd.ntmps9
  go_upto_region 1 with fail
  have a0 := Lib.hid ((@ibox_new w n V 26).alloc (.cells #[.bool m, .int .u64 (lm U 0 : Nat), .int .u64 (lm U 1 : Nat), .int .u64 (lm U 2 : Nat), .int .u64 (lm U 3 : Nat)] 26))
  have b0 := Lib.hid (@ibox_new1 w m U 26 (.cells #[.bool n, .int .u64 (lm V 0 : Nat), .int .u64 (lm V 1 : Nat), .int .u64 (lm V 2 : Nat), .int .u64 (lm V 3 : Nat)] 26))
  have T1 := Lib.hid ((T0.out.alloc (.cells #[.bool n, .int .u64 (lm V 0 : Nat), .int .u64 (lm V 1 : Nat), .int .u64 (lm V 2 : Nat), .int .u64 (lm V 3 : Nat)] 26)).alloc (.cells #[.bool m, .int .u64 (lm U 0 : Nat), .int .u64 (lm U 1 : Nat), .int .u64 (lm U 2 : Nat), .int .u64 (lm U 3 : Nat)] 26))
  have hW : Below w.heap.size w ((w.alloc (.cells #[.bool n, .int .u64 (lm V 0 : Nat), .int .u64 (lm V 1 : Nat), .int .u64 (lm V 2 : Nat), .int .u64 (lm V 3 : Nat)] 26)).alloc (.cells #[.bool m, .int .u64 (lm U 0 : Nat), .int .u64 (lm U 1 : Nat), .int .u64 (lm U 2 : Nat), .int .u64 (lm U 3 : Nat)] 26)) := by (repeat first | with_reducible exact Below.refl _ _ | with_reducible assumption | with_reducible refine Below.drew ?_ | with_reducible refine below_alloc ?_ _ | ((with_reducible refine Below.setCell ?_ ?_ _); rotate_left; (focus (first | with_reducible exact Nat.le_refl _ | (simp; done) | (simp; omega) | omega))) | (with_reducible refine below_trans ?_ (by assumption)))
  generalize (w.alloc (.cells #[.bool n, .int .u64 (lm V 0 : Nat), .int .u64 (lm V 1 : Nat), .int .u64 (lm V 2 : Nat), .int .u64 (lm V 3 : Nat)] 26)).alloc (.cells #[.bool m, .int .u64 (lm U 0 : Nat), .int .u64 (lm U 1 : Nat), .int .u64 (lm U 2 : Nat), .int .u64 (lm U 3 : Nat)] 26) = w0 at *
  obtain ⟨_, _, _, _, _⟩ := a0.out.all
  go_upto_region 9 with (first | (go_at_call 18; with_reducible refine (M.out.c1 _).mono ?_; rintro e w1 ⟨rfl, hb1⟩; (first | have Ta1 := Lib.hid (a0.out.below hb1) | have Ta1 := Lib.hid (a0.out.step hb1) | have Ta1 := Lib.hid (a0.out.step2 hb1)); (first | have b1 := Lib.hid (b0.out.below hb1) | have b1 := Lib.hid (b0.out.step hb1) | have b1 := Lib.hid (b0.out.step2 hb1)); obtain ⟨_, _, _, _, _⟩ := b1.out.all; (first | have T2 := Lib.hid (T1.out.below hb1) | have T2 := Lib.hid (T1.out.step hb1) | have T2 := Lib.hid (T1.out.step2 hb1))) | (go_at_call 18; with_reducible refine (M.out.c2 _).mono ?_; rintro e w2 ⟨rfl, hb2⟩; (first | have a2 := Lib.hid (Ta1.out.below hb2) | have a2 := Lib.hid (Ta1.out.step hb2) | have a2 := Lib.hid (Ta1.out.step2 hb2)); obtain ⟨_, _, _, _, _⟩ := a2.out.all; (first | have Tb2 := Lib.hid (b1.out.below hb2) | have Tb2 := Lib.hid (b1.out.step hb2) | have Tb2 := Lib.hid (b1.out.step2 hb2)); (first | have T3 := Lib.hid (T2.out.below hb2) | have T3 := Lib.hid (T2.out.step hb2) | have T3 := Lib.hid (T2.out.step2 hb2))) | (go_at_call 26; with_reducible refine (C.out.c3 _).mono ?_; rintro e w3 ⟨rfl, hb3⟩; (first | have a3 := Lib.hid (a2.out.below hb3) | have a3 := Lib.hid (a2.out.step hb3) | have a3 := Lib.hid (a2.out.step2 hb3)); obtain ⟨_, _, _, _, _⟩ := a3.out.all; (first | have Tb3 := Lib.hid (Tb2.out.below hb3) | have Tb3 := Lib.hid (Tb2.out.step hb3) | have Tb3 := Lib.hid (Tb2.out.step2 hb3)); (first | have T4 := Lib.hid (T3.out.below hb3) | have T4 := Lib.hid (T3.out.step hb3) | have T4 := Lib.hid (T3.out.step2 hb3))) | (go_at_call 28; with_reducible refine (C.out.c4 _).mono ?_; rintro e w4 ⟨rfl, hb4⟩; have Tu4 := Lib.hid (ibox_hb hb4); (first | have a4 := Lib.hid (a3.out.below hb4) | have a4 := Lib.hid (a3.out.step hb4) | have a4 := Lib.hid (a3.out.step2 hb4)); obtain ⟨_, _, _, _, _⟩ := a4.out.all; (first | have Tb4 := Lib.hid (Tb3.out.below hb4) | have Tb4 := Lib.hid (Tb3.out.step hb4) | have Tb4 := Lib.hid (Tb3.out.step2 hb4)); (first | have T5 := Lib.hid (T4.out.below hb4) | have T5 := Lib.hid (T4.out.step hb4) | have T5 := Lib.hid (T4.out.step2 hb4))) | (go_at_call 29; with_reducible refine (C.out.c5 _ (T5.out.alloc _)).mono ?_; rintro e w5 ⟨rfl, hb5⟩; have Td5 := Lib.hid (ibox_hb hb5); (first | have Tu5 := Lib.hid (Tu4.out.below hb5) | have Tu5 := Lib.hid (Tu4.out.step hb5) | have Tu5 := Lib.hid (Tu4.out.step2 hb5)); (first | have a5 := Lib.hid (a4.out.below hb5) | have a5 := Lib.hid (a4.out.step hb5) | have a5 := Lib.hid (a4.out.step2 hb5)); obtain ⟨_, _, _, _, _⟩ := a5.out.all; (first | have Tb5 := Lib.hid (Tb4.out.below hb5) | have Tb5 := Lib.hid (Tb4.out.step hb5) | have Tb5 := Lib.hid (Tb4.out.step2 hb5)); (first | have T6 := Lib.hid (T5.out.below hb5) | have T6 := Lib.hid (T5.out.step hb5) | have T6 := Lib.hid (T5.out.step2 hb5))) | (go_at_call 30; with_reducible refine (C.out.c6 _ (T6.out.alloc _)).mono ?_; rintro e w6 ⟨rfl, hb6⟩; have Th6 := Lib.hid (ibox_hb hb6); (first | have Td6 := Lib.hid (Td5.out.below hb6) | have Td6 := Lib.hid (Td5.out.step hb6) | have Td6 := Lib.hid (Td5.out.step2 hb6)); (first | have Tu6 := Lib.hid (Tu5.out.below hb6) | have Tu6 := Lib.hid (Tu5.out.step hb6) | have Tu6 := Lib.hid (Tu5.out.step2 hb6)); (first | have Ta6 := Lib.hid (a5.out.below hb6) | have Ta6 := Lib.hid (a5.out.step hb6) | have Ta6 := Lib.hid (a5.out.step2 hb6)); (first | have b6 := Lib.hid (Tb5.out.below hb6) | have b6 := Lib.hid (Tb5.out.step hb6) | have b6 := Lib.hid (Tb5.out.step2 hb6)); obtain ⟨_, _, _, _, _⟩ := b6.out.all; (first | have T7 := Lib.hid (T6.out.below hb6) | have T7 := Lib.hid (T6.out.step hb6) | have T7 := Lib.hid (T6.out.step2 hb6))) | (go_at_call 17; with_reducible refine (C.out.c7 _ (T7.out.alloc _).t).mono ?_; rintro e w7 ⟨rfl, hb7⟩; have Tl7 := Lib.hid (ibox_hb hb7); (first | have Th7 := Lib.hid (Th6.out.below hb7) | have Th7 := Lib.hid (Th6.out.step hb7) | have Th7 := Lib.hid (Th6.out.step2 hb7)); (first | have Td7 := Lib.hid (Td6.out.below hb7) | have Td7 := Lib.hid (Td6.out.step hb7) | have Td7 := Lib.hid (Td6.out.step2 hb7)); (first | have Tu7 := Lib.hid (Tu6.out.below hb7) | have Tu7 := Lib.hid (Tu6.out.step hb7) | have Tu7 := Lib.hid (Tu6.out.step2 hb7)); (first | have a7 := Lib.hid (Ta6.out.below hb7) | have a7 := Lib.hid (Ta6.out.step hb7) | have a7 := Lib.hid (Ta6.out.step2 hb7)); obtain ⟨_, _, _, _, _⟩ := a7.out.all; (first | have b7 := Lib.hid (b6.out.below hb7) | have b7 := Lib.hid (b6.out.step hb7) | have b7 := Lib.hid (b6.out.step2 hb7)); obtain ⟨_, _, _, _, _⟩ := b7.out.all; (first | have T8 := Lib.hid (T7.out.below hb7) | have T8 := Lib.hid (T7.out.step hb7) | have T8 := Lib.hid (T7.out.step2 hb7))) | (go_at_call 19; with_reducible refine (C.out.c8 _).mono ?_; rintro e w8 ⟨rfl, hb8⟩; (first | have Tl8 := Lib.hid (Tl7.out.below hb8) | have Tl8 := Lib.hid (Tl7.out.step hb8) | have Tl8 := Lib.hid (Tl7.out.step2 hb8)); (first | have Th8 := Lib.hid (Th7.out.below hb8) | have Th8 := Lib.hid (Th7.out.step hb8) | have Th8 := Lib.hid (Th7.out.step2 hb8)); (first | have Td8 := Lib.hid (Td7.out.below hb8) | have Td8 := Lib.hid (Td7.out.step hb8) | have Td8 := Lib.hid (Td7.out.step2 hb8)); (first | have Tu8 := Lib.hid (Tu7.out.below hb8) | have Tu8 := Lib.hid (Tu7.out.step hb8) | have Tu8 := Lib.hid (Tu7.out.step2 hb8)); (first | have Ta8 := Lib.hid (a7.out.below hb8) | have Ta8 := Lib.hid (a7.out.step hb8) | have Ta8 := Lib.hid (a7.out.step2 hb8)); (first | have Tb8 := Lib.hid (b7.out.below hb8) | have Tb8 := Lib.hid (b7.out.step hb8) | have Tb8 := Lib.hid (b7.out.step2 hb8)); (first | have T9 := Lib.hid (T8.out.below hb8) | have T9 := Lib.hid (T8.out.step hb8) | have T9 := Lib.hid (T8.out.step2 hb8))))
  have hW8 : Below w.heap.size w w8 := by (repeat first | with_reducible exact Below.refl _ _ | with_reducible assumption | with_reducible refine Below.drew ?_ | with_reducible refine below_alloc ?_ _ | ((with_reducible refine Below.setCell ?_ ?_ _); rotate_left; (focus (first | with_reducible exact Nat.le_refl _ | (simp; done) | (simp; omega) | omega))) | (with_reducible refine below_trans ?_ (by assumption)))
  clear T1 T2 T3 T4 T5 T6 T7 T8 a0 Ta1 a2 a3 a4 a5 Ta6 a7 b0 b1 Tb2 Tb3 Tb4 Tb5 b6 b7 Tu4 Tu5 Tu6 Tu7 Td5 Td6 Td7 Th6 Th7 Tl7 hb1 hb2 hb3 hb4 hb5 hb6 hb7 hb8 hW
  go_cut [77] (fun s wx => s = .bool false ∧ Below w8.heap.size w8 wx)
  case first =>
    obtain ⟨_, _, _, _, _⟩ := Tu8.out.all
    obtain ⟨_, _, _, _, _⟩ := Tb8.out.all
    obtain ⟨_, _, _, _, _⟩ := Td8.out.all
    obtain ⟨hc, he, _⟩ := HC.out
    cases e with
    | false =>
      repeat any_goals (first | go_skip | go_guarded | go_step | go_upon | (simp only []; done))
      go_meet
      exact ⟨by first | rfl | (simp; omega), by (repeat first | with_reducible exact Below.refl _ _ | with_reducible assumption | with_reducible refine Below.drew ?_ | with_reducible refine below_alloc ?_ _ | ((with_reducible refine Below.setCell ?_ ?_ _); rotate_left; (focus (first | with_reducible exact Nat.le_refl _ | (simp; done) | (simp; omega) | omega))) | (with_reducible refine below_trans ?_ (by assumption)))⟩
    | true =>
      obtain ⟨g1, g2⟩ := he rfl
      rcases hc with rfl | rfl | rfl
      · obtain ⟨rfl, hd⟩ := g2 (by decide)
        repeat any_goals (first | (go_at_call 19; with_reducible refine (C.out.c10 _).mono ?_; rintro e wa ⟨rfl, hba⟩) | go_skip | go_guarded | go_step | go_upon | (dsimp only []))
        go_meet
        exact ⟨by first | rfl | (simp; omega), by (repeat first | with_reducible exact Below.refl _ _ | with_reducible assumption | with_reducible refine Below.drew ?_ | with_reducible refine below_alloc ?_ _ | ((with_reducible refine Below.setCell ?_ ?_ _); rotate_left; (focus (first | with_reducible exact Nat.le_refl _ | (simp; done) | (simp; omega) | omega))) | (with_reducible refine below_trans ?_ (by assumption)))⟩
      · obtain ⟨rfl, hu⟩ := g1 (by decide)
        obtain ⟨rfl, hd⟩ := g2 (by decide)
        repeat any_goals (first | (go_at_call 19; with_reducible refine (C.out.c9 _).mono ?_; rintro e w9 ⟨rfl, hb9⟩; (first | have d9 := Lib.hid (Td8.out.below hb9) | have d9 := Lib.hid (Td8.out.step hb9) | have d9 := Lib.hid (Td8.out.step2 hb9)); obtain ⟨_, _, _, _, _⟩ := d9.out.all; (first | have b9 := Lib.hid (Tb8.out.below hb9) | have b9 := Lib.hid (Tb8.out.step hb9) | have b9 := Lib.hid (Tb8.out.step2 hb9)); obtain ⟨_, _, _, _, _⟩ := b9.out.all) | (go_at_call 19; with_reducible refine (C.out.c10 _).mono ?_; rintro e wa ⟨rfl, hba⟩) | go_skip | go_guarded | go_step | go_upon | (dsimp only []))
        go_meet
        exact ⟨by first | rfl | (simp; omega), by (repeat first | with_reducible exact Below.refl _ _ | with_reducible assumption | with_reducible refine Below.drew ?_ | with_reducible refine below_alloc ?_ _ | ((with_reducible refine Below.setCell ?_ ?_ _); rotate_left; (focus (first | with_reducible exact Nat.le_refl _ | (simp; done) | (simp; omega) | omega))) | (with_reducible refine below_trans ?_ (by assumption)))⟩
      · obtain ⟨rfl, hu⟩ := g1 (by decide)
        repeat any_goals (first | (go_at_call 19; with_reducible refine (C.out.c9 _).mono ?_; rintro e w9 ⟨rfl, hb9⟩; (first | have d9 := Lib.hid (Td8.out.below hb9) | have d9 := Lib.hid (Td8.out.step hb9) | have d9 := Lib.hid (Td8.out.step2 hb9)); obtain ⟨_, _, _, _, _⟩ := d9.out.all; (first | have b9 := Lib.hid (Tb8.out.below hb9) | have b9 := Lib.hid (Tb8.out.step hb9) | have b9 := Lib.hid (Tb8.out.step2 hb9)); obtain ⟨_, _, _, _, _⟩ := b9.out.all) | (go_at_call 19; with_reducible refine (C.out.c10 _).mono ?_; rintro e wa ⟨rfl, hba⟩) | go_skip | go_guarded | go_step | go_upon | (dsimp only []))
        go_meet
        exact ⟨by first | rfl | (simp; omega), by (repeat first | with_reducible exact Below.refl _ _ | with_reducible assumption | with_reducible refine Below.drew ?_ | with_reducible refine below_alloc ?_ _ | ((with_reducible refine Below.setCell ?_ ?_ _); rotate_left; (focus (first | with_reducible exact Nat.le_refl _ | (simp; done) | (simp; omega) | omega))) | (with_reducible refine below_trans ?_ (by assumption)))⟩
  case rest =>
    obtain ⟨rfl, hbx⟩ := hcut
    have Ta9 := Lib.hid (Ta8.out.below hbx)
    have Tb9 := Lib.hid (Tb8.out.below hbx)
    have Tu9 := Lib.hid (Tu8.out.below hbx)
    have Td9 := Lib.hid (Td8.out.below hbx)
    have Th9 := Lib.hid (Th8.out.below hbx)
    have Tl9 := Lib.hid (Tl8.out.below hbx)
    have hW9 := below_trans hW8 hbx
    clear Ta8 Tb8 Tu8 Td8 Th8 Tl8 T9 hW8 hbx
    go_upto_region 11 with fail
    go_cut [107] (fun s wx => s = .bool false ∧ Below wc.heap.size wc wx)
    case first =>
      obtain ⟨_, _, _, _, _⟩ := Th9.out.all
      obtain ⟨_, _, _, _, _⟩ := Tb9.out.all
      obtain ⟨_, _, _, _, _⟩ := Tl9.out.all
      obtain ⟨hc, _, hf⟩ := HC.out
      cases e with
      | true =>
        repeat any_goals (first | go_skip | go_guarded | go_step | go_upon | (simp only []; done))
        go_meet
        exact ⟨by first | rfl | (simp; omega), by (repeat first | with_reducible exact Below.refl _ _ | with_reducible assumption | with_reducible refine Below.drew ?_ | with_reducible refine below_alloc ?_ _ | ((with_reducible refine Below.setCell ?_ ?_ _); rotate_left; (focus (first | with_reducible exact Nat.le_refl _ | (simp; done) | (simp; omega) | omega))) | (with_reducible refine below_trans ?_ (by assumption)))⟩
      | false =>
        obtain ⟨g1, g2⟩ := hf rfl
        rcases hc with rfl | rfl | rfl
        · have hd := g2 (by decide)
          repeat any_goals (first | (go_at_call 19; with_reducible refine (C.out.c12 _).mono ?_; rintro e wa ⟨rfl, hba⟩) | go_skip | go_guarded | go_step | go_upon | (dsimp only []))
          go_meet
          exact ⟨by first | rfl | (simp; omega), by (repeat first | with_reducible exact Below.refl _ _ | with_reducible assumption | with_reducible refine Below.drew ?_ | with_reducible refine below_alloc ?_ _ | ((with_reducible refine Below.setCell ?_ ?_ _); rotate_left; (focus (first | with_reducible exact Nat.le_refl _ | (simp; done) | (simp; omega) | omega))) | (with_reducible refine below_trans ?_ (by assumption)))⟩
        · have hu := g1 (by decide)
          have hd := g2 (by decide)
          repeat any_goals (first | (go_at_call 19; with_reducible refine (C.out.c11 _).mono ?_; rintro e w9 ⟨rfl, hb9⟩; (first | have l9 := Lib.hid (Tl9.out.below hb9) | have l9 := Lib.hid (Tl9.out.step hb9) | have l9 := Lib.hid (Tl9.out.step2 hb9)); obtain ⟨_, _, _, _, _⟩ := l9.out.all; (first | have b9 := Lib.hid (Tb9.out.below hb9) | have b9 := Lib.hid (Tb9.out.step hb9) | have b9 := Lib.hid (Tb9.out.step2 hb9)); obtain ⟨_, _, _, _, _⟩ := b9.out.all) | (go_at_call 19; with_reducible refine (C.out.c12 _).mono ?_; rintro e wa ⟨rfl, hba⟩) | go_skip | go_guarded | go_step | go_upon | (dsimp only []))
          go_meet
          exact ⟨by first | rfl | (simp; omega), by (repeat first | with_reducible exact Below.refl _ _ | with_reducible assumption | with_reducible refine Below.drew ?_ | with_reducible refine below_alloc ?_ _ | ((with_reducible refine Below.setCell ?_ ?_ _); rotate_left; (focus (first | with_reducible exact Nat.le_refl _ | (simp; done) | (simp; omega) | omega))) | (with_reducible refine below_trans ?_ (by assumption)))⟩
        · have hu := g1 (by decide)
          repeat any_goals (first | (go_at_call 19; with_reducible refine (C.out.c11 _).mono ?_; rintro e w9 ⟨rfl, hb9⟩; (first | have l9 := Lib.hid (Tl9.out.below hb9) | have l9 := Lib.hid (Tl9.out.step hb9) | have l9 := Lib.hid (Tl9.out.step2 hb9)); obtain ⟨_, _, _, _, _⟩ := l9.out.all; (first | have b9 := Lib.hid (Tb9.out.below hb9) | have b9 := Lib.hid (Tb9.out.step hb9) | have b9 := Lib.hid (Tb9.out.step2 hb9)); obtain ⟨_, _, _, _, _⟩ := b9.out.all) | (go_at_call 19; with_reducible refine (C.out.c12 _).mono ?_; rintro e wa ⟨rfl, hba⟩) | go_skip | go_guarded | go_step | go_upon | (dsimp only []))
          go_meet
          exact ⟨by first | rfl | (simp; omega), by (repeat first | with_reducible exact Below.refl _ _ | with_reducible assumption | with_reducible refine Below.drew ?_ | with_reducible refine below_alloc ?_ _ | ((with_reducible refine Below.setCell ?_ ?_ _); rotate_left; (focus (first | with_reducible exact Nat.le_refl _ | (simp; done) | (simp; omega) | omega))) | (with_reducible refine below_trans ?_ (by assumption)))⟩
    case rest =>
      obtain ⟨rfl, hby⟩ := hcut
      have Taa := Lib.hid (Ta9.out.below hby)
      have Tua := Lib.hid (Tu9.out.below hby)
      have Tda := Lib.hid (Td9.out.below hby)
      have Tha := Lib.hid (Th9.out.below hby)
      have Tla := Lib.hid (Tl9.out.below hby)
      have hWa := below_trans hW9 hby
      clear Ta9 Tb9 Tu9 Td9 Th9 Tl9 hW9 hby
      go_upto_region 13 with fail
      rcases HP.out with ⟨rfl, rfl⟩ | ⟨rfl, rfl⟩ | ⟨rfl, rfl⟩
      all_goals (
        (try have hu3 := hu2.out rfl)
        (try have hd3 := hd2.out rfl)
        (repeat any_goals (first | (go_at_call 11; with_reducible refine (told_any _ (T0.out.below (by (repeat first | with_reducible exact Below.refl _ _ | with_reducible assumption | with_reducible refine Below.drew ?_ | with_reducible refine below_alloc ?_ _ | ((with_reducible refine Below.setCell ?_ ?_ _); rotate_left; (focus (first | with_reducible exact Nat.le_refl _ | (simp; done) | (simp; omega) | omega))) | (with_reducible refine below_trans ?_ (by assumption)))))).mono ?_; rintro e wb ⟨rfl, hbb⟩; have Tab := Lib.hid (Taa.out.below hbb); have ub := Lib.hid (Tua.out.below hbb); have db := Lib.hid (Tda.out.below hbb); have Thb := Lib.hid (Tha.out.below hbb); have Tlb := Lib.hid (Tla.out.below hbb); obtain ⟨_, _, _, _, _⟩ := ub.out.all; obtain ⟨_, _, _, _, _⟩ := db.out.all) | (go_at_call 17; with_reducible refine (C.out.c13 _ (T0.out.below (by (repeat first | with_reducible exact Below.refl _ _ | with_reducible assumption | with_reducible refine Below.drew ?_ | with_reducible refine below_alloc ?_ _ | ((with_reducible refine Below.setCell ?_ ?_ _); rotate_left; (focus (first | with_reducible exact Nat.le_refl _ | (simp; done) | (simp; omega) | omega))) | (with_reducible refine below_trans ?_ (by assumption))))).t).mono ?_; rintro e wc2 ⟨rfl, hbc⟩; (first | have uc := Lib.hid (ub.out.below hbc) | have uc := Lib.hid (ub.out.step hbc) | have uc := Lib.hid (ub.out.step2 hbc)); obtain ⟨_, _, _, _, _⟩ := uc.out.all; (first | have ac := Lib.hid (Tab.out.below hbc) | have ac := Lib.hid (Tab.out.step hbc) | have ac := Lib.hid (Tab.out.step2 hbc)); obtain ⟨_, _, _, _, _⟩ := ac.out.all; (first | have Tdc := Lib.hid (db.out.below hbc) | have Tdc := Lib.hid (db.out.step hbc) | have Tdc := Lib.hid (db.out.step2 hbc)); (first | have Thc := Lib.hid (Thb.out.below hbc) | have Thc := Lib.hid (Thb.out.step hbc) | have Thc := Lib.hid (Thb.out.step2 hbc)); (first | have Tlc := Lib.hid (Tlb.out.below hbc) | have Tlc := Lib.hid (Tlb.out.step hbc) | have Tlc := Lib.hid (Tlb.out.step2 hbc))) | (go_at_call 19; with_reducible refine (C.out.c14 _).mono ?_; rintro e wd ⟨rfl, hbd⟩; (first | have Tad := Lib.hid (ac.out.below hbd) | have Tad := Lib.hid (ac.out.step hbd) | have Tad := Lib.hid (ac.out.step2 hbd)); (first | have dd := Lib.hid (Tdc.out.below hbd) | have dd := Lib.hid (Tdc.out.step hbd) | have dd := Lib.hid (Tdc.out.step2 hbd)); obtain ⟨_, _, _, _, _⟩ := dd.out.all; (first | have hd := Lib.hid (Thc.out.below hbd) | have hd := Lib.hid (Thc.out.step hbd) | have hd := Lib.hid (Thc.out.step2 hbd)); obtain ⟨_, _, _, _, _⟩ := hd.out.all; (first | have Tld := Lib.hid (Tlc.out.below hbd) | have Tld := Lib.hid (Tlc.out.step hbd) | have Tld := Lib.hid (Tlc.out.step2 hbd))) | (go_at_call 17; with_reducible refine (C.out.c15 _ (T0.out.below (by (repeat first | with_reducible exact Below.refl _ _ | with_reducible assumption | with_reducible refine Below.drew ?_ | with_reducible refine below_alloc ?_ _ | ((with_reducible refine Below.setCell ?_ ?_ _); rotate_left; (focus (first | with_reducible exact Nat.le_refl _ | (simp; done) | (simp; omega) | omega))) | (with_reducible refine below_trans ?_ (by assumption))))).t).mono ?_; rintro e we ⟨rfl, hbe⟩; (first | have de := Lib.hid (dd.out.below hbe) | have de := Lib.hid (dd.out.step hbe) | have de := Lib.hid (dd.out.step2 hbe)); obtain ⟨_, _, _, _, _⟩ := de.out.all; (first | have ae := Lib.hid (Tad.out.below hbe) | have ae := Lib.hid (Tad.out.step hbe) | have ae := Lib.hid (Tad.out.step2 hbe)); obtain ⟨_, _, _, _, _⟩ := ae.out.all; (first | have The := Lib.hid (hd.out.below hbe) | have The := Lib.hid (hd.out.step hbe) | have The := Lib.hid (hd.out.step2 hbe)); (first | have Tle := Lib.hid (Tld.out.below hbe) | have Tle := Lib.hid (Tld.out.step hbe) | have Tle := Lib.hid (Tld.out.step2 hbe))) | (go_at_call 17; with_reducible refine (C.out.c15 _ (T0.out.below (by (repeat first | with_reducible exact Below.refl _ _ | with_reducible assumption | with_reducible refine Below.drew ?_ | with_reducible refine below_alloc ?_ _ | ((with_reducible refine Below.setCell ?_ ?_ _); rotate_left; (focus (first | with_reducible exact Nat.le_refl _ | (simp; done) | (simp; omega) | omega))) | (with_reducible refine below_trans ?_ (by assumption))))).t).mono ?_; rintro e we ⟨rfl, hbe⟩; (first | have de := Lib.hid (db.out.below hbe) | have de := Lib.hid (db.out.step hbe) | have de := Lib.hid (db.out.step2 hbe)); obtain ⟨_, _, _, _, _⟩ := de.out.all; (first | have ae := Lib.hid (Tab.out.below hbe) | have ae := Lib.hid (Tab.out.step hbe) | have ae := Lib.hid (Tab.out.step2 hbe)); obtain ⟨_, _, _, _, _⟩ := ae.out.all; (first | have The := Lib.hid (Thb.out.below hbe) | have The := Lib.hid (Thb.out.step hbe) | have The := Lib.hid (Thb.out.step2 hbe)); (first | have Tle := Lib.hid (Tlb.out.below hbe) | have Tle := Lib.hid (Tlb.out.step hbe) | have Tle := Lib.hid (Tlb.out.step2 hbe))) | (go_at_call 19; with_reducible refine (C.out.c16 _).mono ?_; rintro e wf ⟨rfl, hbf⟩; (first | have Taf := Lib.hid (ae.out.below hbf) | have Taf := Lib.hid (ae.out.step hbf) | have Taf := Lib.hid (ae.out.step2 hbf)); (first | have hf := Lib.hid (The.out.below hbf) | have hf := Lib.hid (The.out.step hbf) | have hf := Lib.hid (The.out.step2 hbf)); obtain ⟨_, _, _, _, _⟩ := hf.out.all; (first | have Tlf := Lib.hid (Tle.out.below hbf) | have Tlf := Lib.hid (Tle.out.step hbf) | have Tlf := Lib.hid (Tle.out.step2 hbf))) | (go_at_call 17; with_reducible refine (C.out.c17 _ (T0.out.below (by (repeat first | with_reducible exact Below.refl _ _ | with_reducible assumption | with_reducible refine Below.drew ?_ | with_reducible refine below_alloc ?_ _ | ((with_reducible refine Below.setCell ?_ ?_ _); rotate_left; (focus (first | with_reducible exact Nat.le_refl _ | (simp; done) | (simp; omega) | omega))) | (with_reducible refine below_trans ?_ (by assumption))))).t).mono ?_; rintro e wg ⟨rfl, hbg⟩; (first | have hg := Lib.hid (hf.out.below hbg) | have hg := Lib.hid (hf.out.step hbg) | have hg := Lib.hid (hf.out.step2 hbg)); obtain ⟨_, _, _, _, _⟩ := hg.out.all; (first | have ag := Lib.hid (Taf.out.below hbg) | have ag := Lib.hid (Taf.out.step hbg) | have ag := Lib.hid (Taf.out.step2 hbg)); obtain ⟨_, _, _, _, _⟩ := ag.out.all; (first | have Tlg := Lib.hid (Tlf.out.below hbg) | have Tlg := Lib.hid (Tlf.out.step hbg) | have Tlg := Lib.hid (Tlf.out.step2 hbg))) | (go_at_call 17; with_reducible refine (C.out.c17 _ (T0.out.below (by (repeat first | with_reducible exact Below.refl _ _ | with_reducible assumption | with_reducible refine Below.drew ?_ | with_reducible refine below_alloc ?_ _ | ((with_reducible refine Below.setCell ?_ ?_ _); rotate_left; (focus (first | with_reducible exact Nat.le_refl _ | (simp; done) | (simp; omega) | omega))) | (with_reducible refine below_trans ?_ (by assumption))))).t).mono ?_; rintro e wg ⟨rfl, hbg⟩; (first | have hg := Lib.hid (hd.out.below hbg) | have hg := Lib.hid (hd.out.step hbg) | have hg := Lib.hid (hd.out.step2 hbg)); obtain ⟨_, _, _, _, _⟩ := hg.out.all; (first | have ag := Lib.hid (Tad.out.below hbg) | have ag := Lib.hid (Tad.out.step hbg) | have ag := Lib.hid (Tad.out.step2 hbg)); obtain ⟨_, _, _, _, _⟩ := ag.out.all; (first | have Tlg := Lib.hid (Tld.out.below hbg) | have Tlg := Lib.hid (Tld.out.step hbg) | have Tlg := Lib.hid (Tld.out.step2 hbg))) | (go_at_call 19; with_reducible refine (C.out.c18 _).mono ?_; rintro e wh ⟨rfl, hbh⟩; (first | have Tah := Lib.hid (ag.out.below hbh) | have Tah := Lib.hid (ag.out.step hbh) | have Tah := Lib.hid (ag.out.step2 hbh)); (first | have lh := Lib.hid (Tlg.out.below hbh) | have lh := Lib.hid (Tlg.out.step hbh) | have lh := Lib.hid (Tlg.out.step2 hbh)); obtain ⟨_, _, _, _, _⟩ := lh.out.all) | (go_at_call 17; with_reducible refine (C.out.c19 _ (T0.out.below (by (repeat first | with_reducible exact Below.refl _ _ | with_reducible assumption | with_reducible refine Below.drew ?_ | with_reducible refine below_alloc ?_ _ | ((with_reducible refine Below.setCell ?_ ?_ _); rotate_left; (focus (first | with_reducible exact Nat.le_refl _ | (simp; done) | (simp; omega) | omega))) | (with_reducible refine below_trans ?_ (by assumption))))).t).mono ?_; rintro e wi ⟨rfl, hbi⟩; (first | have li := Lib.hid (lh.out.below hbi) | have li := Lib.hid (lh.out.step hbi) | have li := Lib.hid (lh.out.step2 hbi)); obtain ⟨_, _, _, _, _⟩ := li.out.all; (first | have ai := Lib.hid (Tah.out.below hbi) | have ai := Lib.hid (Tah.out.step hbi) | have ai := Lib.hid (Tah.out.step2 hbi)); obtain ⟨_, _, _, _, _⟩ := ai.out.all) | (go_at_call 19; with_reducible refine (C.out.c20 _).mono ?_; rintro e wj ⟨rfl, hbj⟩) | go_skip | go_guarded | go_step | go_upon | (dsimp only [])))
        go_ret
        exact ⟨by simp, by (repeat first | with_reducible exact Below.refl _ _ | with_reducible assumption | with_reducible refine Below.drew ?_ | with_reducible refine below_alloc ?_ _ | ((with_reducible refine Below.setCell ?_ ?_ _); rotate_left; (focus (first | with_reducible exact Nat.le_refl _ | (simp; done) | (simp; omega) | omega))) | (with_reducible refine below_trans ?_ (by assumption)))⟩)
theorem ex_val {up n : Bool} {V : Nat} (h : mayI n V = true) : exOk up n V = decide (exV V (up != n) < 2 ^ 256) := by unfold exOk; rw [h, Bool.true_and]
/-- the exact ones above and below -/
theorem ex_up {z : Int} (hz : ab z < 2 ^ 256) (b : Int) (hb : ab b < 2 ^ 256) (hx : exZ b = true) (h : z ≤ b) : exOk true (sg z) (ab z) = true ∧ ex true (sg z) (ab z) ≤ b := by
  have hxN : exN (ab b) := of_decide_eq_true hx
  have ok := ex_val (up := true) (may_z z)
  have hz3 := z_z z
  have lt : ∀ o : Bool, exV (ab z) o < 2 ^ 256 → exOk true (sg z) (ab z) = decide (exV (ab z) (true != sg z) < 2 ^ 256) := fun _ _ => ok
  cases hs : sg z with
  | false =>
    have hz0 : 0 ≤ z := by
      have := of_decide_eq_false hs
      omega
    have hab : ab z ≤ ab b := by unfold ab; omega
    have hle : exV (ab z) true ≤ ab b := by
      unfold exV
      split
      · rename_i c
        exact gap_least hxN hab c.2
      · have := cut_le (ab z)
        omega
    have o : exOk true false (ab z) = true := by
      rw [hs] at ok
      rw [ok]
      exact decide_eq_true (Nat.lt_of_le_of_lt hle hb)
    refine ⟨o, ?_⟩
    have e : ex true false (ab z) = (exV (ab z) true : Nat) := by
      unfold ex
      rw [if_pos o]
      rfl
    rw [e]
    have : (ab b : Int) = b := by unfold ab; omega
    omega
  | true =>
    have hz0 : z < 0 := of_decide_eq_true hs
    have hv : exV (ab z) false = cutV (ab z) := rfl
    have o : exOk true true (ab z) = true := by
      rw [hs] at ok
      rw [ok]
      exact decide_eq_true (Nat.lt_of_le_of_lt (cut_le _) hz)
    refine ⟨o, ?_⟩
    have e : ex true true (ab z) = -(cutV (ab z) : Int) := by
      unfold ex
      rw [if_pos o]
      rfl
    rw [e]
    by_cases c : 0 ≤ b
    · omega
    · have := cut_greatest hxN (show ab b ≤ ab z by unfold ab; omega)
      have e2 : (ab b : Int) = -b := by unfold ab; omega
      omega
theorem ex_down {z : Int} (hz : ab z < 2 ^ 256) (b : Int) (hb : ab b < 2 ^ 256) (hx : exZ b = true) (h : b ≤ z) : exOk false (sg z) (ab z) = true ∧ b ≤ ex false (sg z) (ab z) := by
  have hxN : exN (ab b) := of_decide_eq_true hx
  have ok := ex_val (up := false) (may_z z)
  cases hs : sg z with
  | true =>
    have hz0 : z < 0 := of_decide_eq_true hs
    have hab : ab z ≤ ab b := by unfold ab; omega
    have hle : exV (ab z) true ≤ ab b := by
      unfold exV
      split
      · rename_i c
        exact gap_least hxN hab c.2
      · have := cut_le (ab z)
        omega
    have o : exOk false true (ab z) = true := by
      rw [hs] at ok
      rw [ok]
      exact decide_eq_true (Nat.lt_of_le_of_lt hle hb)
    refine ⟨o, ?_⟩
    have e : ex false true (ab z) = -(exV (ab z) true : Int) := by
      unfold ex
      rw [if_pos o]
      rfl
    rw [e]
    have : (ab b : Int) = -b := by unfold ab; omega
    omega
  | false =>
    have hz0 : 0 ≤ z := by
      have := of_decide_eq_false hs
      omega
    have o : exOk false false (ab z) = true := by
      rw [hs] at ok
      rw [ok]
      exact decide_eq_true (Nat.lt_of_le_of_lt (cut_le _) hz)
    refine ⟨o, ?_⟩
    have e : ex false false (ab z) = (cutV (ab z) : Nat) := by
      unfold ex
      rw [if_pos o]
      rfl
    rw [e]
    by_cases c : b ≤ 0
    · omega
    · have := cut_greatest hxN (show ab b ≤ ab z by unfold ab; omega)
      have e2 : (ab b : Int) = b := by unfold ab; omega
      omega
theorem ex_is {up : Bool} {z : Int} (o : exOk up (sg z) (ab z) = true) : ab (ex up (sg z) (ab z)) < 2 ^ 256 ∧ exZ (ex up (sg z) (ab z)) = true ∧ (up = true → z ≤ ex up (sg z) (ab z)) ∧ (up = false → ex up (sg z) (ab z) ≤ z) := by
  have ok := ex_val (up := up) (may_z z)
  have e : ex up (sg z) (ab z) = zI (sg z) (exV (ab z) (up != sg z)) := if_pos o
  have hlt : exV (ab z) (up != sg z) < 2 ^ 256 := of_decide_eq_true (ok.symm.trans o)
  rw [e, ab_zI]
  refine ⟨hlt, ?_, fun h => ?_, fun h => ?_⟩
  · unfold exZ
    rw [ab_zI]
    exact decide_eq_true (exV_ex _ _)
  · subst h
    cases hs : sg z with
    | false =>
      rw [zI_false]
      have hz0 : 0 ≤ z := by
        have := of_decide_eq_false hs
        omega
      have : (ab z : Int) = z := by unfold ab; omega
      have k : ab z ≤ exV (ab z) true := by
        unfold exV
        have := cut_lt (ab z)
        have := cut_le (ab z)
        split
        · omega
        · rename_i c
          have : cutV (ab z) = ab z := Classical.not_not.1 fun h => c ⟨rfl, h⟩
          omega
      show z ≤ ((exV (ab z) true : Nat) : Int)
      omega
    | true =>
      rw [zI_true]
      have hz0 : z < 0 := of_decide_eq_true hs
      have : (ab z : Int) = -z := by unfold ab; omega
      have k := cut_le (ab z)
      show z ≤ -((cutV (ab z) : Nat) : Int)
      omega
  · subst h
    cases hs : sg z with
    | true =>
      rw [zI_true]
      have hz0 : z < 0 := of_decide_eq_true hs
      have : (ab z : Int) = -z := by unfold ab; omega
      have k : ab z ≤ exV (ab z) true := by
        unfold exV
        have := cut_lt (ab z)
        have := cut_le (ab z)
        split
        · omega
        · rename_i c
          have : cutV (ab z) = ab z := Classical.not_not.1 fun h => c ⟨rfl, h⟩
          omega
      show -((exV (ab z) true : Nat) : Int) ≤ z
      omega
    | false =>
      rw [zI_false]
      have hz0 : 0 ≤ z := by
        have := of_decide_eq_false hs
        omega
      have : (ab z : Int) = z := by unfold ab; omega
      have k := cut_le (ab z)
      show ((cutV (ab z) : Nat) : Int) ≤ z
      omega
/-- the others above and below -/
theorem rg_is {z : Int} (hz : ab z < 2 ^ 256) : (ab (rgZ true z) < 2 ^ 256 ∧ exZ (rgZ true z) = false ∧ z ≤ rgZ true z) ∧ (ab (rgZ false z) < 2 ^ 256 ∧ exZ (rgZ false z) = false ∧ rgZ false z ≤ z) := by
  have N : ∀ x : Int, 9007199254740992 < ab x → ab x % 2 = 1 → exZ x = false := fun x h1 h2 => by
    rw [← Bool.not_eq_true]
    intro h
    have := exZ_even h h1
    omega
  unfold rgZ
  by_cases hx : exZ z = true
  · rw [if_pos hx, if_pos hx, if_pos rfl, if_neg Bool.false_ne_true]
    have he := fun h => exZ_even hx h
    have hm := exZ_max hx hz
    constructor
    · by_cases c : -9007199254740992 ≤ z ∧ z < 9007199254740992
      · rw [if_pos c]
        exact ⟨by decide, by decide, by omega⟩
      · rw [if_neg c]
        have k := @ab_step z 1 (.inl rfl)
        refine ⟨by omega, ?_, by omega⟩
        unfold ab at *
        exact N _ (by omega) (by omega)
    · by_cases c : -9007199254740992 < z ∧ z ≤ 9007199254740992
      · rw [if_pos c]
        exact ⟨by decide, by decide, by omega⟩
      · rw [if_neg c]
        have k := @ab_step z (-1) (.inr rfl)
        refine ⟨by omega, ?_, by omega⟩
        unfold ab at *
        exact N _ (by omega) (by omega)
  · rw [if_neg hx, if_neg hx]
    have hx2 : exZ z = false := by simpa using hx
    exact ⟨⟨hz, hx2, Int.le_refl _⟩, ⟨hz, hx2, Int.le_refl _⟩⟩
theorem rg_near {z b : Int} (hb : exZ b = false) : (z ≤ b → rgZ true z ≤ b) ∧ (b ≤ z → b ≤ rgZ false z) := by
  have hS : 9007199254740992 < ab b := by
    by_cases c : 9007199254740992 < ab b
    · exact c
    · exact absurd (exZ_small (z := b) (by omega)) (by rw [hb]; exact Bool.false_ne_true)
  unfold ab at hS
  unfold rgZ
  constructor
  · intro h
    by_cases hx : exZ z = true
    · rw [if_pos hx, if_pos rfl]
      have hne : z ≠ b := fun e => by rw [e, hb] at hx; exact Bool.false_ne_true hx
      split <;> omega
    · rw [if_neg hx]
      exact h
  · intro h
    by_cases hx : exZ z = true
    · rw [if_pos hx, if_neg Bool.false_ne_true]
      have hne : z ≠ b := fun e => by rw [e, hb] at hx; exact Bool.false_ne_true hx
      split <;> omega
    · rw [if_neg hx]
      exact h
theorem cmpZ_cases (x y : Int) : (cmpZ x y = -1 ∧ x < y) ∨ (cmpZ x y = 0 ∧ x = y) ∨ (cmpZ x y = 1 ∧ y < x) := by
  unfold cmpZ
  by_cases a : x < y
  · exact .inl ⟨if_pos a, a⟩
  · by_cases b : x = y
    · exact .inr (.inl ⟨by rw [if_neg a, if_pos b], b⟩)
    · exact .inr (.inr ⟨by rw [if_neg a, if_neg b], by omega⟩)
/-- **WholeNear.** -/
theorem Near2_any (n : Bool) (V : Nat) (m : Bool) (U : Nat) (hV : V < 2 ^ 256) (hU : U < 2 ^ 256) (w : World) (hT : Tabs w) :
    Calls Tryd.prog 9 #[.agg #[.bool (n ), .int .u64 (lm ( V) 0 : Nat), .int .u64 (lm ( V) 1 : Nat), .int .u64 (lm ( V) 2 : Nat), .int .u64 (lm ( V) 3 : Nat)], .agg #[.bool (m ), .int .u64 (lm ( U) 0 : Nat), .int .u64 (lm ( U) 1 : Nat), .int .u64 (lm ( U) 2 : Nat), .int .u64 (lm ( U) 3 : Nat)]] w fun e w' => e = .returned (.bool true) ∧ Below w.heap.size w w' := by
  by_cases hm : mayI n V = true ∧ mayI m U = true
  · obtain ⟨m1, m2⟩ := hm
    obtain ⟨z, hz⟩ : ∃ z, z = zI n V := ⟨_, rfl⟩
    obtain ⟨b, hb⟩ : ∃ b, b = zI m U := ⟨_, rfl⟩
    have e1 : n = sg z := by rw [hz, sg_zI m1]
    have e2 : V = ab z := by rw [hz, ab_zI]
    have e3 : m = sg b := by rw [hb, sg_zI m2]
    have e4 : U = ab b := by rw [hb, ab_zI]
    rw [e2] at hV
    rw [e4] at hU
    rw [e1, e2, e3, e4]
    have C1 := May_any (sg z) (ab z) hV
    have C2 := May_any (sg b) (ab b) hU
    rw [may_z] at C1 C2
    have K0 : ∀ up : Bool, ab (ex up (sg z) (ab z)) < 2 ^ 256 ∧ exZ (ex up (sg z) (ab z)) = true := fun up => by
      cases o : exOk up (sg z) (ab z) with
      | true => exact ⟨(ex_is o).1, (ex_is o).2.1⟩
      | false =>
        have e : ex up (sg z) (ab z) = 0 := by unfold ex; rw [if_neg (by rw [o]; exact Bool.false_ne_true)]
        rw [e]
        exact ⟨by decide, by decide⟩
    obtain ⟨⟨r1, r2, r3⟩, ⟨r4, r5, r6⟩⟩ := rg_is hV
    have e5 : ∀ up : Bool, rg up (sg z) (ab z) = rgZ up z := fun up => by rw [rg_z (may_z z), z_z]
    have C5 := RoughUp_any (sg z) (ab z) hV
    have C6 := RoughDown_any (sg z) (ab z) hV
    rw [e5, may_z] at C5 C6
    have ZE : ∀ x : Int, ab x < 2 ^ 256 → ∀ w : World, Tab w → Calls Tryd.prog 17 #[.agg #[.bool (sg x ), .int .u64 (lm ( ab x) 0 : Nat), .int .u64 (lm ( ab x) 1 : Nat), .int .u64 (lm ( ab x) 2 : Nat), .int .u64 (lm ( ab x) 3 : Nat)]] w fun e w' => e = .returned (.bool (exZ x)) ∧ Below w.heap.size w w' := fun x hx w hT => by
      have k := Exact_any (sg x) (ab x) hx w hT
      rw [exI_z] at k
      exact k
    have C7 := ZE b hU
    have C13 := ZE _ (K0 true).1
    have C15 := ZE _ (K0 false).1
    have C17 := ZE _ r1
    have C19 := ZE _ r4
    rw [(K0 true).2] at C13
    rw [(K0 false).2] at C15
    rw [r2] at C17
    rw [r5] at C19
    have CM : ∀ x y : Int, ab x < 2 ^ 256 → ab y < 2 ^ 256 → ∀ w : World, Calls Tryd.prog 19 #[.agg #[.bool (sg x ), .int .u64 (lm ( ab x) 0 : Nat), .int .u64 (lm ( ab x) 1 : Nat), .int .u64 (lm ( ab x) 2 : Nat), .int .u64 (lm ( ab x) 3 : Nat)], .agg #[.bool (sg y ), .int .u64 (lm ( ab y) 0 : Nat), .int .u64 (lm ( ab y) 1 : Nat), .int .u64 (lm ( ab y) 2 : Nat), .int .u64 (lm ( ab y) 3 : Nat)]] w fun e w' => e = .returned (.int .i64 (cmpZ x y)) ∧ Below w.heap.size w w' := fun x y hx hy w => by
      have k := Cmp_any (sg x) (ab x) hx (sg y) (ab y) hy w
      rw [cmpI_z] at k
      exact k
    refine Near2_walk (sg z) (ab z) (sg b) (ab b) _ _ _ _ _ _ _ _ _ _ _ _ _ _ _ _ _ _ _ _ w hT (Lib.hid (NrM.mk C1 C2)) (Lib.hid (NrC.mk (ExactUp_any (sg z) (ab z) hV) (ExactDown_any (sg z) (ab z) hV) C5 C6 C7 (CM b z hU hV) (CM _ b (K0 true).1 hU) (CM _ b (K0 false).1 hU) (CM _ b r1 hU) (CM _ b r4 hU) C13 (CM _ z (K0 true).1 hV) C15 (CM _ z (K0 false).1 hV) C17 (CM _ z r1 hV) C19 (CM _ z r4 hV))) (Lib.hid ⟨?_, ?_, ?_⟩) (Lib.hid ?_) (Lib.hid ?_) (Lib.hid ?_) ?_ ?_
    · rcases cmpZ_cases b z with h | h | h
      · exact .inl h.1
      · exact .inr (.inl h.1)
      · exact .inr (.inr h.1)
    · intro hx
      constructor
      · intro h
        have hzb : z ≤ b := by rcases cmpZ_cases b z with k | k | k <;> omega
        obtain ⟨a1, a2⟩ := ex_up hV b hU hx hzb
        refine ⟨a1, ?_⟩
        rcases cmpZ_cases (ex true (sg z) (ab z)) b with k | k | k <;> omega
      · intro h
        have hzb : b ≤ z := by rcases cmpZ_cases b z with k | k | k <;> omega
        obtain ⟨a1, a2⟩ := ex_down hV b hU hx hzb
        refine ⟨a1, ?_⟩
        rcases cmpZ_cases (ex false (sg z) (ab z)) b with k | k | k <;> omega
    · intro hx
      obtain ⟨a1, a2⟩ := @rg_near z b hx
      constructor
      · intro h
        have hzb : z ≤ b := by rcases cmpZ_cases b z with k | k | k <;> omega
        have := a1 hzb
        rcases cmpZ_cases (rgZ true z) b with k | k | k <;> omega
      · intro h
        have hzb : b ≤ z := by rcases cmpZ_cases b z with k | k | k <;> omega
        have := a2 hzb
        rcases cmpZ_cases (rgZ false z) b with k | k | k <;> omega
    · have o1 := ex_val (up := true) (may_z z)
      have o2 := ex_val (up := false) (may_z z)
      have hc : cutV (ab z) < 2 ^ 256 := Nat.lt_of_le_of_lt (cut_le _) hV
      cases p : exOk true (sg z) (ab z) with
      | true =>
        cases q : exOk false (sg z) (ab z) with
        | true => exact .inl ⟨rfl, rfl⟩
        | false => exact .inr (.inl ⟨rfl, rfl⟩)
      | false =>
        refine .inr (.inr ⟨rfl, ?_⟩)
        rw [o2]
        cases hs : sg z with
        | false => exact decide_eq_true hc
        | true =>
          rw [hs] at o1 p
          rw [p] at o1
          exact absurd hc (of_decide_eq_false o1.symm)
    · intro h
      have := (ex_is h).2.2.1 rfl
      rcases cmpZ_cases (ex true (sg z) (ab z)) z with k | k | k <;> omega
    · intro h
      have := (ex_is h).2.2.2 rfl
      rcases cmpZ_cases (ex false (sg z) (ab z)) z with k | k | k <;> omega
    · rcases cmpZ_cases (rgZ true z) z with k | k | k <;> omega
    · rcases cmpZ_cases (rgZ false z) z with k | k | k <;> omega
  · refine Near2_no n V m U _ _ w hT (Lib.hid (NrM.mk (May_any n V hV) (May_any m U hU))) ?_
    cases a : mayI n V with
    | false => exact .inl rfl
    | true =>
      cases b : mayI m U with
      | false => exact .inr ⟨rfl, rfl⟩
      | true => exact absurd ⟨a, b⟩ hm
end Go.Proofs.YtbakgmkkebnhkaaDoor
