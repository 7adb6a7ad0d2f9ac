/- The law WholeChain. IBOX -/
import Derived.Test.YtbakgmkkebnhkaaDoorWhP
import Derived.BigRegion
namespace Go.Proofs.YtbakgmkkebnhkaaDoor
open Go.RowKit
theorem ibox_new1 {w : World} {n : Bool} {V : Nat} {t : TypeId} {o : Obj} : IBox ((w.alloc o).alloc (.cells #[.bool n, .int .u64 (lm V 0 : Nat), .int .u64 (lm V 1 : Nat), .int .u64 (lm V 2 : Nat), .int .u64 (lm V 3 : Nat)] t)) (w.heap.size + 1) n V := by
  have h := @ibox_new (w.alloc o) n V t
  simpa using h
theorem ibox_new2 {w : World} {n : Bool} {V : Nat} {t : TypeId} {o o2 : Obj} : IBox (((w.alloc o).alloc o2).alloc (.cells #[.bool n, .int .u64 (lm V 0 : Nat), .int .u64 (lm V 1 : Nat), .int .u64 (lm V 2 : Nat), .int .u64 (lm V 3 : Nat)] t)) (w.heap.size + 1 + 1) n V := by
  have h := @ibox_new1 (w.alloc o) n V t o2
  simpa using h
theorem iboxF_new1 {w : World} {n : Bool} {V : Nat} {t : TypeId} {o : Obj} : IBoxF ((w.alloc o).alloc (.cells #[.bool n, .int .u64 (lm V 0 : Nat), .int .u64 (lm V 1 : Nat), .int .u64 (lm V 2 : Nat), .int .u64 (lm V 3 : Nat)] t)) (w.heap.size + 1) n V := by
  have h := @iboxF_new (w.alloc o) n V t
  simpa using h
theorem IBoxF.drew {B V : Nat} {n : Bool} {w1 : World} (h : IBoxF w1 B n V) : IBoxF w1.drew B n V := h.below (Below.refl _ _).drew
theorem IBox.set0 {B V : Nat} {n m : Bool} {w1 : World} (h : IBox w1 B n V) : IBox (w1.setCell ⟨B, 0, none⟩ (.bool m)) B m V :=
  ⟨by rw [World.cell?_setCell_same _ _ _ h.c0], by rw [set_other (by simp)]; exact h.c1, by rw [set_other (by simp)]; exact h.c2, by rw [set_other (by simp)]; exact h.c3, by rw [set_other (by simp)]; exact h.c4, by simpa using h.l⟩
/-- what the law asks of the program -/
structure ChM (n1 : Bool) (V1 : Nat) (n2 : Bool) (V2 : Nat) (n3 : Bool) (V3 : Nat) (m1 m2 m3 : Bool) : Prop where
  c1 : ∀ w : World, Calls Tryd.prog 18 #[.agg #[.bool (n1 ), .int .u64 (lm ( V1) 0 : Nat), .int .u64 (lm ( V1) 1 : Nat), .int .u64 (lm ( V1) 2 : Nat), .int .u64 (lm ( V1) 3 : Nat)]] w fun e w' => e = .returned (.bool m1) ∧ Below w.heap.size w w'
  c2 : ∀ w : World, Calls Tryd.prog 18 #[.agg #[.bool (n2 ), .int .u64 (lm ( V2) 0 : Nat), .int .u64 (lm ( V2) 1 : Nat), .int .u64 (lm ( V2) 2 : Nat), .int .u64 (lm ( V2) 3 : Nat)]] w fun e w' => e = .returned (.bool m2) ∧ Below w.heap.size w w'
  c3 : ∀ w : World, Calls Tryd.prog 18 #[.agg #[.bool (n3 ), .int .u64 (lm ( V3) 0 : Nat), .int .u64 (lm ( V3) 1 : Nat), .int .u64 (lm ( V3) 2 : Nat), .int .u64 (lm ( V3) 3 : Nat)]] w fun e w' => e = .returned (.bool m3) ∧ Below w.heap.size w w'
structure ChC (n1 : Bool) (V1 : Nat) (n2 : Bool) (V2 : Nat) (n3 : Bool) (V3 : Nat) (m1 m2 m3 : Bool) (x y z u : Int) (p q : Bool) : Prop where
  c1 : ∀ w : World, Calls Tryd.prog 18 #[.agg #[.bool (n1 ), .int .u64 (lm ( V1) 0 : Nat), .int .u64 (lm ( V1) 1 : Nat), .int .u64 (lm ( V1) 2 : Nat), .int .u64 (lm ( V1) 3 : Nat)]] w fun e w' => e = .returned (.bool m1) ∧ Below w.heap.size w w'
  c2 : ∀ w : World, Calls Tryd.prog 18 #[.agg #[.bool (n2 ), .int .u64 (lm ( V2) 0 : Nat), .int .u64 (lm ( V2) 1 : Nat), .int .u64 (lm ( V2) 2 : Nat), .int .u64 (lm ( V2) 3 : Nat)]] w fun e w' => e = .returned (.bool m2) ∧ Below w.heap.size w w'
  c3 : ∀ w : World, Calls Tryd.prog 18 #[.agg #[.bool (n3 ), .int .u64 (lm ( V3) 0 : Nat), .int .u64 (lm ( V3) 1 : Nat), .int .u64 (lm ( V3) 2 : Nat), .int .u64 (lm ( V3) 3 : Nat)]] w fun e w' => e = .returned (.bool m3) ∧ Below w.heap.size w w'
  c4 : ∀ w : World, Calls Tryd.prog 19 #[.agg #[.bool (n1 ), .int .u64 (lm ( V1) 0 : Nat), .int .u64 (lm ( V1) 1 : Nat), .int .u64 (lm ( V1) 2 : Nat), .int .u64 (lm ( V1) 3 : Nat)], .agg #[.bool (n2 ), .int .u64 (lm ( V2) 0 : Nat), .int .u64 (lm ( V2) 1 : Nat), .int .u64 (lm ( V2) 2 : Nat), .int .u64 (lm ( V2) 3 : Nat)]] w fun e w' => e = .returned (.int .i64 x) ∧ Below w.heap.size w w'
  c5 : ∀ w : World, Calls Tryd.prog 19 #[.agg #[.bool (n2 ), .int .u64 (lm ( V2) 0 : Nat), .int .u64 (lm ( V2) 1 : Nat), .int .u64 (lm ( V2) 2 : Nat), .int .u64 (lm ( V2) 3 : Nat)], .agg #[.bool (n3 ), .int .u64 (lm ( V3) 0 : Nat), .int .u64 (lm ( V3) 1 : Nat), .int .u64 (lm ( V3) 2 : Nat), .int .u64 (lm ( V3) 3 : Nat)]] w fun e w' => e = .returned (.int .i64 y) ∧ Below w.heap.size w w'
  c6 : ∀ w : World, Calls Tryd.prog 19 #[.agg #[.bool (n1 ), .int .u64 (lm ( V1) 0 : Nat), .int .u64 (lm ( V1) 1 : Nat), .int .u64 (lm ( V1) 2 : Nat), .int .u64 (lm ( V1) 3 : Nat)], .agg #[.bool (n3 ), .int .u64 (lm ( V3) 0 : Nat), .int .u64 (lm ( V3) 1 : Nat), .int .u64 (lm ( V3) 2 : Nat), .int .u64 (lm ( V3) 3 : Nat)]] w fun e w' => e = .returned (.int .i64 z) ∧ Below w.heap.size w w'
  c7 : ∀ w : World, Calls Tryd.prog 19 #[.agg #[.bool (n2 ), .int .u64 (lm ( V2) 0 : Nat), .int .u64 (lm ( V2) 1 : Nat), .int .u64 (lm ( V2) 2 : Nat), .int .u64 (lm ( V2) 3 : Nat)], .agg #[.bool (n1 ), .int .u64 (lm ( V1) 0 : Nat), .int .u64 (lm ( V1) 1 : Nat), .int .u64 (lm ( V1) 2 : Nat), .int .u64 (lm ( V1) 3 : Nat)]] w fun e w' => e = .returned (.int .i64 u) ∧ Below w.heap.size w w'
  c8 : ∀ w : World, Calls Tryd.prog 19 #[.agg #[.bool (p ), .int .u64 (lm ( V1) 0 : Nat), .int .u64 (lm ( V1) 1 : Nat), .int .u64 (lm ( V1) 2 : Nat), .int .u64 (lm ( V1) 3 : Nat)], .agg #[.bool (q ), .int .u64 (lm ( V2) 0 : Nat), .int .u64 (lm ( V2) 1 : Nat), .int .u64 (lm ( V2) 2 : Nat), .int .u64 (lm ( V2) 3 : Nat)]] w fun e w' => e = .returned (.int .i64 u) ∧ Below w.heap.size w w'
set_option maxRecDepth 20000 in
set_option maxHeartbeats 3200000 in
theorem Chain_no (n1 : Bool) (V1 : Nat) (n2 : Bool) (V2 : Nat) (n3 : Bool) (V3 : Nat) (m1 m2 m3 : Bool) (w : World) (hT : Tabs w) (C : Hid (ChM n1 V1 n2 V2 n3 V3 m1 m2 m3)) (h : m1 = false ∨ m1 = true ∧ m2 = false ∨ m1 = true ∧ m2 = true ∧ m3 = false) :
    Calls Tryd.prog 5 #[.agg #[.bool (n1 ), .int .u64 (lm ( V1) 0 : Nat), .int .u64 (lm ( V1) 1 : Nat), .int .u64 (lm ( V1) 2 : Nat), .int .u64 (lm ( V1) 3 : Nat)], .agg #[.bool (n2 ), .int .u64 (lm ( V2) 0 : Nat), .int .u64 (lm ( V2) 1 : Nat), .int .u64 (lm ( V2) 2 : Nat), .int .u64 (lm ( V2) 3 : Nat)], .agg #[.bool (n3 ), .int .u64 (lm ( V3) 0 : Nat), .int .u64 (lm ( V3) 1 : Nat), .int .u64 (lm ( V3) 2 : Nat), .int .u64 (lm ( V3) 3 : Nat)]] w fun e w' => e = .returned (.bool true) ∧ Below w.heap.size w w' := by
  have T0 := Lib.hid hT
  clear hT
  go_enter Tryd.func5, Tryd.ntmps5
  go_upto_region 1 with fail
  have a0 := Lib.hid ((@ibox_new w n1 V1 26).alloc (.cells #[.bool n2, .int .u64 (lm V2 0 : Nat), .int .u64 (lm V2 1 : Nat), .int .u64 (lm V2 2 : Nat), .int .u64 (lm V2 3 : Nat)] 26) |>.alloc (.cells #[.bool n3, .int .u64 (lm V3 0 : Nat), .int .u64 (lm V3 1 : Nat), .int .u64 (lm V3 2 : Nat), .int .u64 (lm V3 3 : Nat)] 26))
  have b0 := Lib.hid ((@ibox_new1 w n2 V2 26 (.cells #[.bool n1, .int .u64 (lm V1 0 : Nat), .int .u64 (lm V1 1 : Nat), .int .u64 (lm V1 2 : Nat), .int .u64 (lm V1 3 : Nat)] 26)).alloc (.cells #[.bool n3, .int .u64 (lm V3 0 : Nat), .int .u64 (lm V3 1 : Nat), .int .u64 (lm V3 2 : Nat), .int .u64 (lm V3 3 : Nat)] 26))
  have c0 := Lib.hid (@ibox_new2 w n3 V3 26 (.cells #[.bool n1, .int .u64 (lm V1 0 : Nat), .int .u64 (lm V1 1 : Nat), .int .u64 (lm V1 2 : Nat), .int .u64 (lm V1 3 : Nat)] 26) (.cells #[.bool n2, .int .u64 (lm V2 0 : Nat), .int .u64 (lm V2 1 : Nat), .int .u64 (lm V2 2 : Nat), .int .u64 (lm V2 3 : Nat)] 26))
  have T1 := Lib.hid (((T0.out.alloc (.cells #[.bool n1, .int .u64 (lm V1 0 : Nat), .int .u64 (lm V1 1 : Nat), .int .u64 (lm V1 2 : Nat), .int .u64 (lm V1 3 : Nat)] 26)).alloc (.cells #[.bool n2, .int .u64 (lm V2 0 : Nat), .int .u64 (lm V2 1 : Nat), .int .u64 (lm V2 2 : Nat), .int .u64 (lm V2 3 : Nat)] 26)).alloc (.cells #[.bool n3, .int .u64 (lm V3 0 : Nat), .int .u64 (lm V3 1 : Nat), .int .u64 (lm V3 2 : Nat), .int .u64 (lm V3 3 : Nat)] 26))
  have hW : Below w.heap.size w (((w.alloc (.cells #[.bool n1, .int .u64 (lm V1 0 : Nat), .int .u64 (lm V1 1 : Nat), .int .u64 (lm V1 2 : Nat), .int .u64 (lm V1 3 : Nat)] 26)).alloc (.cells #[.bool n2, .int .u64 (lm V2 0 : Nat), .int .u64 (lm V2 1 : Nat), .int .u64 (lm V2 2 : Nat), .int .u64 (lm V2 3 : Nat)] 26)).alloc (.cells #[.bool n3, .int .u64 (lm V3 0 : Nat), .int .u64 (lm V3 1 : Nat), .int .u64 (lm V3 2 : Nat), .int .u64 (lm V3 3 : Nat)] 26)) := by (repeat first | with_reducible exact Below.refl _ _ | with_reducible assumption | with_reducible refine Below.drew ?_ | with_reducible refine below_alloc ?_ _ | ((with_reducible refine Below.setCell ?_ ?_ _); rotate_left; (focus (first | with_reducible exact Nat.le_refl _ | (simp; done) | (simp; omega) | omega))) | (with_reducible refine below_trans ?_ (by assumption)))
  generalize ((w.alloc (.cells #[.bool n1, .int .u64 (lm V1 0 : Nat), .int .u64 (lm V1 1 : Nat), .int .u64 (lm V1 2 : Nat), .int .u64 (lm V1 3 : Nat)] 26)).alloc (.cells #[.bool n2, .int .u64 (lm V2 0 : Nat), .int .u64 (lm V2 1 : Nat), .int .u64 (lm V2 2 : Nat), .int .u64 (lm V2 3 : Nat)] 26)).alloc (.cells #[.bool n3, .int .u64 (lm V3 0 : Nat), .int .u64 (lm V3 1 : Nat), .int .u64 (lm V3 2 : Nat), .int .u64 (lm V3 3 : Nat)] 26) = w0 at *
  obtain ⟨_, _, _, _, _⟩ := a0.out.all
  obtain ⟨_, _, _, _, _⟩ := b0.out.all
  obtain ⟨_, _, _, _, _⟩ := c0.out.all
  rcases h with rfl | ⟨rfl, rfl⟩ | ⟨rfl, rfl, rfl⟩
  all_goals (
    repeat any_goals (first | (go_at_call 18; with_reducible refine (C.out.c1 _).mono ?_; rintro e w1 ⟨rfl, hb1⟩; (first | have a1 := Lib.hid (a0.out.below hb1) | have a1 := Lib.hid (a0.out.step hb1) | have a1 := Lib.hid (a0.out.step2 hb1)); obtain ⟨_, _, _, _, _⟩ := a1.out.all; (first | have b1 := Lib.hid (b0.out.below hb1) | have b1 := Lib.hid (b0.out.step hb1) | have b1 := Lib.hid (b0.out.step2 hb1)); obtain ⟨_, _, _, _, _⟩ := b1.out.all; (first | have c1 := Lib.hid (c0.out.below hb1) | have c1 := Lib.hid (c0.out.step hb1) | have c1 := Lib.hid (c0.out.step2 hb1)); obtain ⟨_, _, _, _, _⟩ := c1.out.all; (first | have T2 := Lib.hid (T1.out.below hb1) | have T2 := Lib.hid (T1.out.step hb1) | have T2 := Lib.hid (T1.out.step2 hb1))) | (go_at_call 18; with_reducible refine (C.out.c2 _).mono ?_; rintro e w2 ⟨rfl, hb2⟩; (first | have a2 := Lib.hid (a1.out.below hb2) | have a2 := Lib.hid (a1.out.step hb2) | have a2 := Lib.hid (a1.out.step2 hb2)); obtain ⟨_, _, _, _, _⟩ := a2.out.all; (first | have b2 := Lib.hid (b1.out.below hb2) | have b2 := Lib.hid (b1.out.step hb2) | have b2 := Lib.hid (b1.out.step2 hb2)); obtain ⟨_, _, _, _, _⟩ := b2.out.all; (first | have c2 := Lib.hid (c1.out.below hb2) | have c2 := Lib.hid (c1.out.step hb2) | have c2 := Lib.hid (c1.out.step2 hb2)); obtain ⟨_, _, _, _, _⟩ := c2.out.all; (first | have T3 := Lib.hid (T2.out.below hb2) | have T3 := Lib.hid (T2.out.step hb2) | have T3 := Lib.hid (T2.out.step2 hb2))) | (go_at_call 18; with_reducible refine (C.out.c3 _).mono ?_; rintro e w3 ⟨rfl, hb3⟩; (first | have a3 := Lib.hid (a2.out.below hb3) | have a3 := Lib.hid (a2.out.step hb3) | have a3 := Lib.hid (a2.out.step2 hb3)); obtain ⟨_, _, _, _, _⟩ := a3.out.all; (first | have b3 := Lib.hid (b2.out.below hb3) | have b3 := Lib.hid (b2.out.step hb3) | have b3 := Lib.hid (b2.out.step2 hb3)); obtain ⟨_, _, _, _, _⟩ := b3.out.all; (first | have c3 := Lib.hid (c2.out.below hb3) | have c3 := Lib.hid (c2.out.step hb3) | have c3 := Lib.hid (c2.out.step2 hb3)); obtain ⟨_, _, _, _, _⟩ := c3.out.all; (first | have T4 := Lib.hid (T3.out.below hb3) | have T4 := Lib.hid (T3.out.step hb3) | have T4 := Lib.hid (T3.out.step2 hb3))) | (first | (go_at_call 11; refine (told_any _ T4.out).mono ?_; rintro e w4 ⟨rfl, hb4⟩) | (go_at_call 11; refine (told_any _ T3.out).mono ?_; rintro e w4 ⟨rfl, hb4⟩) | (go_at_call 11; refine (told_any _ T2.out).mono ?_; rintro e w4 ⟨rfl, hb4⟩)) | go_skip | go_guarded | go_step | go_upon | (dsimp only []))
    go_ret
    exact ⟨by simp, by (repeat first | with_reducible exact Below.refl _ _ | with_reducible assumption | with_reducible refine Below.drew ?_ | with_reducible refine below_alloc ?_ _ | ((with_reducible refine Below.setCell ?_ ?_ _); rotate_left; (focus (first | with_reducible exact Nat.le_refl _ | (simp; done) | (simp; omega) | omega))) | (with_reducible refine below_trans ?_ (by assumption)))⟩)
set_option maxRecDepth 20000 in
set_option maxHeartbeats 6400000 in
theorem Chain_yes (n1 : Bool) (V1 : Nat) (n2 : Bool) (V2 : Nat) (n3 : Bool) (V3 : Nat) (x y z u : Int) (p q : Bool) (w : World) (hT : Tabs w) (C : Hid (ChC n1 V1 n2 V2 n3 V3 true true true x y z u p q))
    (hx : Hid ((x = -1 ∧ u = 1 ∧ n1 = true ∧ n2 = false ∨ x = -1 ∧ u = 1 ∧ n1 = n2 ∧ (((lm V1 0 : Nat) : Int) == ((lm V2 0 : Nat) : Int) && ((lm V1 1 : Nat) : Int) == ((lm V2 1 : Nat) : Int) && ((lm V1 2 : Nat) : Int) == ((lm V2 2 : Nat) : Int) && ((lm V1 3 : Nat) : Int) == ((lm V2 3 : Nat) : Int)) = false ∨ x = 0 ∧ u = 0 ∧ n1 = n2 ∧ V1 = V2 ∨ x = 1 ∧ u = -1 ∧ n1 = false ∧ n2 = true ∨ x = 1 ∧ u = -1 ∧ n1 = n2 ∧ (((lm V1 0 : Nat) : Int) == ((lm V2 0 : Nat) : Int) && ((lm V1 1 : Nat) : Int) == ((lm V2 1 : Nat) : Int) && ((lm V1 2 : Nat) : Int) == ((lm V2 2 : Nat) : Int) && ((lm V1 3 : Nat) : Int) == ((lm V2 3 : Nat) : Int)) = false) ∧ (y = -1 ∨ y = 0 ∨ y = 1) ∧ (z = -1 ∨ z = 0 ∨ z = 1) ∧ (x ≤ 0 → y ≤ 0 → z ≤ 0) ∧ (0 ≤ x → 0 ≤ y → 0 ≤ z)))
    (hp : Hid ((n1 = true ∧ p = false ∨ n1 = false ∧ (!(((lm V1 0 : Nat) : Int) == 0 && ((lm V1 1 : Nat) : Int) == 0 && ((lm V1 2 : Nat) : Int) == 0 && ((lm V1 3 : Nat) : Int) == 0)) = p) ∧ (n2 = true ∧ q = false ∨ n2 = false ∧ (!(((lm V2 0 : Nat) : Int) == 0 && ((lm V2 1 : Nat) : Int) == 0 && ((lm V2 2 : Nat) : Int) == 0 && ((lm V2 3 : Nat) : Int) == 0)) = q))) (hu : -x = u) (hu2 : wrap64 u = u) :
    Calls Tryd.prog 5 #[.agg #[.bool (n1 ), .int .u64 (lm ( V1) 0 : Nat), .int .u64 (lm ( V1) 1 : Nat), .int .u64 (lm ( V1) 2 : Nat), .int .u64 (lm ( V1) 3 : Nat)], .agg #[.bool (n2 ), .int .u64 (lm ( V2) 0 : Nat), .int .u64 (lm ( V2) 1 : Nat), .int .u64 (lm ( V2) 2 : Nat), .int .u64 (lm ( V2) 3 : Nat)], .agg #[.bool (n3 ), .int .u64 (lm ( V3) 0 : Nat), .int .u64 (lm ( V3) 1 : Nat), .int .u64 (lm ( V3) 2 : Nat), .int .u64 (lm ( V3) 3 : Nat)]] w fun e w' => e = .returned (.bool true) ∧ Below w.heap.size w w' := by
  have T0 := Lib.hid hT
  clear hT
  go_enter Tryd.func5, Tryd.ntmps5
  go_upto_region 1 with fail
  have a0 := Lib.hid ((@ibox_new w n1 V1 26).alloc (.cells #[.bool n2, .int .u64 (lm V2 0 : Nat), .int .u64 (lm V2 1 : Nat), .int .u64 (lm V2 2 : Nat), .int .u64 (lm V2 3 : Nat)] 26) |>.alloc (.cells #[.bool n3, .int .u64 (lm V3 0 : Nat), .int .u64 (lm V3 1 : Nat), .int .u64 (lm V3 2 : Nat), .int .u64 (lm V3 3 : Nat)] 26))
  have b0 := Lib.hid ((@ibox_new1 w n2 V2 26 (.cells #[.bool n1, .int .u64 (lm V1 0 : Nat), .int .u64 (lm V1 1 : Nat), .int .u64 (lm V1 2 : Nat), .int .u64 (lm V1 3 : Nat)] 26)).alloc (.cells #[.bool n3, .int .u64 (lm V3 0 : Nat), .int .u64 (lm V3 1 : Nat), .int .u64 (lm V3 2 : Nat), .int .u64 (lm V3 3 : Nat)] 26))
  have c0 := Lib.hid (@ibox_new2 w n3 V3 26 (.cells #[.bool n1, .int .u64 (lm V1 0 : Nat), .int .u64 (lm V1 1 : Nat), .int .u64 (lm V1 2 : Nat), .int .u64 (lm V1 3 : Nat)] 26) (.cells #[.bool n2, .int .u64 (lm V2 0 : Nat), .int .u64 (lm V2 1 : Nat), .int .u64 (lm V2 2 : Nat), .int .u64 (lm V2 3 : Nat)] 26))
  have T1 := Lib.hid (((T0.out.alloc (.cells #[.bool n1, .int .u64 (lm V1 0 : Nat), .int .u64 (lm V1 1 : Nat), .int .u64 (lm V1 2 : Nat), .int .u64 (lm V1 3 : Nat)] 26)).alloc (.cells #[.bool n2, .int .u64 (lm V2 0 : Nat), .int .u64 (lm V2 1 : Nat), .int .u64 (lm V2 2 : Nat), .int .u64 (lm V2 3 : Nat)] 26)).alloc (.cells #[.bool n3, .int .u64 (lm V3 0 : Nat), .int .u64 (lm V3 1 : Nat), .int .u64 (lm V3 2 : Nat), .int .u64 (lm V3 3 : Nat)] 26))
  have hW : Below w.heap.size w (((w.alloc (.cells #[.bool n1, .int .u64 (lm V1 0 : Nat), .int .u64 (lm V1 1 : Nat), .int .u64 (lm V1 2 : Nat), .int .u64 (lm V1 3 : Nat)] 26)).alloc (.cells #[.bool n2, .int .u64 (lm V2 0 : Nat), .int .u64 (lm V2 1 : Nat), .int .u64 (lm V2 2 : Nat), .int .u64 (lm V2 3 : Nat)] 26)).alloc (.cells #[.bool n3, .int .u64 (lm V3 0 : Nat), .int .u64 (lm V3 1 : Nat), .int .u64 (lm V3 2 : Nat), .int .u64 (lm V3 3 : Nat)] 26)) := by (repeat first | with_reducible exact Below.refl _ _ | with_reducible assumption | with_reducible refine Below.drew ?_ | with_reducible refine below_alloc ?_ _ | ((with_reducible refine Below.setCell ?_ ?_ _); rotate_left; (focus (first | with_reducible exact Nat.le_refl _ | (simp; done) | (simp; omega) | omega))) | (with_reducible refine below_trans ?_ (by assumption)))
  generalize ((w.alloc (.cells #[.bool n1, .int .u64 (lm V1 0 : Nat), .int .u64 (lm V1 1 : Nat), .int .u64 (lm V1 2 : Nat), .int .u64 (lm V1 3 : Nat)] 26)).alloc (.cells #[.bool n2, .int .u64 (lm V2 0 : Nat), .int .u64 (lm V2 1 : Nat), .int .u64 (lm V2 2 : Nat), .int .u64 (lm V2 3 : Nat)] 26)).alloc (.cells #[.bool n3, .int .u64 (lm V3 0 : Nat), .int .u64 (lm V3 1 : Nat), .int .u64 (lm V3 2 : Nat), .int .u64 (lm V3 3 : Nat)] 26) = w0 at *
  obtain ⟨_, _, _, _, _⟩ := a0.out.all
  go_upto_region 3 with (first | (go_at_call 18; with_reducible refine (C.out.c1 _).mono ?_; rintro e w1 ⟨rfl, hb1⟩; (first | have Ta1 := Lib.hid (a0.out.below hb1) | have Ta1 := Lib.hid (a0.out.step hb1) | have Ta1 := Lib.hid (a0.out.step2 hb1)); (first | have b1 := Lib.hid (b0.out.below hb1) | have b1 := Lib.hid (b0.out.step hb1) | have b1 := Lib.hid (b0.out.step2 hb1)); obtain ⟨_, _, _, _, _⟩ := b1.out.all; (first | have Tc1 := Lib.hid (c0.out.below hb1) | have Tc1 := Lib.hid (c0.out.step hb1) | have Tc1 := Lib.hid (c0.out.step2 hb1)); (first | have T2 := Lib.hid (T1.out.below hb1) | have T2 := Lib.hid (T1.out.step hb1) | have T2 := Lib.hid (T1.out.step2 hb1))) | (go_at_call 18; with_reducible refine (C.out.c2 _).mono ?_; rintro e w2 ⟨rfl, hb2⟩; (first | have Ta2 := Lib.hid (Ta1.out.below hb2) | have Ta2 := Lib.hid (Ta1.out.step hb2) | have Ta2 := Lib.hid (Ta1.out.step2 hb2)); (first | have Tb2 := Lib.hid (b1.out.below hb2) | have Tb2 := Lib.hid (b1.out.step hb2) | have Tb2 := Lib.hid (b1.out.step2 hb2)); (first | have c2 := Lib.hid (Tc1.out.below hb2) | have c2 := Lib.hid (Tc1.out.step hb2) | have c2 := Lib.hid (Tc1.out.step2 hb2)); obtain ⟨_, _, _, _, _⟩ := c2.out.all; (first | have T3 := Lib.hid (T2.out.below hb2) | have T3 := Lib.hid (T2.out.step hb2) | have T3 := Lib.hid (T2.out.step2 hb2))) | (go_at_call 18; with_reducible refine (C.out.c3 _).mono ?_; rintro e w3 ⟨rfl, hb3⟩; (first | have Ta3 := Lib.hid (Ta2.out.below hb3) | have Ta3 := Lib.hid (Ta2.out.step hb3) | have Ta3 := Lib.hid (Ta2.out.step2 hb3)); (first | have Tb3 := Lib.hid (Tb2.out.below hb3) | have Tb3 := Lib.hid (Tb2.out.step hb3) | have Tb3 := Lib.hid (Tb2.out.step2 hb3)); (first | have Tc3 := Lib.hid (c2.out.below hb3) | have Tc3 := Lib.hid (c2.out.step hb3) | have Tc3 := Lib.hid (c2.out.step2 hb3)); (first | have T4 := Lib.hid (T3.out.below hb3) | have T4 := Lib.hid (T3.out.step hb3) | have T4 := Lib.hid (T3.out.step2 hb3))))
  have a3 := Ta3
  have b3 := Tb3
  have c3 := Tc3
  have hW3 : Below w.heap.size w w3 := by (repeat first | with_reducible exact Below.refl _ _ | with_reducible assumption | with_reducible refine Below.drew ?_ | with_reducible refine below_alloc ?_ _ | ((with_reducible refine Below.setCell ?_ ?_ _); rotate_left; (focus (first | with_reducible exact Nat.le_refl _ | (simp; done) | (simp; omega) | omega))) | (with_reducible refine below_trans ?_ (by assumption)))
  clear a0 Ta1 Ta2 Ta3 b0 b1 Tb2 Tb3 c0 Tc1 c2 Tc3 T1 T2 T3 hb1 hb2 hb3 hW
  (obtain ⟨C_, hC⟩ : ∃ C : World → Prop, C = fun w' => Below (w3).heap.size (w3) w' := ⟨_, rfl⟩; have HC := Lib.hid hC; have hne : ∀ p : Prop, (∀ w1 : World, C_ w1 → p) = p := fun p => propext ⟨fun h => h (w3) (by rw [hC]; exact Below.refl _ _), fun h _ _ => h⟩; clear hC; refine wp_region_quiet_cls (C := C_) (by kernel_rfl) (by kernel_rfl) (by rw [HC.out]; exact (Below.refl _ _).drew) ?_)
  (go_big_quiet_want; refine ⟨.agg #[.bool (n1 ), .int .u64 (lm ( V1) 0 : Nat), .int .u64 (lm ( V1) 1 : Nat), .int .u64 (lm ( V1) 2 : Nat), .int .u64 (lm ( V1) 3 : Nat)], fun w1 hw1 => ?_, ?_⟩; (rw [HC.out] at hw1; obtain ⟨_, _, _, _, _⟩ := (a3.out.below hw1).all; simp [Oper.quietAt, go_sem, *]); (try simp only [Act.put, List.setIfInBounds_toArray, List.set_cons_zero, List.set_cons_succ]); go_big_quiet_on)
  (go_big_quiet_want; refine ⟨.agg #[.bool (n2 ), .int .u64 (lm ( V2) 0 : Nat), .int .u64 (lm ( V2) 1 : Nat), .int .u64 (lm ( V2) 2 : Nat), .int .u64 (lm ( V2) 3 : Nat)], fun w1 hw1 => ?_, ?_⟩; (rw [HC.out] at hw1; obtain ⟨_, _, _, _, _⟩ := (b3.out.below hw1).all; simp [Oper.quietAt, go_sem, *]); (try simp only [Act.put, List.setIfInBounds_toArray, List.set_cons_zero, List.set_cons_succ]); go_big_quiet_on)
  (go_big_quiet_want; go_big_quiet_op; refine ⟨.int .i64 x, fun w1 hw1 => ?_, ?_⟩; (rw [HC.out] at hw1 ⊢; with_reducible refine (C.out.c4 _).mono ?_; rintro e w4 ⟨rfl, hb4⟩; exact ⟨rfl, below_trans hw1 hb4⟩); go_big_quiet_on)
  (go_big_quiet_want; refine ⟨.agg #[.bool (n2 ), .int .u64 (lm ( V2) 0 : Nat), .int .u64 (lm ( V2) 1 : Nat), .int .u64 (lm ( V2) 2 : Nat), .int .u64 (lm ( V2) 3 : Nat)], fun w1 hw1 => ?_, ?_⟩; (rw [HC.out] at hw1; obtain ⟨_, _, _, _, _⟩ := (b3.out.below hw1).all; simp [Oper.quietAt, go_sem, *]); (try simp only [Act.put, List.setIfInBounds_toArray, List.set_cons_zero, List.set_cons_succ]); go_big_quiet_on)
  (go_big_quiet_want; refine ⟨.agg #[.bool (n3 ), .int .u64 (lm ( V3) 0 : Nat), .int .u64 (lm ( V3) 1 : Nat), .int .u64 (lm ( V3) 2 : Nat), .int .u64 (lm ( V3) 3 : Nat)], fun w1 hw1 => ?_, ?_⟩; (rw [HC.out] at hw1; obtain ⟨_, _, _, _, _⟩ := (c3.out.below hw1).all; simp [Oper.quietAt, go_sem, *]); (try simp only [Act.put, List.setIfInBounds_toArray, List.set_cons_zero, List.set_cons_succ]); go_big_quiet_on)
  (go_big_quiet_want; go_big_quiet_op; refine ⟨.int .i64 y, fun w1 hw1 => ?_, ?_⟩; (rw [HC.out] at hw1 ⊢; with_reducible refine (C.out.c5 _).mono ?_; rintro e w4 ⟨rfl, hb4⟩; exact ⟨rfl, below_trans hw1 hb4⟩); go_big_quiet_on)
  (go_big_quiet_want; refine ⟨.agg #[.bool (n1 ), .int .u64 (lm ( V1) 0 : Nat), .int .u64 (lm ( V1) 1 : Nat), .int .u64 (lm ( V1) 2 : Nat), .int .u64 (lm ( V1) 3 : Nat)], fun w1 hw1 => ?_, ?_⟩; (rw [HC.out] at hw1; obtain ⟨_, _, _, _, _⟩ := (a3.out.below hw1).all; simp [Oper.quietAt, go_sem, *]); (try simp only [Act.put, List.setIfInBounds_toArray, List.set_cons_zero, List.set_cons_succ]); go_big_quiet_on)
  (go_big_quiet_want; refine ⟨.agg #[.bool (n3 ), .int .u64 (lm ( V3) 0 : Nat), .int .u64 (lm ( V3) 1 : Nat), .int .u64 (lm ( V3) 2 : Nat), .int .u64 (lm ( V3) 3 : Nat)], fun w1 hw1 => ?_, ?_⟩; (rw [HC.out] at hw1; obtain ⟨_, _, _, _, _⟩ := (c3.out.below hw1).all; simp [Oper.quietAt, go_sem, *]); (try simp only [Act.put, List.setIfInBounds_toArray, List.set_cons_zero, List.set_cons_succ]); go_big_quiet_on)
  (go_big_quiet_want; go_big_quiet_op; refine ⟨.int .i64 z, fun w1 hw1 => ?_, ?_⟩; (rw [HC.out] at hw1 ⊢; with_reducible refine (C.out.c6 _).mono ?_; rintro e w4 ⟨rfl, hb4⟩; exact ⟨rfl, below_trans hw1 hb4⟩); go_big_quiet_on)
  (go_big_quiet_want; go_big_quiet_op; go_big_quiet_on)
  (go_big_quiet_want; go_big_quiet_op; go_big_quiet_on)
  (go_big_quiet_want; go_big_quiet_op; go_big_quiet_on)
  (refine wpQuiet_nil ?_; intro w2 hw2; rw [HC.out] at hw2)
  have a4 := Lib.hid (a3.out.below hw2)
  have b4 := Lib.hid (b3.out.below hw2)
  have T5 := Lib.hid (T4.out.below hw2)
  have hW4 := below_trans hW3 hw2
  have hl4 := c3.out.l
  have hs2 := hw2.size
  clear a3 b3 c3 T4 HC hne hw2 hW3
  go_upto_region 4 with fail
  go_cut [72] (fun s wx => s = .bool false ∧ Below w2.heap.size w2 wx)
  case first =>
    obtain ⟨_, _, _, _, _⟩ := a4.out.all
    obtain ⟨_, _, _, _, _⟩ := b4.out.all
    obtain ⟨hxx, hy, hz, ht1, ht2⟩ := hx.out
    rcases hxx with ⟨rfl, rfl, rfl, rfl⟩ | ⟨rfl, rfl, rfl, hfe⟩ | ⟨rfl, rfl, rfl, rfl⟩ | ⟨rfl, rfl, rfl, rfl⟩ | ⟨rfl, rfl, rfl, hfe⟩ <;> rcases hy with rfl | rfl | rfl <;> rcases hz with rfl | rfl | rfl
    all_goals try (exfalso; omega)
    all_goals (clear ht1 ht2; (repeat any_goals (first | (go_at_call 19; with_reducible refine (C.out.c7 _).mono ?_; rintro e w5 ⟨rfl, hb5⟩; (first | have T6 := Lib.hid (T5.out.below hb5) | have T6 := Lib.hid (T5.out.step hb5) | have T6 := Lib.hid (T5.out.step2 hb5))) | go_skip | go_guarded | go_step | go_upon | (dsimp only []))); go_meet; exact ⟨rfl, by (repeat first | with_reducible exact Below.refl _ _ | with_reducible assumption | with_reducible refine Below.drew ?_ | with_reducible refine below_alloc ?_ _ | ((with_reducible refine Below.setCell ?_ ?_ _); rotate_left; (focus (first | with_reducible exact Nat.le_refl _ | (simp; done) | (simp; omega) | omega))) | (with_reducible refine below_trans ?_ (by assumption)))⟩)
  case rest =>
    obtain ⟨rfl, hb6⟩ := hcut
    have a6 := Lib.hid (a4.out.below hb6)
    have b6 := Lib.hid (b4.out.below hb6)
    have T7 := Lib.hid (T5.out.below hb6)
    have hW6 := below_trans hW4 hb6
    have hs6 := hb6.size
    clear a4 b4 T5 hb6 hW4
    obtain ⟨_, _, _, _, _⟩ := a6.out.all
    obtain ⟨_, _, _, _, _⟩ := b6.out.all
    go_upto_region 6 with fail
    go_cut [10, 11] (fun s t wx => ∃ k l : Nat, s = .pointer (some ⟨k, 0, none⟩) ∧ t = .pointer (some ⟨l, 0, none⟩) ∧ k ≠ l ∧ wc.heap.size ≤ k ∧ wc.heap.size ≤ l ∧ IBoxF wx k n1 V1 ∧ IBoxF wx l n2 V2 ∧ Below wc.heap.size wc wx)
    case first =>
      go_region
      all_goals ((repeat any_goals (first | go_skip | go_guarded | go_step | go_upon | (simp only []; done))); go_meet; first | exact ⟨_, _, rfl, rfl, by omega, by omega, by omega, iboxF_new1.drew, (iboxF_new.alloc _).drew, by (repeat first | with_reducible exact Below.refl _ _ | with_reducible assumption | with_reducible refine Below.drew ?_ | with_reducible refine below_alloc ?_ _ | ((with_reducible refine Below.setCell ?_ ?_ _); rotate_left; (focus (first | with_reducible exact Nat.le_refl _ | (simp; done) | (simp; omega) | omega))) | (with_reducible refine below_trans ?_ (by assumption)))⟩ | exact ⟨_, _, rfl, rfl, by omega, by omega, by omega, (iboxF_new.alloc _).drew, iboxF_new1.drew, by (repeat first | with_reducible exact Below.refl _ _ | with_reducible assumption | with_reducible refine Below.drew ?_ | with_reducible refine below_alloc ?_ _ | ((with_reducible refine Below.setCell ?_ ?_ _); rotate_left; (focus (first | with_reducible exact Nat.le_refl _ | (simp; done) | (simp; omega) | omega))) | (with_reducible refine below_trans ?_ (by assumption)))⟩)
    case rest =>
      obtain ⟨k, l, rfl, rfl, hkl, hk, hl, K8, L8, hb8⟩ := hcut
      have a8 := Lib.hid (a6.out.below hb8)
      have b8 := Lib.hid (b6.out.below hb8)
      have T8 := Lib.hid (T7.out.below hb8)
      have hW8 := below_trans hW6 hb8
      clear a6 b6 T7 hb8 hW6
      obtain ⟨_, _, _, _, _⟩ := a8.out.all
      obtain ⟨_, _, _, _, _⟩ := b8.out.all
      obtain ⟨_, _, _, _, _⟩ := K8.all
      obtain ⟨_, _, _, _, _⟩ := L8.all
      obtain ⟨hp1, hp2⟩ := hp.out
      have m1 : ¬ k = l := hkl
      have m2 : ¬ l = k := fun h => hkl h.symm
      have m3 : ¬ k = w.heap.size := by omega
      have m4 : ¬ w.heap.size = k := by omega
      have m5 : ¬ l = w.heap.size := by omega
      have m6 : ¬ w.heap.size = l := by omega
      have m7 : ¬ k = w.heap.size + 1 := by omega
      have m8 : ¬ w.heap.size + 1 = k := by omega
      have m9 : ¬ l = w.heap.size + 1 := by omega
      have m0 : ¬ w.heap.size + 1 = l := by omega
      rcases hp1 with ⟨rfl, rfl⟩ | ⟨rfl, hp1⟩ <;> rcases hp2 with ⟨rfl, rfl⟩ | ⟨rfl, hp2⟩
      · repeat any_goals (first | go_skip | go_guarded | go_step | go_upon | (simp only []; done))
        go_region
        have K9 := Lib.hid (((K8.b.set0 (m := false)).far (k := l) (i := 0) (v := .bool false) m1).drew)
        have L9 := Lib.hid (((L8.b.far (k := k) (i := 0) (v := .bool false) m2).set0 (m := false)).drew)
        have hW9 : Below w.heap.size w ((wc.setCell ⟨k, 0, none⟩ (.bool false)).setCell ⟨l, 0, none⟩ (.bool false)).drew := by (repeat first | with_reducible exact Below.refl _ _ | with_reducible assumption | with_reducible refine Below.drew ?_ | with_reducible refine below_alloc ?_ _ | ((with_reducible refine Below.setCell ?_ ?_ _); rotate_left; (focus (first | with_reducible exact Nat.le_refl _ | (simp; done) | (simp; omega) | omega))) | (with_reducible refine below_trans ?_ (by assumption)))
        generalize ((wc.setCell ⟨k, 0, none⟩ (.bool false)).setCell ⟨l, 0, none⟩ (.bool false)).drew = w9 at *
        have T9 := Lib.hid (T0.out.below hW9)
        clear K8 L8 a8 b8 T8 hW8
        obtain ⟨_, _, _, _, _⟩ := K9.out.all
        obtain ⟨_, _, _, _, _⟩ := L9.out.all
        repeat any_goals (first | (go_at_call 11; with_reducible refine (told_any _ T9.out).mono ?_; rintro e wa ⟨rfl, hba⟩; (first | have Ka := Lib.hid (K9.out.below hba) | have Ka := Lib.hid (K9.out.step hba) | have Ka := Lib.hid (K9.out.step2 hba)); obtain ⟨_, _, _, _, _⟩ := Ka.out.all; (first | have La := Lib.hid (L9.out.below hba) | have La := Lib.hid (L9.out.step hba) | have La := Lib.hid (L9.out.step2 hba)); obtain ⟨_, _, _, _, _⟩ := La.out.all) | (go_at_call 19; with_reducible refine (C.out.c8 _).mono ?_; rintro e wb ⟨rfl, hbb⟩; (first | have Kb := Lib.hid (Ka.out.below hbb) | have Kb := Lib.hid (Ka.out.step hbb) | have Kb := Lib.hid (Ka.out.step2 hbb)); obtain ⟨_, _, _, _, _⟩ := Kb.out.all) | go_skip | go_guarded | go_step | go_upon | (dsimp only []))
        go_ret
        exact ⟨by simp, by (repeat first | with_reducible exact Below.refl _ _ | with_reducible assumption | with_reducible refine Below.drew ?_ | with_reducible refine below_alloc ?_ _ | ((with_reducible refine Below.setCell ?_ ?_ _); rotate_left; (focus (first | with_reducible exact Nat.le_refl _ | (simp; done) | (simp; omega) | omega))) | (with_reducible refine below_trans ?_ (by assumption)))⟩
      · repeat any_goals (first | go_skip | go_guarded | go_step | go_upon | (simp only []; done))
        go_region
        have K9 := Lib.hid (((K8.b.set0 (m := false)).far (k := l) (i := 0) (v := .bool q) m1).drew)
        have L9 := Lib.hid (((L8.b.far (k := k) (i := 0) (v := .bool false) m2).set0 (m := q)).drew)
        have hW9 : Below w.heap.size w ((wc.setCell ⟨k, 0, none⟩ (.bool false)).setCell ⟨l, 0, none⟩ (.bool q)).drew := by (repeat first | with_reducible exact Below.refl _ _ | with_reducible assumption | with_reducible refine Below.drew ?_ | with_reducible refine below_alloc ?_ _ | ((with_reducible refine Below.setCell ?_ ?_ _); rotate_left; (focus (first | with_reducible exact Nat.le_refl _ | (simp; done) | (simp; omega) | omega))) | (with_reducible refine below_trans ?_ (by assumption)))
        generalize ((wc.setCell ⟨k, 0, none⟩ (.bool false)).setCell ⟨l, 0, none⟩ (.bool q)).drew = w9 at *
        have T9 := Lib.hid (T0.out.below hW9)
        clear K8 L8 a8 b8 T8 hW8
        obtain ⟨_, _, _, _, _⟩ := K9.out.all
        obtain ⟨_, _, _, _, _⟩ := L9.out.all
        repeat any_goals (first | (go_at_call 11; with_reducible refine (told_any _ T9.out).mono ?_; rintro e wa ⟨rfl, hba⟩; (first | have Ka := Lib.hid (K9.out.below hba) | have Ka := Lib.hid (K9.out.step hba) | have Ka := Lib.hid (K9.out.step2 hba)); obtain ⟨_, _, _, _, _⟩ := Ka.out.all; (first | have La := Lib.hid (L9.out.below hba) | have La := Lib.hid (L9.out.step hba) | have La := Lib.hid (L9.out.step2 hba)); obtain ⟨_, _, _, _, _⟩ := La.out.all) | (go_at_call 19; with_reducible refine (C.out.c8 _).mono ?_; rintro e wb ⟨rfl, hbb⟩; (first | have Kb := Lib.hid (Ka.out.below hbb) | have Kb := Lib.hid (Ka.out.step hbb) | have Kb := Lib.hid (Ka.out.step2 hbb)); obtain ⟨_, _, _, _, _⟩ := Kb.out.all) | go_skip | go_guarded | go_step | go_upon | (dsimp only []))
        go_ret
        exact ⟨by simp, by (repeat first | with_reducible exact Below.refl _ _ | with_reducible assumption | with_reducible refine Below.drew ?_ | with_reducible refine below_alloc ?_ _ | ((with_reducible refine Below.setCell ?_ ?_ _); rotate_left; (focus (first | with_reducible exact Nat.le_refl _ | (simp; done) | (simp; omega) | omega))) | (with_reducible refine below_trans ?_ (by assumption)))⟩
      · repeat any_goals (first | go_skip | go_guarded | go_step | go_upon | (simp only []; done))
        go_region
        have K9 := Lib.hid (((K8.b.set0 (m := p)).far (k := l) (i := 0) (v := .bool false) m1).drew)
        have L9 := Lib.hid (((L8.b.far (k := k) (i := 0) (v := .bool p) m2).set0 (m := false)).drew)
        have hW9 : Below w.heap.size w ((wc.setCell ⟨k, 0, none⟩ (.bool p)).setCell ⟨l, 0, none⟩ (.bool false)).drew := by (repeat first | with_reducible exact Below.refl _ _ | with_reducible assumption | with_reducible refine Below.drew ?_ | with_reducible refine below_alloc ?_ _ | ((with_reducible refine Below.setCell ?_ ?_ _); rotate_left; (focus (first | with_reducible exact Nat.le_refl _ | (simp; done) | (simp; omega) | omega))) | (with_reducible refine below_trans ?_ (by assumption)))
        generalize ((wc.setCell ⟨k, 0, none⟩ (.bool p)).setCell ⟨l, 0, none⟩ (.bool false)).drew = w9 at *
        have T9 := Lib.hid (T0.out.below hW9)
        clear K8 L8 a8 b8 T8 hW8
        obtain ⟨_, _, _, _, _⟩ := K9.out.all
        obtain ⟨_, _, _, _, _⟩ := L9.out.all
        repeat any_goals (first | (go_at_call 11; with_reducible refine (told_any _ T9.out).mono ?_; rintro e wa ⟨rfl, hba⟩; (first | have Ka := Lib.hid (K9.out.below hba) | have Ka := Lib.hid (K9.out.step hba) | have Ka := Lib.hid (K9.out.step2 hba)); obtain ⟨_, _, _, _, _⟩ := Ka.out.all; (first | have La := Lib.hid (L9.out.below hba) | have La := Lib.hid (L9.out.step hba) | have La := Lib.hid (L9.out.step2 hba)); obtain ⟨_, _, _, _, _⟩ := La.out.all) | (go_at_call 19; with_reducible refine (C.out.c8 _).mono ?_; rintro e wb ⟨rfl, hbb⟩; (first | have Kb := Lib.hid (Ka.out.below hbb) | have Kb := Lib.hid (Ka.out.step hbb) | have Kb := Lib.hid (Ka.out.step2 hbb)); obtain ⟨_, _, _, _, _⟩ := Kb.out.all) | go_skip | go_guarded | go_step | go_upon | (dsimp only []))
        go_ret
        exact ⟨by simp, by (repeat first | with_reducible exact Below.refl _ _ | with_reducible assumption | with_reducible refine Below.drew ?_ | with_reducible refine below_alloc ?_ _ | ((with_reducible refine Below.setCell ?_ ?_ _); rotate_left; (focus (first | with_reducible exact Nat.le_refl _ | (simp; done) | (simp; omega) | omega))) | (with_reducible refine below_trans ?_ (by assumption)))⟩
      · repeat any_goals (first | go_skip | go_guarded | go_step | go_upon | (simp only []; done))
        go_region
        have K9 := Lib.hid (((K8.b.set0 (m := p)).far (k := l) (i := 0) (v := .bool q) m1).drew)
        have L9 := Lib.hid (((L8.b.far (k := k) (i := 0) (v := .bool p) m2).set0 (m := q)).drew)
        have hW9 : Below w.heap.size w ((wc.setCell ⟨k, 0, none⟩ (.bool p)).setCell ⟨l, 0, none⟩ (.bool q)).drew := by (repeat first | with_reducible exact Below.refl _ _ | with_reducible assumption | with_reducible refine Below.drew ?_ | with_reducible refine below_alloc ?_ _ | ((with_reducible refine Below.setCell ?_ ?_ _); rotate_left; (focus (first | with_reducible exact Nat.le_refl _ | (simp; done) | (simp; omega) | omega))) | (with_reducible refine below_trans ?_ (by assumption)))
        generalize ((wc.setCell ⟨k, 0, none⟩ (.bool p)).setCell ⟨l, 0, none⟩ (.bool q)).drew = w9 at *
        have T9 := Lib.hid (T0.out.below hW9)
        clear K8 L8 a8 b8 T8 hW8
        obtain ⟨_, _, _, _, _⟩ := K9.out.all
        obtain ⟨_, _, _, _, _⟩ := L9.out.all
        repeat any_goals (first | (go_at_call 11; with_reducible refine (told_any _ T9.out).mono ?_; rintro e wa ⟨rfl, hba⟩; (first | have Ka := Lib.hid (K9.out.below hba) | have Ka := Lib.hid (K9.out.step hba) | have Ka := Lib.hid (K9.out.step2 hba)); obtain ⟨_, _, _, _, _⟩ := Ka.out.all; (first | have La := Lib.hid (L9.out.below hba) | have La := Lib.hid (L9.out.step hba) | have La := Lib.hid (L9.out.step2 hba)); obtain ⟨_, _, _, _, _⟩ := La.out.all) | (go_at_call 19; with_reducible refine (C.out.c8 _).mono ?_; rintro e wb ⟨rfl, hbb⟩; (first | have Kb := Lib.hid (Ka.out.below hbb) | have Kb := Lib.hid (Ka.out.step hbb) | have Kb := Lib.hid (Ka.out.step2 hbb)); obtain ⟨_, _, _, _, _⟩ := Kb.out.all) | go_skip | go_guarded | go_step | go_upon | (dsimp only []))
        go_ret
        exact ⟨by simp, by (repeat first | with_reducible exact Below.refl _ _ | with_reducible assumption | with_reducible refine Below.drew ?_ | with_reducible refine below_alloc ?_ _ | ((with_reducible refine Below.setCell ?_ ?_ _); rotate_left; (focus (first | with_reducible exact Nat.le_refl _ | (simp; done) | (simp; omega) | omega))) | (with_reducible refine below_trans ?_ (by assumption)))⟩
/-- **WholeChain.** -/
theorem Chain_any (n1 : Bool) (V1 : Nat) (n2 : Bool) (V2 : Nat) (n3 : Bool) (V3 : Nat) (h1 : V1 < 2 ^ 256) (h2 : V2 < 2 ^ 256) (h3 : V3 < 2 ^ 256) (w : World) (hT : Tabs w) :
    Calls Tryd.prog 5 #[.agg #[.bool (n1 ), .int .u64 (lm ( V1) 0 : Nat), .int .u64 (lm ( V1) 1 : Nat), .int .u64 (lm ( V1) 2 : Nat), .int .u64 (lm ( V1) 3 : Nat)], .agg #[.bool (n2 ), .int .u64 (lm ( V2) 0 : Nat), .int .u64 (lm ( V2) 1 : Nat), .int .u64 (lm ( V2) 2 : Nat), .int .u64 (lm ( V2) 3 : Nat)], .agg #[.bool (n3 ), .int .u64 (lm ( V3) 0 : Nat), .int .u64 (lm ( V3) 1 : Nat), .int .u64 (lm ( V3) 2 : Nat), .int .u64 (lm ( V3) 3 : Nat)]] w fun e w' => e = .returned (.bool true) ∧ Below w.heap.size w w' := by
  by_cases hm : mayI n1 V1 = true ∧ mayI n2 V2 = true ∧ mayI n3 V3 = true
  · obtain ⟨m1, m2, m3⟩ := hm
    have e1 : ∀ a b : Int, -cmpZ a b = cmpZ b a := fun a b => by
      unfold cmpZ
      split <;> split <;> omega
    have hc : ∀ (n : Bool) (V : Nat) (m : Bool) (U : Nat), mayI n V = true → mayI m U = true → cmpI n V m U = cmpZ (zI n V) (zI m U) := fun n V m U a b => by
      unfold cmpI
      rw [a, b]
      rfl
    have hneg : ∀ (n : Bool) (V : Nat), mayI n V = true → mayI (!n && V != 0) V = true ∧ zI (!n && V != 0) V = -zI n V := fun n V h => by
      cases n with
      | true =>
        exact ⟨may_false V, by rw [show (!true && V != 0) = false from rfl, zI_false, zI_true]; omega⟩
      | false =>
        by_cases c : V = 0
        · subst c
          exact ⟨rfl, rfl⟩
        · have e : (!false && V != 0) = true := by simpa using c
          rw [e]
          exact ⟨may_true.2 c, rfl⟩
    obtain ⟨p1, p2⟩ := hneg n1 V1 m1
    obtain ⟨q1, q2⟩ := hneg n2 V2 m2
    have c1 := May_any n1 V1 h1
    have c2 := May_any n2 V2 h2
    have c3 := May_any n3 V3 h3
    have c4 := Cmp_any n1 V1 h1 n2 V2 h2
    have c5 := Cmp_any n2 V2 h2 n3 V3 h3
    have c6 := Cmp_any n1 V1 h1 n3 V3 h3
    have c7 := Cmp_any n2 V2 h2 n1 V1 h1
    have c8 := Cmp_any (!n1 && V1 != 0) V1 h1 (!n2 && V2 != 0) V2 h2
    rw [m1] at c1
    rw [m2] at c2
    rw [m3] at c3
    rw [hc _ _ _ _ m1 m2] at c4
    rw [hc _ _ _ _ m2 m3] at c5
    rw [hc _ _ _ _ m1 m3] at c6
    rw [hc _ _ _ _ m2 m1] at c7
    have e8 : cmpZ (-zI n1 V1) (-zI n2 V2) = cmpZ (zI n2 V2) (zI n1 V1) := by
      unfold cmpZ
      split <;> split <;> (try split) <;> (try split) <;> omega
    rw [hc _ _ _ _ p1 q1, p2, q2, e8] at c8
    have hz1 := lm_nz h1
    have hz2 := lm_nz h2
    refine Chain_yes n1 V1 n2 V2 n3 V3 _ _ _ _ _ _ w hT (Lib.hid (ChC.mk c1 c2 c3 c4 c5 c6 c7 c8)) (Lib.hid ⟨?_, ?_, ?_, ?_, ?_⟩) (Lib.hid ⟨?_, ?_⟩) (e1 _ _) ?_
    · have hs := @lm_same V1 V2 h1 h2
      have hi := @zI_inj n1 n2 V1 V2 m1 m2
      rw [hs]
      by_cases a : zI n1 V1 < zI n2 V2
      · have x1 : cmpZ (zI n1 V1) (zI n2 V2) = -1 := if_pos a
        have x2 : cmpZ (zI n2 V2) (zI n1 V1) = 1 := by rw [← e1, x1]; rfl
        by_cases b : n1 = n2
        · refine .inr (.inl ⟨x1, x2, b, ?_⟩)
          rw [beq_eq_false_iff_ne]
          intro h
          rw [b, h] at a
          omega
        · cases n1 with
          | true =>
            cases n2 with
            | true => exact absurd rfl b
            | false => exact .inl ⟨x1, x2, rfl, rfl⟩
          | false =>
            cases n2 with
            | true =>
              rw [zI_false, zI_true] at a
              omega
            | false => exact absurd rfl b
      · by_cases c : zI n1 V1 = zI n2 V2
        · obtain ⟨rfl, rfl⟩ := hi c
          have x1 : cmpZ (zI n1 V1) (zI n1 V1) = 0 := by unfold cmpZ; rw [if_neg (by omega), if_pos rfl]
          exact .inr (.inr (.inl ⟨x1, x1, rfl, rfl⟩))
        · have x1 : cmpZ (zI n1 V1) (zI n2 V2) = 1 := by unfold cmpZ; rw [if_neg a, if_neg c]
          have x2 : cmpZ (zI n2 V2) (zI n1 V1) = -1 := by rw [← e1, x1]
          by_cases b : n1 = n2
          · refine .inr (.inr (.inr (.inr ⟨x1, x2, b, ?_⟩)))
            rw [beq_eq_false_iff_ne]
            intro h
            rw [b, h] at c
            exact c rfl
          · cases n1 with
            | true =>
              cases n2 with
              | true => exact absurd rfl b
              | false =>
                rw [zI_true, zI_false] at a c
                omega
            | false =>
              cases n2 with
              | true => exact .inr (.inr (.inr (.inl ⟨x1, x2, rfl, rfl⟩)))
              | false => exact absurd rfl b
    · unfold cmpZ
      split
      · exact .inl rfl
      · split
        · exact .inr (.inl rfl)
        · exact .inr (.inr rfl)
    · unfold cmpZ
      split
      · exact .inl rfl
      · split
        · exact .inr (.inl rfl)
        · exact .inr (.inr rfl)
    · unfold cmpZ
      split <;> split <;> split <;> (try split) <;> (try split) <;> (try split) <;> omega
    · unfold cmpZ
      split <;> split <;> split <;> (try split) <;> (try split) <;> (try split) <;> omega
    · rw [hz1]
      cases n1 with
      | true => exact .inl ⟨rfl, rfl⟩
      | false => exact .inr ⟨rfl, rfl⟩
    · rw [hz2]
      cases n2 with
      | true => exact .inl ⟨rfl, rfl⟩
      | false => exact .inr ⟨rfl, rfl⟩
    · unfold cmpZ
      split
      · simp [wrap64]
      · split <;> simp [wrap64]
  · refine Chain_no n1 V1 n2 V2 n3 V3 _ _ _ w hT (Lib.hid (ChM.mk (May_any n1 V1 h1) (May_any n2 V2 h2) (May_any n3 V3 h3))) ?_
    cases a : mayI n1 V1 with
    | false => exact .inl rfl
    | true =>
      cases b : mayI n2 V2 with
      | false => exact .inr (.inl ⟨rfl, rfl⟩)
      | true =>
        cases c : mayI n3 V3 with
        | false => exact .inr (.inr ⟨rfl, rfl, rfl⟩)
        | true => exact absurd ⟨a, b, c⟩ hm
end Go.Proofs.YtbakgmkkebnhkaaDoor
