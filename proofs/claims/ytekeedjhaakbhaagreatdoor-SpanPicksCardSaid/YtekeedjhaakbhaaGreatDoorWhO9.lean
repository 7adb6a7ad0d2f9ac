/- Contracts of package whole: Print, Parse. IBOX · Contracts of package whole: cut, exact, ExactUp, ExactDown. IBOX · Contracts of package whole: ExactUp, ExactDown, rough, RoughUp, RoughDown. IBOX -/
import Derived.Test.YtekeedjhaakbhaaGreatDoorWhN9
namespace Go.Proofs.YtekeedjhaakbhaaGreatDoor
open Go.RowKit
/-- the digits of a number -/
theorem ZB.alloc {B : Nat} {w1 : World} (h : ZB w1 B) (o : Obj) : ZB (w1.alloc o) B := h.below (below_alloc (Below.refl _ _) _)
theorem ZB.step {B : Nat} {w1 w2 : World} {o : Obj} (h : ZB w1 B) (hb : Below (w1.alloc o).heap.size (w1.alloc o) w2) : ZB w2 B := (h.alloc o).below hb
theorem ZI.step2 {B : Nat} {w1 w2 : World} {o o2 : Obj} (h : ZI w1 B) (hb : Below ((w1.alloc o).alloc o2).heap.size ((w1.alloc o).alloc o2) w2) : ZI w2 B := ((h.alloc o).alloc o2).below hb
theorem IBox.step2 {B V : Nat} {n : Bool} {w1 w2 : World} {o o2 : Obj} (h : IBox w1 B n V) (hb : Below ((w1.alloc o).alloc o2).heap.size ((w1.alloc o).alloc o2) w2) : IBox w2 B n V := ((h.alloc o).alloc o2).below hb
theorem Box.step2 {B V : Nat} {w1 w2 : World} {o o2 : Obj} (h : Box w1 B V) (hb : Below ((w1.alloc o).alloc o2).heap.size ((w1.alloc o).alloc o2) w2) : Box w2 B V := ((h.alloc o).alloc o2).below hb
structure CuC (V L A G l K : Nat) : Prop where
  c1 : ∀ w : World, Calls Tryz.prog 91 #[.agg #[.int .u64 (lm (V) 0 : Nat), .int .u64 (lm (V) 1 : Nat), .int .u64 (lm (V) 2 : Nat), .int .u64 (lm (V) 3 : Nat)]] w fun e w' => e = .returned (.int .i64 (l : Nat)) ∧ Below w.heap.size w w'
  c2 : ∀ w : World, Calls Tryz.prog 93 #[.agg #[.int .u64 (lm (V) 0 : Nat), .int .u64 (lm (V) 1 : Nat), .int .u64 (lm (V) 2 : Nat), .int .u64 (lm (V) 3 : Nat)], .int .i64 (K : Int)] w fun e w' => e = .returned (.agg #[.int .u64 (lm (A) 0 : Nat), .int .u64 (lm (A) 1 : Nat), .int .u64 (lm (A) 2 : Nat), .int .u64 (lm (A) 3 : Nat)]) ∧ Below w.heap.size w w'
  c3 : ∀ w : World, Calls Tryz.prog 92 #[.agg #[.int .u64 (lm (A) 0 : Nat), .int .u64 (lm (A) 1 : Nat), .int .u64 (lm (A) 2 : Nat), .int .u64 (lm (A) 3 : Nat)], .int .i64 (K : Int)] w fun e w' => e = .returned (.tuple #[.agg #[.int .u64 (lm (L) 0 : Nat), .int .u64 (lm (L) 1 : Nat), .int .u64 (lm (L) 2 : Nat), .int .u64 (lm (L) 3 : Nat)], .bool true]) ∧ Below w.heap.size w w'
  c4 : ∀ w : World, Calls Tryz.prog 79 #[.int .u64 1] w fun e w' => e = .returned (.agg #[.int .u64 1, .int .u64 0, .int .u64 0, .int .u64 0]) ∧ Below w.heap.size w w'
  c5 : ∀ w : World, Calls Tryz.prog 92 #[.agg #[.int .u64 1, .int .u64 0, .int .u64 0, .int .u64 0], .int .i64 (K : Int)] w fun e w' => e = .returned (.tuple #[.agg #[.int .u64 (lm (G) 0 : Nat), .int .u64 (lm (G) 1 : Nat), .int .u64 (lm (G) 2 : Nat), .int .u64 (lm (G) 3 : Nat)], .bool true]) ∧ Below w.heap.size w w'
set_option maxRecDepth 20000 in
set_option maxHeartbeats 1600000 in
theorem cut_walk (V L A G l K : Nat) (w : World) (C : Hid (CuC V L A G l K)) (_hl : (l : Int) ≤ 256) (hk : max ((l : Int) - 53) 0 = (K : Int)) :
    Calls Tryz.prog 75 #[.agg #[.int .u64 (lm (V) 0 : Nat), .int .u64 (lm (V) 1 : Nat), .int .u64 (lm (V) 2 : Nat), .int .u64 (lm (V) 3 : Nat)]] w fun e w' => e = .returned (.tuple #[.agg #[.int .u64 (lm (L) 0 : Nat), .int .u64 (lm (L) 1 : Nat), .int .u64 (lm (L) 2 : Nat), .int .u64 (lm (L) 3 : Nat)], .agg #[.int .u64 (lm (G) 0 : Nat), .int .u64 (lm (G) 1 : Nat), .int .u64 (lm (G) 2 : Nat), .int .u64 (lm (G) 3 : Nat)]]) ∧ Below w.heap.size w w' := by
  go_enter Tryz.func75, Tryz.ntmps75
  go_upto_region 1 with fail
  have X0 : Box (((w.alloc (.cells #[.int .u64 (lm V 0 : Nat), .int .u64 (lm V 1 : Nat), .int .u64 (lm V 2 : Nat), .int .u64 (lm V 3 : Nat)] 27)).alloc (.cells #[.int .u64 0, .int .u64 0, .int .u64 0, .int .u64 0] 27)).alloc (.cells #[.int .u64 0, .int .u64 0, .int .u64 0, .int .u64 0] 27)) w.heap.size V := (box_new.alloc _).alloc _
  have Y0 : ZB (((w.alloc (.cells #[.int .u64 (lm V 0 : Nat), .int .u64 (lm V 1 : Nat), .int .u64 (lm V 2 : Nat), .int .u64 (lm V 3 : Nat)] 27)).alloc (.cells #[.int .u64 0, .int .u64 0, .int .u64 0, .int .u64 0] 27)).alloc (.cells #[.int .u64 0, .int .u64 0, .int .u64 0, .int .u64 0] 27)) (w.heap.size + 1) := by
    have h := @zb_new (w.alloc (.cells #[.int .u64 (lm V 0 : Nat), .int .u64 (lm V 1 : Nat), .int .u64 (lm V 2 : Nat), .int .u64 (lm V 3 : Nat)] 27)) 27
    have h2 := h.below (below_alloc (Below.refl _ _) (.cells #[.int .u64 0, .int .u64 0, .int .u64 0, .int .u64 0] 27))
    simpa using h2
  have Z0 : ZB (((w.alloc (.cells #[.int .u64 (lm V 0 : Nat), .int .u64 (lm V 1 : Nat), .int .u64 (lm V 2 : Nat), .int .u64 (lm V 3 : Nat)] 27)).alloc (.cells #[.int .u64 0, .int .u64 0, .int .u64 0, .int .u64 0] 27)).alloc (.cells #[.int .u64 0, .int .u64 0, .int .u64 0, .int .u64 0] 27)) (w.heap.size + 1 + 1) := by
    have h := @zb_new ((w.alloc (.cells #[.int .u64 (lm V 0 : Nat), .int .u64 (lm V 1 : Nat), .int .u64 (lm V 2 : Nat), .int .u64 (lm V 3 : Nat)] 27)).alloc (.cells #[.int .u64 0, .int .u64 0, .int .u64 0, .int .u64 0] 27)) 27
    simpa using h
  have hW : Below w.heap.size w (((w.alloc (.cells #[.int .u64 (lm V 0 : Nat), .int .u64 (lm V 1 : Nat), .int .u64 (lm V 2 : Nat), .int .u64 (lm V 3 : Nat)] 27)).alloc (.cells #[.int .u64 0, .int .u64 0, .int .u64 0, .int .u64 0] 27)).alloc (.cells #[.int .u64 0, .int .u64 0, .int .u64 0, .int .u64 0] 27)) := by (repeat first | with_reducible exact Below.refl _ _ | with_reducible assumption | with_reducible refine Below.drew ?_ | with_reducible refine below_alloc ?_ _ | ((with_reducible refine Below.setCell ?_ ?_ _); rotate_left; (focus (first | with_reducible exact Nat.le_refl _ | (simp; done) | (simp; omega) | omega))) | (with_reducible refine below_trans ?_ (by assumption)))
  generalize ((w.alloc (.cells #[.int .u64 (lm V 0 : Nat), .int .u64 (lm V 1 : Nat), .int .u64 (lm V 2 : Nat), .int .u64 (lm V 3 : Nat)] 27)).alloc (.cells #[.int .u64 0, .int .u64 0, .int .u64 0, .int .u64 0] 27)).alloc (.cells #[.int .u64 0, .int .u64 0, .int .u64 0, .int .u64 0] 27) = w0 at *
  have X1 := Lib.hid X0
  have TY1 := Lib.hid Y0
  have TZ1 := Lib.hid Z0
  clear X0 Y0 Z0
  obtain ⟨_, _, _, _, _⟩ := X1.out.all
  go_upto_region 4 with (first | (go_at_call 91; with_reducible refine (C.out.c1 _).mono ?_; rintro e w1 ⟨rfl, hb1⟩; (first | have X2 := Lib.hid (X1.out.below hb1) | have X2 := Lib.hid (X1.out.step hb1) | have X2 := Lib.hid (X1.out.step2 hb1)); obtain ⟨_, _, _, _, _⟩ := X2.out.all; (first | have TY2 := Lib.hid (TY1.out.below hb1) | have TY2 := Lib.hid (TY1.out.step hb1) | have TY2 := Lib.hid (TY1.out.step2 hb1)); (first | have TZ2 := Lib.hid (TZ1.out.below hb1) | have TZ2 := Lib.hid (TZ1.out.step hb1) | have TZ2 := Lib.hid (TZ1.out.step2 hb1))) | (go_at_call 93; with_reducible refine (C.out.c2 _).mono ?_; rintro e w2 ⟨rfl, hb2⟩; (first | have X3 := Lib.hid (X2.out.below hb2) | have X3 := Lib.hid (X2.out.step hb2) | have X3 := Lib.hid (X2.out.step2 hb2)); obtain ⟨_, _, _, _, _⟩ := X3.out.all; (first | have TY3 := Lib.hid (TY2.out.below hb2) | have TY3 := Lib.hid (TY2.out.step hb2) | have TY3 := Lib.hid (TY2.out.step2 hb2)); (first | have TZ3 := Lib.hid (TZ2.out.below hb2) | have TZ3 := Lib.hid (TZ2.out.step hb2) | have TZ3 := Lib.hid (TZ2.out.step2 hb2))) | (go_at_call 92; with_reducible refine (C.out.c3 _).mono ?_; rintro e w3 ⟨rfl, hb3⟩; (first | have X4 := Lib.hid (X3.out.below hb3) | have X4 := Lib.hid (X3.out.step hb3) | have X4 := Lib.hid (X3.out.step2 hb3)); obtain ⟨_, _, _, _, _⟩ := X4.out.all; (first | have TY4 := Lib.hid (TY3.out.below hb3) | have TY4 := Lib.hid (TY3.out.step hb3) | have TY4 := Lib.hid (TY3.out.step2 hb3)); (first | have TZ4 := Lib.hid (TZ3.out.below hb3) | have TZ4 := Lib.hid (TZ3.out.step hb3) | have TZ4 := Lib.hid (TZ3.out.step2 hb3))) | (go_at_call 79; with_reducible refine (C.out.c4 _).mono ?_; rintro e w4 ⟨rfl, hb4⟩; (first | have L5 := Lib.hid (box_hb hb4) | have L5 := Lib.hid (ibox_hb hb4)); obtain ⟨_, _, _, _, _⟩ := L5.out.all; (first | have X5 := Lib.hid (X4.out.below hb4) | have X5 := Lib.hid (X4.out.step hb4) | have X5 := Lib.hid (X4.out.step2 hb4)); obtain ⟨_, _, _, _, _⟩ := X5.out.all; (first | have TY5 := Lib.hid (TY4.out.below hb4) | have TY5 := Lib.hid (TY4.out.step hb4) | have TY5 := Lib.hid (TY4.out.step2 hb4)); (first | have TZ5 := Lib.hid (TZ4.out.below hb4) | have TZ5 := Lib.hid (TZ4.out.step hb4) | have TZ5 := Lib.hid (TZ4.out.step2 hb4))) | (go_at_call 92; with_reducible refine (C.out.c5 _).mono ?_; rintro e w5 ⟨rfl, hb5⟩; (first | have L6 := Lib.hid (L5.out.below hb5) | have L6 := Lib.hid (L5.out.step hb5) | have L6 := Lib.hid (L5.out.step2 hb5)); obtain ⟨_, _, _, _, _⟩ := L6.out.all; (first | have TY6 := Lib.hid (TY5.out.below hb5) | have TY6 := Lib.hid (TY5.out.step hb5) | have TY6 := Lib.hid (TY5.out.step2 hb5)); (first | have TZ6 := Lib.hid (TZ5.out.below hb5) | have TZ6 := Lib.hid (TZ5.out.step hb5) | have TZ6 := Lib.hid (TZ5.out.step2 hb5))))
  have G7 : Box (w5.alloc (.cells #[.int .u64 (lm G 0 : Nat), .int .u64 (lm G 1 : Nat), .int .u64 (lm G 2 : Nat), .int .u64 (lm G 3 : Nat)] 27)) w5.heap.size G := box_new
  have L7 := L6.out.alloc (.cells #[.int .u64 (lm G 0 : Nat), .int .u64 (lm G 1 : Nat), .int .u64 (lm G 2 : Nat), .int .u64 (lm G 3 : Nat)] 27)
  have Y7 := TY6.out.alloc (.cells #[.int .u64 (lm G 0 : Nat), .int .u64 (lm G 1 : Nat), .int .u64 (lm G 2 : Nat), .int .u64 (lm G 3 : Nat)] 27)
  have Z7 := TZ6.out.alloc (.cells #[.int .u64 (lm G 0 : Nat), .int .u64 (lm G 1 : Nat), .int .u64 (lm G 2 : Nat), .int .u64 (lm G 3 : Nat)] 27)
  have hW7 : Below w.heap.size w (w5.alloc (.cells #[.int .u64 (lm G 0 : Nat), .int .u64 (lm G 1 : Nat), .int .u64 (lm G 2 : Nat), .int .u64 (lm G 3 : Nat)] 27)) := by (repeat first | with_reducible exact Below.refl _ _ | with_reducible assumption | with_reducible refine Below.drew ?_ | with_reducible refine below_alloc ?_ _ | ((with_reducible refine Below.setCell ?_ ?_ _); rotate_left; (focus (first | with_reducible exact Nat.le_refl _ | (simp; done) | (simp; omega) | omega))) | (with_reducible refine below_trans ?_ (by assumption)))
  have hl1 : w.heap.size + 1 + 1 < w3.heap.size := TZ4.out.l
  have hl2 : w.heap.size + 1 + 1 < w5.heap.size := TZ6.out.l
  generalize w5.alloc (.cells #[.int .u64 (lm G 0 : Nat), .int .u64 (lm G 1 : Nat), .int .u64 (lm G 2 : Nat), .int .u64 (lm G 3 : Nat)] 27) = w6 at *
  clear X1 X2 X3 X4 X5 TY1 TY2 TY3 TY4 TY5 TY6 TZ1 TZ2 TZ3 TZ4 TZ5 TZ6 L5 L6 hb1 hb2 hb3 hb4 hb5 hW
  generalize w3.heap.size = kl at *
  generalize w5.heap.size = kg at *
  have n1 : ¬ kl = w.heap.size + 1 := by omega
  have n2 : ¬ kg = w.heap.size + 1 := by omega
  have n3 : ¬ w.heap.size + 1 = kl := by omega
  have n4 : ¬ w.heap.size + 1 = kg := by omega
  have n5 : ¬ kg = w.heap.size + 1 + 1 := by omega
  have n6 : ¬ w.heap.size + 1 + 1 = kg := by omega
  clear hl1 hl2
  obtain ⟨_, _, _, _, _⟩ := L7.all
  obtain ⟨_, _, _, _, _⟩ := G7.all
  obtain ⟨_, _, _⟩ := Y7.all
  obtain ⟨_, _, _⟩ := Z7.all
  clear L7 G7 Y7 Z7
  go_region
  repeat any_goals (first | go_skip | go_guarded | go_step | go_upon | (simp only []; done))
  refine bodyPost_ret (v := .tuple #[.agg #[.int .u64 (lm (L) 0 : Nat), .int .u64 (lm (L) 1 : Nat), .int .u64 (lm (L) 2 : Nat), .int .u64 (lm (L) 3 : Nat)], .agg #[.int .u64 (lm (G) 0 : Nat), .int .u64 (lm (G) 1 : Nat), .int .u64 (lm (G) 2 : Nat), .int .u64 (lm (G) 3 : Nat)]]) ?_ rfl ⟨rfl, by (repeat first | with_reducible exact Below.refl _ _ | with_reducible assumption | with_reducible refine Below.drew ?_ | with_reducible refine below_alloc ?_ _ | ((with_reducible refine Below.setCell ?_ ?_ _); rotate_left; (focus (first | with_reducible exact Nat.le_refl _ | (simp; done) | (simp; omega) | omega))) | (with_reducible refine below_trans ?_ (by assumption)))⟩
  simp [results, Tryz.results75, go_sem, *]
/-- **cut.** -/
theorem cut_any (V : Nat) (hV : V < 2 ^ 256) (w : World) :
    Calls Tryz.prog 75 #[.agg #[.int .u64 (lm (V) 0 : Nat), .int .u64 (lm (V) 1 : Nat), .int .u64 (lm (V) 2 : Nat), .int .u64 (lm (V) 3 : Nat)]] w fun e w' => e = .returned (.tuple #[.agg #[.int .u64 (lm (cutV V) 0 : Nat), .int .u64 (lm (cutV V) 1 : Nat), .int .u64 (lm (cutV V) 2 : Nat), .int .u64 (lm (cutV V) 3 : Nat)], .agg #[.int .u64 (lm (2 ^ kV V) 0 : Nat), .int .u64 (lm (2 ^ kV V) 1 : Nat), .int .u64 (lm (2 ^ kV V) 2 : Nat), .int .u64 (lm (2 ^ kV V) 3 : Nat)]]) ∧ Below w.heap.size w w' := by
  have hb := (bl_le_iff V 256).2 hV
  have hk : kV V ≤ 203 := by unfold kV; omega
  have hL : cutV V < 2 ^ 256 := Nat.lt_of_le_of_lt (cut_le V) hV
  have hA : V / 2 ^ kV V < 2 ^ 256 := Nat.lt_of_le_of_lt (Nat.div_le_self _ _) hV
  have hG : (2 : Nat) ^ kV V < 2 ^ 256 := Nat.pow_lt_pow_right (by decide) (by omega)
  have q := lm_small (d := 1) (by decide)
  refine cut_walk V (cutV V) (V / 2 ^ kV V) (2 ^ kV V) (bl V) (kV V) w (Lib.hid (CuC.mk (Len_lm V hV _ rfl) (fun w => Shr_any V (kV V) hV w (by omega)) (fun w => ?_) (fun w => Of_any 1 w) (fun w => ?_))) (by omega) (by unfold kV; omega)
  · have h := ShlV_any (V / 2 ^ kV V) hA (kV V : Int) w (by omega) (by omega)
    have e : shlOk (V / 2 ^ kV V) (kV V : Int) = true := by
      by_cases c : V / 2 ^ kV V = 0
      · rw [c]
        exact decide_eq_true ⟨by omega, .inl rfl⟩
      · exact (shlOk_iff (Nat.pos_of_ne_zero c)).2 ⟨by omega, hL⟩
    have e2 : shlV (V / 2 ^ kV V) (kV V : Int) = cutV V := by unfold shlV; rw [if_pos e]; rfl
    rw [e, e2] at h
    exact h
  · have h := ShlV_any 1 (by decide) (kV V : Int) w (by omega) (by omega)
    have e : shlOk 1 (kV V : Int) = true := (shlOk_iff (by decide)).2 ⟨by omega, by rw [Nat.one_mul]; exact hG⟩
    have e2 : shlV 1 (kV V : Int) = 2 ^ kV V := by unfold shlV; rw [if_pos e, Nat.one_mul]; rfl
    rw [e, e2, q.1, q.2.1, q.2.2.1, q.2.2.2] at h
    exact h
structure ExC (n : Bool) (V L G S R : Nat) (m p s : Bool) : Prop where
  c1 : ∀ w : World, Calls Tryz.prog 23 #[.agg #[.bool (n ), .int .u64 (lm ( V) 0 : Nat), .int .u64 (lm ( V) 1 : Nat), .int .u64 (lm ( V) 2 : Nat), .int .u64 (lm ( V) 3 : Nat)]] w fun e w' => e = .returned (.bool m) ∧ Below w.heap.size w w'
  c2 : ∀ w : World, Calls Tryz.prog 75 #[.agg #[.int .u64 (lm (V) 0 : Nat), .int .u64 (lm (V) 1 : Nat), .int .u64 (lm (V) 2 : Nat), .int .u64 (lm (V) 3 : Nat)]] w fun e w' => e = .returned (.tuple #[.agg #[.int .u64 (lm (L) 0 : Nat), .int .u64 (lm (L) 1 : Nat), .int .u64 (lm (L) 2 : Nat), .int .u64 (lm (L) 3 : Nat)], .agg #[.int .u64 (lm (G) 0 : Nat), .int .u64 (lm (G) 1 : Nat), .int .u64 (lm (G) 2 : Nat), .int .u64 (lm (G) 3 : Nat)]]) ∧ Below w.heap.size w w'
  c3 : ∀ w : World, Calls Tryz.prog 76 #[.agg #[.int .u64 (lm (L) 0 : Nat), .int .u64 (lm (L) 1 : Nat), .int .u64 (lm (L) 2 : Nat), .int .u64 (lm (L) 3 : Nat)], .agg #[.int .u64 (lm (G) 0 : Nat), .int .u64 (lm (G) 1 : Nat), .int .u64 (lm (G) 2 : Nat), .int .u64 (lm (G) 3 : Nat)]] w fun e w' => e = .returned (.tuple #[.agg #[.int .u64 (lm (S) 0 : Nat), .int .u64 (lm (S) 1 : Nat), .int .u64 (lm (S) 2 : Nat), .int .u64 (lm (S) 3 : Nat)], .bool p]) ∧ Below w.heap.size w w'
  c4 : ∀ w : World, Calls Tryz.prog 77 #[.bool n, .agg #[.int .u64 (lm (R) 0 : Nat), .int .u64 (lm (R) 1 : Nat), .int .u64 (lm (R) 2 : Nat), .int .u64 (lm (R) 3 : Nat)]] w fun e w' => e = .returned (.agg #[.bool (s ), .int .u64 (lm ( R) 0 : Nat), .int .u64 (lm ( R) 1 : Nat), .int .u64 (lm ( R) 2 : Nat), .int .u64 (lm ( R) 3 : Nat)]) ∧ Below w.heap.size w w'
set_option maxRecDepth 20000 in
set_option maxHeartbeats 1600000 in
theorem ex_no (n : Bool) (V L G S R : Nat) (p s out : Bool) (w : World) (C : Hid (ExC n V L G S R false p s)) :
    Calls Tryz.prog 65 #[.agg #[.bool (n ), .int .u64 (lm ( V) 0 : Nat), .int .u64 (lm ( V) 1 : Nat), .int .u64 (lm ( V) 2 : Nat), .int .u64 (lm ( V) 3 : Nat)], .bool out] w fun e w' => e = .returned (.tuple #[.agg #[.bool (false ), .int .u64 (lm ( 0) 0 : Nat), .int .u64 (lm ( 0) 1 : Nat), .int .u64 (lm ( 0) 2 : Nat), .int .u64 (lm ( 0) 3 : Nat)], .bool false]) ∧ Below w.heap.size w w' := by
  go_enter Tryz.func65, Tryz.ntmps65
  repeat any_goals (first | (go_at_call 23; with_reducible refine (C.out.c1 _).mono ?_; rintro e w1 ⟨rfl, hb1⟩; have a1 := Lib.hid (ibox_hb2 hb1); obtain ⟨_, _, _, _, _⟩ := a1.out.all; (first | have z1 := Lib.hid (zi_hb1 hb1) | have z1 := Lib.hid (zi_hb hb1)); obtain ⟨_, _, _, _, _⟩ := z1.out.all) | go_skip | go_guarded | go_step | go_upon | (dsimp only []))
  refine bodyPost_ret (v := .tuple #[.agg #[.bool (false ), .int .u64 (lm ( 0) 0 : Nat), .int .u64 (lm ( 0) 1 : Nat), .int .u64 (lm ( 0) 2 : Nat), .int .u64 (lm ( 0) 3 : Nat)], .bool false]) ?_ rfl ⟨rfl, by (repeat first | with_reducible exact Below.refl _ _ | with_reducible assumption | with_reducible refine Below.drew ?_ | with_reducible refine below_alloc ?_ _ | ((with_reducible refine Below.setCell ?_ ?_ _); rotate_left; (focus (first | with_reducible exact Nat.le_refl _ | (simp; done) | (simp; omega) | omega))) | (with_reducible refine below_trans ?_ (by assumption)))⟩
  simp [results, Tryz.results65, go_sem, lm_zero, *]
set_option maxRecDepth 20000 in
set_option maxHeartbeats 1600000 in
theorem ex_short (n : Bool) (V L G S : Nat) (p s out : Bool) (w : World) (C : Hid (ExC n V L G S L true p s)) (h : out = false ∨ out = true ∧ (((lm L 0 : Nat) : Int) == ((lm V 0 : Nat) : Int) && ((lm L 1 : Nat) : Int) == ((lm V 1 : Nat) : Int) && ((lm L 2 : Nat) : Int) == ((lm V 2 : Nat) : Int) && ((lm L 3 : Nat) : Int) == ((lm V 3 : Nat) : Int)) = true) :
    Calls Tryz.prog 65 #[.agg #[.bool (n ), .int .u64 (lm ( V) 0 : Nat), .int .u64 (lm ( V) 1 : Nat), .int .u64 (lm ( V) 2 : Nat), .int .u64 (lm ( V) 3 : Nat)], .bool out] w fun e w' => e = .returned (.tuple #[.agg #[.bool (s ), .int .u64 (lm ( L) 0 : Nat), .int .u64 (lm ( L) 1 : Nat), .int .u64 (lm ( L) 2 : Nat), .int .u64 (lm ( L) 3 : Nat)], .bool true]) ∧ Below w.heap.size w w' := by
  rcases h with rfl | ⟨rfl, h⟩
  all_goals (
    go_enter Tryz.func65, Tryz.ntmps65
    repeat any_goals (first | (go_at_call 23; with_reducible refine (C.out.c1 _).mono ?_; rintro e w1 ⟨rfl, hb1⟩; have a1 := Lib.hid (ibox_hb2 hb1); obtain ⟨_, _, _, _, _⟩ := a1.out.all; (first | have z1 := Lib.hid (zi_hb1 hb1) | have z1 := Lib.hid (zi_hb hb1)); obtain ⟨_, _, _, _, _⟩ := z1.out.all) | (go_at_call 75; with_reducible refine (C.out.c2 _).mono ?_; rintro e w2 ⟨rfl, hb2⟩; (first | have a2 := Lib.hid (a1.out.below hb2) | have a2 := Lib.hid (a1.out.step hb2) | have a2 := Lib.hid (a1.out.step2 hb2)); obtain ⟨_, _, _, _, _⟩ := a2.out.all; (first | have z2 := Lib.hid (z1.out.below hb2) | have z2 := Lib.hid (z1.out.step hb2) | have z2 := Lib.hid (z1.out.step2 hb2)); obtain ⟨_, _, _, _, _⟩ := z2.out.all) | (go_at_call 77; with_reducible refine (C.out.c4 _).mono ?_; rintro e w3 ⟨rfl, hb3⟩; (first | have z3 := Lib.hid (z2.out.below hb3) | have z3 := Lib.hid (z2.out.step hb3) | have z3 := Lib.hid (z2.out.step2 hb3)); obtain ⟨_, _, _, _, _⟩ := z3.out.all) | go_skip | go_guarded | go_step | go_upon | (dsimp only []))
    refine bodyPost_ret (v := .tuple #[.agg #[.bool (s ), .int .u64 (lm ( L) 0 : Nat), .int .u64 (lm ( L) 1 : Nat), .int .u64 (lm ( L) 2 : Nat), .int .u64 (lm ( L) 3 : Nat)], .bool true]) ?_ rfl ⟨rfl, by (repeat first | with_reducible exact Below.refl _ _ | with_reducible assumption | with_reducible refine Below.drew ?_ | with_reducible refine below_alloc ?_ _ | ((with_reducible refine Below.setCell ?_ ?_ _); rotate_left; (focus (first | with_reducible exact Nat.le_refl _ | (simp; done) | (simp; omega) | omega))) | (with_reducible refine below_trans ?_ (by assumption)))⟩
    simp [results, Tryz.results65, go_sem, *])
set_option maxRecDepth 20000 in
set_option maxHeartbeats 1600000 in
theorem ex_long (n : Bool) (V L G S : Nat) (p s : Bool) (w : World) (C : Hid (ExC n V L G S S true p s)) (h : (((lm L 0 : Nat) : Int) == ((lm V 0 : Nat) : Int) && ((lm L 1 : Nat) : Int) == ((lm V 1 : Nat) : Int) && ((lm L 2 : Nat) : Int) == ((lm V 2 : Nat) : Int) && ((lm L 3 : Nat) : Int) == ((lm V 3 : Nat) : Int)) = false) (hp : p = false → s = false ∧ S = 0) :
    Calls Tryz.prog 65 #[.agg #[.bool (n ), .int .u64 (lm ( V) 0 : Nat), .int .u64 (lm ( V) 1 : Nat), .int .u64 (lm ( V) 2 : Nat), .int .u64 (lm ( V) 3 : Nat)], .bool true] w fun e w' => e = .returned (.tuple #[.agg #[.bool (s ), .int .u64 (lm ( S) 0 : Nat), .int .u64 (lm ( S) 1 : Nat), .int .u64 (lm ( S) 2 : Nat), .int .u64 (lm ( S) 3 : Nat)], .bool p]) ∧ Below w.heap.size w w' := by
  go_enter Tryz.func65, Tryz.ntmps65
  go_upto_region 6 with (first | (go_at_call 23; with_reducible refine (C.out.c1 _).mono ?_; rintro e w1 ⟨rfl, hb1⟩; have a1 := Lib.hid (ibox_hb2 hb1); obtain ⟨_, _, _, _, _⟩ := a1.out.all; (first | have z1 := Lib.hid (zi_hb1 hb1) | have z1 := Lib.hid (zi_hb hb1)); obtain ⟨_, _, _, _, _⟩ := z1.out.all) | (go_at_call 75; with_reducible refine (C.out.c2 _).mono ?_; rintro e w2 ⟨rfl, hb2⟩; (first | have a2 := Lib.hid (a1.out.below hb2) | have a2 := Lib.hid (a1.out.step hb2) | have a2 := Lib.hid (a1.out.step2 hb2)); obtain ⟨_, _, _, _, _⟩ := a2.out.all; (first | have z2 := Lib.hid (z1.out.below hb2) | have z2 := Lib.hid (z1.out.step hb2) | have z2 := Lib.hid (z1.out.step2 hb2)); obtain ⟨_, _, _, _, _⟩ := z2.out.all))
  have L3 : BoxF ((w2.alloc (.cells #[.int .u64 (lm L 0 : Nat), .int .u64 (lm L 1 : Nat), .int .u64 (lm L 2 : Nat), .int .u64 (lm L 3 : Nat)] 27)).alloc (.cells #[.int .u64 (lm G 0 : Nat), .int .u64 (lm G 1 : Nat), .int .u64 (lm G 2 : Nat), .int .u64 (lm G 3 : Nat)] 27)) w2.heap.size L := boxF_new.alloc _
  have G3 : Box ((w2.alloc (.cells #[.int .u64 (lm L 0 : Nat), .int .u64 (lm L 1 : Nat), .int .u64 (lm L 2 : Nat), .int .u64 (lm L 3 : Nat)] 27)).alloc (.cells #[.int .u64 (lm G 0 : Nat), .int .u64 (lm G 1 : Nat), .int .u64 (lm G 2 : Nat), .int .u64 (lm G 3 : Nat)] 27)) (w2.heap.size + 1) G := by
    have h := @box_new (w2.alloc (.cells #[.int .u64 (lm L 0 : Nat), .int .u64 (lm L 1 : Nat), .int .u64 (lm L 2 : Nat), .int .u64 (lm L 3 : Nat)] 27)) G 27
    simpa using h
  have a3 := Lib.hid ((a2.out.alloc (.cells #[.int .u64 (lm L 0 : Nat), .int .u64 (lm L 1 : Nat), .int .u64 (lm L 2 : Nat), .int .u64 (lm L 3 : Nat)] 27)).alloc (.cells #[.int .u64 (lm G 0 : Nat), .int .u64 (lm G 1 : Nat), .int .u64 (lm G 2 : Nat), .int .u64 (lm G 3 : Nat)] 27))
  have z3 := Lib.hid ((z2.out.alloc (.cells #[.int .u64 (lm L 0 : Nat), .int .u64 (lm L 1 : Nat), .int .u64 (lm L 2 : Nat), .int .u64 (lm L 3 : Nat)] 27)).alloc (.cells #[.int .u64 (lm G 0 : Nat), .int .u64 (lm G 1 : Nat), .int .u64 (lm G 2 : Nat), .int .u64 (lm G 3 : Nat)] 27))
  have hW3 : Below w.heap.size w ((w2.alloc (.cells #[.int .u64 (lm L 0 : Nat), .int .u64 (lm L 1 : Nat), .int .u64 (lm L 2 : Nat), .int .u64 (lm L 3 : Nat)] 27)).alloc (.cells #[.int .u64 (lm G 0 : Nat), .int .u64 (lm G 1 : Nat), .int .u64 (lm G 2 : Nat), .int .u64 (lm G 3 : Nat)] 27)) := by (repeat first | with_reducible exact Below.refl _ _ | with_reducible assumption | with_reducible refine Below.drew ?_ | with_reducible refine below_alloc ?_ _ | ((with_reducible refine Below.setCell ?_ ?_ _); rotate_left; (focus (first | with_reducible exact Nat.le_refl _ | (simp; done) | (simp; omega) | omega))) | (with_reducible refine below_trans ?_ (by assumption)))
  have hk1 : w.heap.size + 1 < w2.heap.size := z2.out.l
  generalize (w2.alloc (.cells #[.int .u64 (lm L 0 : Nat), .int .u64 (lm L 1 : Nat), .int .u64 (lm L 2 : Nat), .int .u64 (lm L 3 : Nat)] 27)).alloc (.cells #[.int .u64 (lm G 0 : Nat), .int .u64 (lm G 1 : Nat), .int .u64 (lm G 2 : Nat), .int .u64 (lm G 3 : Nat)] 27) = w3 at *
  clear a1 a2 z1 z2 hb1 hb2
  generalize w2.heap.size = k at *
  have hkn : w.heap.size ≠ k := by omega
  have hkm : w.heap.size + 1 ≠ k := by omega
  have hkW : w.heap.size ≤ k := by omega
  obtain ⟨_, _, _, _, _⟩ := L3.all
  obtain ⟨_, _, _, _, _⟩ := G3.all
  obtain ⟨_, _, _, _, _⟩ := a3.out.all
  have L4 := Lib.hid L3
  clear L3
  go_upto_region 7 with (first | (go_at_call 76; with_reducible refine (C.out.c3 _).mono ?_; rintro e w4 ⟨rfl, hb4⟩; (first | have L5 := Lib.hid (L4.out.below hb4) | have L5 := Lib.hid (L4.out.step hb4) | have L5 := Lib.hid (L4.out.step2 hb4)); obtain ⟨_, _, _, _, _⟩ := L5.out.all; (first | have a4 := Lib.hid (a3.out.below hb4) | have a4 := Lib.hid (a3.out.step hb4) | have a4 := Lib.hid (a3.out.step2 hb4)); obtain ⟨_, _, _, _, _⟩ := a4.out.all; (first | have z4 := Lib.hid (z3.out.below hb4) | have z4 := Lib.hid (z3.out.step hb4) | have z4 := Lib.hid (z3.out.step2 hb4)); obtain ⟨_, _, _, _, _⟩ := z4.out.all))
  (have K8 := Lib.hid (L5.out.set (V := S)); have a8 := Lib.hid ((((a4.out.far (k := k) (i := 0) (v := .int .u64 (lm S 0 : Nat)) hkn).far (k := k) (i := 1) (v := .int .u64 (lm S 1 : Nat)) hkn).far (k := k) (i := 2) (v := .int .u64 (lm S 2 : Nat)) hkn).far (k := k) (i := 3) (v := .int .u64 (lm S 3 : Nat)) hkn); have z8 := Lib.hid ((((z4.out.far (k := k) (i := 0) (v := .int .u64 (lm S 0 : Nat)) hkm).far (k := k) (i := 1) (v := .int .u64 (lm S 1 : Nat)) hkm).far (k := k) (i := 2) (v := .int .u64 (lm S 2 : Nat)) hkm).far (k := k) (i := 3) (v := .int .u64 (lm S 3 : Nat)) hkm); have hW8 : Below w.heap.size w ((((w4.setCell ⟨k, 0, none⟩ (.int .u64 (lm S 0 : Nat))).setCell ⟨k, 1, none⟩ (.int .u64 (lm S 1 : Nat))).setCell ⟨k, 2, none⟩ (.int .u64 (lm S 2 : Nat))).setCell ⟨k, 3, none⟩ (.int .u64 (lm S 3 : Nat))) := (by (repeat first | with_reducible exact Below.refl _ _ | with_reducible assumption | with_reducible refine Below.drew ?_ | with_reducible refine below_alloc ?_ _ | ((with_reducible refine Below.setCell ?_ ?_ _); rotate_left; (focus (first | with_reducible exact Nat.le_refl _ | (simp; done) | (simp; omega) | omega))) | (with_reducible refine below_trans ?_ (by assumption)))); generalize ((((w4.setCell ⟨k, 0, none⟩ (.int .u64 (lm S 0 : Nat))).setCell ⟨k, 1, none⟩ (.int .u64 (lm S 1 : Nat))).setCell ⟨k, 2, none⟩ (.int .u64 (lm S 2 : Nat))).setCell ⟨k, 3, none⟩ (.int .u64 (lm S 3 : Nat))) = w5 at *; obtain ⟨_, _, _, _, _⟩ := K8.out.all; obtain ⟨_, _, _, _, _⟩ := a8.out.all; obtain ⟨_, _, _, _, _⟩ := z8.out.all)
  clear L4 L5 a3 a4 z3 z4 hb4 hW3
  cases p with
  | true =>
    repeat any_goals (first | (go_at_call 77; with_reducible refine (C.out.c4 _).mono ?_; rintro e w7 ⟨rfl, hb7⟩; (first | have z9 := Lib.hid (z8.out.below hb7) | have z9 := Lib.hid (z8.out.step hb7) | have z9 := Lib.hid (z8.out.step2 hb7)); obtain ⟨_, _, _, _, _⟩ := z9.out.all) | go_skip | go_guarded | go_step | go_upon | (dsimp only []))
    refine bodyPost_ret (v := .tuple #[.agg #[.bool (s ), .int .u64 (lm ( S) 0 : Nat), .int .u64 (lm ( S) 1 : Nat), .int .u64 (lm ( S) 2 : Nat), .int .u64 (lm ( S) 3 : Nat)], .bool true]) ?_ rfl ⟨rfl, by (repeat first | with_reducible exact Below.refl _ _ | with_reducible assumption | with_reducible refine Below.drew ?_ | with_reducible refine below_alloc ?_ _ | ((with_reducible refine Below.setCell ?_ ?_ _); rotate_left; (focus (first | with_reducible exact Nat.le_refl _ | (simp; done) | (simp; omega) | omega))) | (with_reducible refine below_trans ?_ (by assumption)))⟩
    simp [results, Tryz.results65, go_sem, *]
  | false =>
    obtain ⟨rfl, rfl⟩ := hp rfl
    repeat any_goals (first | fail | go_skip | go_guarded | go_step | go_upon | (dsimp only []))
    refine bodyPost_ret (v := .tuple #[.agg #[.bool (false ), .int .u64 (lm ( 0) 0 : Nat), .int .u64 (lm ( 0) 1 : Nat), .int .u64 (lm ( 0) 2 : Nat), .int .u64 (lm ( 0) 3 : Nat)], .bool false]) ?_ rfl ⟨rfl, by (repeat first | with_reducible exact Below.refl _ _ | with_reducible assumption | with_reducible refine Below.drew ?_ | with_reducible refine below_alloc ?_ _ | ((with_reducible refine Below.setCell ?_ ?_ _); rotate_left; (focus (first | with_reducible exact Nat.le_refl _ | (simp; done) | (simp; omega) | omega))) | (with_reducible refine below_trans ?_ (by assumption)))⟩
    simp [results, Tryz.results65, go_sem, lm_zero, *]
theorem lm_same {A B : Nat} (hA : A < 2 ^ 256) (hB : B < 2 ^ 256) : (((lm A 0 : Nat) : Int) == ((lm B 0 : Nat) : Int) && ((lm A 1 : Nat) : Int) == ((lm B 1 : Nat) : Int) && ((lm A 2 : Nat) : Int) == ((lm B 2 : Nat) : Int) && ((lm A 3 : Nat) : Int) == ((lm B 3 : Nat) : Int)) = (A == B) := by
  by_cases c : A = B
  · subst c
    simp
  · rw [show (A == B) = false from by simpa using c, ← Bool.not_eq_true]
    intro h
    simp only [Bool.and_eq_true, beq_iff_eq] at h
    exact c (lm_inj hA hB (by omega) (by omega) (by omega) (by omega))
/-- **exact.** -/
theorem exact_any (n : Bool) (V : Nat) (hV : V < 2 ^ 256) (out : Bool) (w : World) :
    Calls Tryz.prog 65 #[.agg #[.bool (n ), .int .u64 (lm ( V) 0 : Nat), .int .u64 (lm ( V) 1 : Nat), .int .u64 (lm ( V) 2 : Nat), .int .u64 (lm ( V) 3 : Nat)], .bool out] w fun e w' => e = .returned (.tuple #[.agg #[.bool (n && (mayI n V && decide (exV V out < 2 ^ 256)) && (exV V out != 0) ), .int .u64 (lm ( if (mayI n V && decide (exV V out < 2 ^ 256)) = true then exV V out else 0) 0 : Nat), .int .u64 (lm ( if (mayI n V && decide (exV V out < 2 ^ 256)) = true then exV V out else 0) 1 : Nat), .int .u64 (lm ( if (mayI n V && decide (exV V out < 2 ^ 256)) = true then exV V out else 0) 2 : Nat), .int .u64 (lm ( if (mayI n V && decide (exV V out < 2 ^ 256)) = true then exV V out else 0) 3 : Nat)], .bool (mayI n V && decide (exV V out < 2 ^ 256))]) ∧ Below w.heap.size w w' := by
  have M := May_any n V hV
  have K := cut_any V hV
  have hL : cutV V < 2 ^ 256 := Nat.lt_of_le_of_lt (cut_le V) hV
  have hb := (bl_le_iff V 256).2 hV
  have hG : (2 : Nat) ^ kV V < 2 ^ 256 := Nat.pow_lt_pow_right (by decide) (by unfold kV; omega)
  have A := Add_any (cutV V) (2 ^ kV V) hL hG
  cases hm : mayI n V with
  | false =>
    rw [hm] at M
    simp only [Bool.false_and, Bool.and_false, Bool.false_eq_true, if_false]
    exact ex_no n V _ _ _ 0 _ _ out w (Lib.hid (ExC.mk M K A (of_any n 0 (by decide))))
  | true =>
    rw [hm] at M
    by_cases c : out = true ∧ cutV V ≠ V
    · obtain ⟨rfl, c⟩ := c
      have e : exV V true = cutV V + 2 ^ kV V := if_pos ⟨rfl, c⟩
      rw [e]
      have hS : (if cutV V + 2 ^ kV V < 2 ^ 256 then cutV V + 2 ^ kV V else 0) < 2 ^ 256 := by split <;> omega
      have h := ex_long n V _ _ _ _ _ w (Lib.hid (ExC.mk M K A (of_any n _ hS))) (by rw [lm_same hL hV]; simpa using c) (fun h => by
        have h2 : ¬ (cutV V + 2 ^ kV V < 2 ^ 256) := of_decide_eq_false h
        rw [if_neg h2]
        exact ⟨by simp, rfl⟩)
      by_cases d : cutV V + 2 ^ kV V < 2 ^ 256
      · simp only [d, decide_true, Bool.and_self, Bool.and_true, if_true] at h ⊢
        exact h
      · simp only [d, decide_false, Bool.and_false, Bool.false_eq_true, if_false, Bool.false_and] at h ⊢
        simpa using h
    · have e : exV V out = cutV V := if_neg c
      rw [e]
      have d : decide (cutV V < 2 ^ 256) = true := decide_eq_true hL
      simp only [d, Bool.and_self, Bool.and_true, if_true]
      refine ex_short n V _ _ _ _ _ out w (Lib.hid (ExC.mk M K A (of_any n _ hL))) ?_
      cases out with
      | false => exact .inl rfl
      | true => exact .inr ⟨rfl, by rw [lm_same hL hV]; simpa using c⟩
end Go.Proofs.YtekeedjhaakbhaaGreatDoor

namespace Go.Proofs.YtekeedjhaakbhaaGreatDoor
open Go.RowKit
theorem ex_cells (up n : Bool) (V : Nat) : sg (ex up n V) = (n && (mayI n V && decide (exV V (up != n) < 2 ^ 256)) && (exV V (up != n) != 0)) ∧ ab (ex up n V) = if (mayI n V && decide (exV V (up != n) < 2 ^ 256)) = true then exV V (up != n) else 0 := by
  unfold ex exOk
  generalize (mayI n V && decide (exV V (up != n) < 2 ^ 256)) = o
  cases o with
  | true =>
    rw [if_pos rfl, if_pos rfl, sg_of, ab_zI, Bool.and_true]
    exact ⟨rfl, rfl⟩
  | false =>
    rw [if_neg Bool.false_ne_true, if_neg Bool.false_ne_true, Bool.and_false, Bool.false_and]
    exact ⟨rfl, rfl⟩
theorem exact_z (up n : Bool) (V : Nat) (hV : V < 2 ^ 256) (w : World) :
    Calls Tryz.prog 65 #[.agg #[.bool (n ), .int .u64 (lm ( V) 0 : Nat), .int .u64 (lm ( V) 1 : Nat), .int .u64 (lm ( V) 2 : Nat), .int .u64 (lm ( V) 3 : Nat)], .bool (up != n)] w fun e w' => e = .returned (.tuple #[.agg #[.bool (sg (ex up n V) ), .int .u64 (lm ( ab (ex up n V)) 0 : Nat), .int .u64 (lm ( ab (ex up n V)) 1 : Nat), .int .u64 (lm ( ab (ex up n V)) 2 : Nat), .int .u64 (lm ( ab (ex up n V)) 3 : Nat)], .bool (exOk up n V)]) ∧ Below w.heap.size w w' := by
  rw [(ex_cells up n V).1, (ex_cells up n V).2]
  exact exact_any n V hV (up != n) w
set_option maxRecDepth 20000 in
set_option maxHeartbeats 1600000 in
theorem Up_walk (n out : Bool) (V R : Nat) (s q : Bool) (w : World) (ho : (!n) = out) (C : Hid (∀ w : World, Calls Tryz.prog 65 #[.agg #[.bool (n ), .int .u64 (lm ( V) 0 : Nat), .int .u64 (lm ( V) 1 : Nat), .int .u64 (lm ( V) 2 : Nat), .int .u64 (lm ( V) 3 : Nat)], .bool out] w fun e w' => e = .returned (.tuple #[.agg #[.bool (s ), .int .u64 (lm ( R) 0 : Nat), .int .u64 (lm ( R) 1 : Nat), .int .u64 (lm ( R) 2 : Nat), .int .u64 (lm ( R) 3 : Nat)], .bool q]) ∧ Below w.heap.size w w')) :
    Calls Tryz.prog 38 #[.agg #[.bool (n ), .int .u64 (lm ( V) 0 : Nat), .int .u64 (lm ( V) 1 : Nat), .int .u64 (lm ( V) 2 : Nat), .int .u64 (lm ( V) 3 : Nat)]] w fun e w' => e = .returned (.tuple #[.agg #[.bool (s ), .int .u64 (lm ( R) 0 : Nat), .int .u64 (lm ( R) 1 : Nat), .int .u64 (lm ( R) 2 : Nat), .int .u64 (lm ( R) 3 : Nat)], .bool q]) ∧ Below w.heap.size w w' := by
  go_enter Tryz.func38, Tryz.ntmps38
  repeat any_goals (first | (go_at_call 65; with_reducible refine (C.out _).mono ?_; rintro e w2 ⟨rfl, hb2⟩; (first | have z2 := Lib.hid (zi_hb1 hb2) | have z2 := Lib.hid (zi_hb hb2)); obtain ⟨_, _, _, _, _⟩ := z2.out.all) | go_skip | go_guarded | go_step | go_upon | (dsimp only []))
  refine bodyPost_ret (v := .tuple #[.agg #[.bool (s ), .int .u64 (lm ( R) 0 : Nat), .int .u64 (lm ( R) 1 : Nat), .int .u64 (lm ( R) 2 : Nat), .int .u64 (lm ( R) 3 : Nat)], .bool q]) ?_ rfl ⟨rfl, by (repeat first | with_reducible exact Below.refl _ _ | with_reducible assumption | with_reducible refine Below.drew ?_ | with_reducible refine below_alloc ?_ _ | ((with_reducible refine Below.setCell ?_ ?_ _); rotate_left; (focus (first | with_reducible exact Nat.le_refl _ | (simp; done) | (simp; omega) | omega))) | (with_reducible refine below_trans ?_ (by assumption)))⟩
  simp [results, Tryz.results38, go_sem, *]
set_option maxRecDepth 20000 in
set_option maxHeartbeats 1600000 in
theorem Down_walk (n : Bool) (V R : Nat) (s q : Bool) (w : World) (C : Hid (∀ w : World, Calls Tryz.prog 65 #[.agg #[.bool (n ), .int .u64 (lm ( V) 0 : Nat), .int .u64 (lm ( V) 1 : Nat), .int .u64 (lm ( V) 2 : Nat), .int .u64 (lm ( V) 3 : Nat)], .bool n] w fun e w' => e = .returned (.tuple #[.agg #[.bool (s ), .int .u64 (lm ( R) 0 : Nat), .int .u64 (lm ( R) 1 : Nat), .int .u64 (lm ( R) 2 : Nat), .int .u64 (lm ( R) 3 : Nat)], .bool q]) ∧ Below w.heap.size w w')) :
    Calls Tryz.prog 39 #[.agg #[.bool (n ), .int .u64 (lm ( V) 0 : Nat), .int .u64 (lm ( V) 1 : Nat), .int .u64 (lm ( V) 2 : Nat), .int .u64 (lm ( V) 3 : Nat)]] w fun e w' => e = .returned (.tuple #[.agg #[.bool (s ), .int .u64 (lm ( R) 0 : Nat), .int .u64 (lm ( R) 1 : Nat), .int .u64 (lm ( R) 2 : Nat), .int .u64 (lm ( R) 3 : Nat)], .bool q]) ∧ Below w.heap.size w w' := by
  go_enter Tryz.func39, Tryz.ntmps39
  repeat any_goals (first | (go_at_call 65; with_reducible refine (C.out _).mono ?_; rintro e w2 ⟨rfl, hb2⟩; (first | have z2 := Lib.hid (zi_hb1 hb2) | have z2 := Lib.hid (zi_hb hb2)); obtain ⟨_, _, _, _, _⟩ := z2.out.all) | go_skip | go_guarded | go_step | go_upon | (dsimp only []))
  refine bodyPost_ret (v := .tuple #[.agg #[.bool (s ), .int .u64 (lm ( R) 0 : Nat), .int .u64 (lm ( R) 1 : Nat), .int .u64 (lm ( R) 2 : Nat), .int .u64 (lm ( R) 3 : Nat)], .bool q]) ?_ rfl ⟨rfl, by (repeat first | with_reducible exact Below.refl _ _ | with_reducible assumption | with_reducible refine Below.drew ?_ | with_reducible refine below_alloc ?_ _ | ((with_reducible refine Below.setCell ?_ ?_ _); rotate_left; (focus (first | with_reducible exact Nat.le_refl _ | (simp; done) | (simp; omega) | omega))) | (with_reducible refine below_trans ?_ (by assumption)))⟩
  simp [results, Tryz.results39, go_sem, *]
/-- **ExactUp, ExactDown.** -/
theorem ExactUp_any (n : Bool) (V : Nat) (hV : V < 2 ^ 256) (w : World) :
    Calls Tryz.prog 38 #[.agg #[.bool (n ), .int .u64 (lm ( V) 0 : Nat), .int .u64 (lm ( V) 1 : Nat), .int .u64 (lm ( V) 2 : Nat), .int .u64 (lm ( V) 3 : Nat)]] w fun e w' => e = .returned (.tuple #[.agg #[.bool (sg (ex true n V) ), .int .u64 (lm ( ab (ex true n V)) 0 : Nat), .int .u64 (lm ( ab (ex true n V)) 1 : Nat), .int .u64 (lm ( ab (ex true n V)) 2 : Nat), .int .u64 (lm ( ab (ex true n V)) 3 : Nat)], .bool (exOk true n V)]) ∧ Below w.heap.size w w' :=
  Up_walk n (true != n) V _ _ _ w (by cases n <;> rfl) (Lib.hid (exact_z true n V hV))
theorem ExactDown_any (n : Bool) (V : Nat) (hV : V < 2 ^ 256) (w : World) :
    Calls Tryz.prog 39 #[.agg #[.bool (n ), .int .u64 (lm ( V) 0 : Nat), .int .u64 (lm ( V) 1 : Nat), .int .u64 (lm ( V) 2 : Nat), .int .u64 (lm ( V) 3 : Nat)]] w fun e w' => e = .returned (.tuple #[.agg #[.bool (sg (ex false n V) ), .int .u64 (lm ( ab (ex false n V)) 0 : Nat), .int .u64 (lm ( ab (ex false n V)) 1 : Nat), .int .u64 (lm ( ab (ex false n V)) 2 : Nat), .int .u64 (lm ( ab (ex false n V)) 3 : Nat)], .bool (exOk false n V)]) ∧ Below w.heap.size w w' :=
  Down_walk n V _ _ _ w (Lib.hid (by
    have h := exact_z false n V hV
    rw [show (false != n) = n from by cases n <;> rfl] at h
    exact h))
end Go.Proofs.YtekeedjhaakbhaaGreatDoor
