/- Contracts: Cmp of the program. -/
import Derived.Test.YtminijokbeclhaaDoorCmpV
import Derived.Test.YtminijokbeclhaaDoorTail
import Derived.LoopN
namespace Go.Proofs.YtminijokbeclhaaDoor
open Go.RowKit
theorem or2_assoc (x y z : Int) : or2 (or2 x y) z = or2 x (or2 y z) := by
  unfold or2
  split <;> simp_all
theorem or2_nought (x : Int) : or2 0 x = x := rfl
theorem Or3_any (x y z : Int) (b : Nat) (w : World) (h0 : w.cell? ⟨b, 0, none⟩ = some (.int .i64 x)) (h1 : w.cell? ⟨b, 1, none⟩ = some (.int .i64 y)) (h2 : w.cell? ⟨b, 2, none⟩ = some (.int .i64 z)) :
    Calls Tryd.prog 50 #[.slice (some ⟨b, 0, none⟩) 3 3] w fun e w' => e = .returned (.int .i64 (or2 x (or2 y z))) ∧ Below w.heap.size w w' := by
  have h := Or_any (fun i => if i = 0 then x else if i = 1 then y else z) b 0 3 3 w (by decide) (by decide) (World.block_lt_of_cell? w _ h0) (fun i hi => by
    rcases (show i = 0 ∨ i = 1 ∨ i = 2 by omega) with rfl | rfl | rfl
    · exact h0
    · exact h1
    · exact h2)
  have e : fstC (fun i => if i = 0 then x else if i = 1 then y else z) 3 = or2 x (or2 y z) := by
    show or2 (or2 (or2 0 x) y) z = _
    rw [or2_nought, or2_assoc]
  rw [e] at h
  exact h
theorem Or2_any (x y : Int) (b : Nat) (w : World) (h0 : w.cell? ⟨b, 0, none⟩ = some (.int .i64 x)) (h1 : w.cell? ⟨b, 1, none⟩ = some (.int .i64 y)) :
    Calls Tryd.prog 50 #[.slice (some ⟨b, 0, none⟩) 2 2] w fun e w' => e = .returned (.int .i64 (or2 x y)) ∧ Below w.heap.size w w' := by
  have h := Or_any (fun i => if i = 0 then x else y) b 0 2 2 w (by decide) (by decide) (World.block_lt_of_cell? w _ h0) (fun i hi => by
    rcases (show i = 0 ∨ i = 1 by omega) with rfl | rfl
    · exact h0
    · exact h1)
  have e : fstC (fun i => if i = 0 then x else y) 2 = or2 x y := by
    show or2 (or2 0 x) y = _
    rw [or2_nought]
  rw [e] at h
  exact h
theorem eg_Cmp (args : Array Value) (W : World) : (callFunc 28 args).run Tryd.prog W = .ok (.enter 28 args) W := enters_of Tryd.func28 (by kernel_rfl) rfl args W
structure PCmC (w : World) (neg : Bool) (V : Nat) (negB : Bool) (VB : Nat) (sl slB sk skB : Value) (i x y : Int) : Prop where
  c1 : ∀ wr : World, Below w.heap.size w wr → Calls Tryd.prog 48 #[.agg #[.bool (neg ), .int .u64 (lm ( V) 0 : Nat), .int .u64 (lm ( V) 1 : Nat), .int .u64 (lm ( V) 2 : Nat), .int .u64 (lm ( V) 3 : Nat)], .agg #[.bool (negB ), .int .u64 (lm ( VB) 0 : Nat), .int .u64 (lm ( VB) 1 : Nat), .int .u64 (lm ( VB) 2 : Nat), .int .u64 (lm ( VB) 3 : Nat)]] wr fun e w' => e = .returned (.int .i64 i) ∧ Below wr.heap.size wr w'
  c2 : ∀ wr : World, Below w.heap.size w wr → Calls Tryd.prog 49 #[sl, slB, .func (.func 28) #[] #[]] wr fun e w' => e = .returned (.int .i64 x) ∧ Below wr.heap.size wr w'
  c3 : ∀ wr : World, Below w.heap.size w wr → Calls Tryd.prog 51 #[sk, skB] wr fun e w' => e = .returned (.int .i64 y) ∧ Below wr.heap.size wr w'

set_option maxRecDepth 20000 in
set_option maxHeartbeats 4000000 in
theorem PCmp_int (neg : Bool) (V bits : Nat) (text : ByteArray) (aL : Option Addr) (nL cL : Nat) (aK : Option Addr) (nK cK : Nat) (negB : Bool) (VB bitsB : Nat) (textB : ByteArray) (aLB : Option Addr) (nLB cLB : Nat) (aKB : Option Addr) (nKB cKB : Nat) (i x y : Int) (w : World)  (C : Hid (PCmC w neg V negB VB (.slice aL nL cL) (.slice aLB nLB cLB) (.slice aK nK cK) (.slice aKB nKB cKB) i x y)) :
    Calls Tryd.prog 28 #[.agg #[.int .i64 3, .bool neg, .int .u64 (lm V 0 : Nat), .int .u64 (lm V 1 : Nat), .int .u64 (lm V 2 : Nat), .int .u64 (lm V 3 : Nat), .int .u64 (bits : Nat), .string text, .slice aL nL cL, .slice aK nK cK], .agg #[.int .i64 3, .bool negB, .int .u64 (lm VB 0 : Nat), .int .u64 (lm VB 1 : Nat), .int .u64 (lm VB 2 : Nat), .int .u64 (lm VB 3 : Nat), .int .u64 (bitsB : Nat), .string textB, .slice aLB nLB cLB, .slice aKB nKB cKB]] w fun e w' => e = .returned (.int .i64 (i)) ∧ Below w.heap.size w w' := by
  obtain ⟨W0, hW0⟩ : ∃ W0, W0 = (w.alloc (.cells #[.int .i64 3, .bool neg, .int .u64 (lm V 0 : Nat), .int .u64 (lm V 1 : Nat), .int .u64 (lm V 2 : Nat), .int .u64 (lm V 3 : Nat), .int .u64 (bits : Nat), .string text, .slice aL nL cL, .slice aK nK cK] 30)).alloc (.cells #[.int .i64 3, .bool negB, .int .u64 (lm VB 0 : Nat), .int .u64 (lm VB 1 : Nat), .int .u64 (lm VB 2 : Nat), .int .u64 (lm VB 3 : Nat), .int .u64 (bitsB : Nat), .string textB, .slice aLB nLB cLB, .slice aKB nKB cKB] 30) := ⟨_, rfl⟩
  have Va := Lib.hid (show VBx W0 w.heap.size 3 neg V bits text aL nL cL aK nK cK by rw [hW0]; exact ⟨by simp [go_sem]⟩)
  have Vb := Lib.hid (show VBx W0 (w.heap.size + 1) 3 negB VB bitsB textB aLB nLB cLB aKB nKB cKB by rw [hW0]; exact ⟨by simp [go_sem]⟩)
  have hB0 : Below w.heap.size w W0 := by rw [hW0]; (repeat first | with_reducible exact Below.refl _ _ | with_reducible assumption | with_reducible refine Below.drew ?_ | with_reducible refine below_alloc ?_ _ | ((with_reducible refine Below.setCell ?_ ?_ _); rotate_left; (focus (first | with_reducible exact Nat.le_refl _ | (simp; done) | (simp; omega) | omega))) | (with_reducible refine below_trans ?_ (by assumption)))
  have HW := Lib.hid hW0
  clear hW0
  go_enter Tryd.func28, Tryd.ntmps28
  repeat any_goals (first | (go_at_call 48; refine (C.out.c1 _ (by (repeat first | with_reducible exact Below.refl _ _ | with_reducible assumption | with_reducible refine Below.drew ?_ | with_reducible refine below_alloc ?_ _ | ((with_reducible refine Below.setCell ?_ ?_ _); rotate_left; (focus (first | with_reducible exact Nat.le_refl _ | (simp; done) | (simp; omega) | omega))) | (with_reducible refine below_trans ?_ (by assumption))))).mono ?_; rintro e w1 ⟨rfl, hb1⟩) | go_skip | go_guarded | go_step | go_upon | (dsimp only []))
  exact bodyPost_ret (v := .int .i64 i) (by simp [results, Tryd.results28, go_sem]) rfl ⟨rfl, by (repeat first | with_reducible exact Below.refl _ _ | with_reducible assumption | with_reducible refine Below.drew ?_ | with_reducible refine below_alloc ?_ _ | ((with_reducible refine Below.setCell ?_ ?_ _); rotate_left; (focus (first | with_reducible exact Nat.le_refl _ | (simp; done) | (simp; omega) | omega))) | (with_reducible refine below_trans ?_ (by assumption)))⟩
set_option maxRecDepth 20000 in
set_option maxHeartbeats 4000000 in
theorem PCmp_list (neg : Bool) (V bits : Nat) (text : ByteArray) (aL : Option Addr) (nL cL : Nat) (aK : Option Addr) (nK cK : Nat) (negB : Bool) (VB bitsB : Nat) (textB : ByteArray) (aLB : Option Addr) (nLB cLB : Nat) (aKB : Option Addr) (nKB cKB : Nat) (i x y : Int) (w : World)  (C : Hid (PCmC w neg V negB VB (.slice aL nL cL) (.slice aLB nLB cLB) (.slice aK nK cK) (.slice aKB nKB cKB) i x y)) :
    Calls Tryd.prog 28 #[.agg #[.int .i64 7, .bool neg, .int .u64 (lm V 0 : Nat), .int .u64 (lm V 1 : Nat), .int .u64 (lm V 2 : Nat), .int .u64 (lm V 3 : Nat), .int .u64 (bits : Nat), .string text, .slice aL nL cL, .slice aK nK cK], .agg #[.int .i64 7, .bool negB, .int .u64 (lm VB 0 : Nat), .int .u64 (lm VB 1 : Nat), .int .u64 (lm VB 2 : Nat), .int .u64 (lm VB 3 : Nat), .int .u64 (bitsB : Nat), .string textB, .slice aLB nLB cLB, .slice aKB nKB cKB]] w fun e w' => e = .returned (.int .i64 (x)) ∧ Below w.heap.size w w' := by
  obtain ⟨W0, hW0⟩ : ∃ W0, W0 = (w.alloc (.cells #[.int .i64 7, .bool neg, .int .u64 (lm V 0 : Nat), .int .u64 (lm V 1 : Nat), .int .u64 (lm V 2 : Nat), .int .u64 (lm V 3 : Nat), .int .u64 (bits : Nat), .string text, .slice aL nL cL, .slice aK nK cK] 30)).alloc (.cells #[.int .i64 7, .bool negB, .int .u64 (lm VB 0 : Nat), .int .u64 (lm VB 1 : Nat), .int .u64 (lm VB 2 : Nat), .int .u64 (lm VB 3 : Nat), .int .u64 (bitsB : Nat), .string textB, .slice aLB nLB cLB, .slice aKB nKB cKB] 30) := ⟨_, rfl⟩
  have Va := Lib.hid (show VBx W0 w.heap.size 7 neg V bits text aL nL cL aK nK cK by rw [hW0]; exact ⟨by simp [go_sem]⟩)
  have Vb := Lib.hid (show VBx W0 (w.heap.size + 1) 7 negB VB bitsB textB aLB nLB cLB aKB nKB cKB by rw [hW0]; exact ⟨by simp [go_sem]⟩)
  have hB0 : Below w.heap.size w W0 := by rw [hW0]; (repeat first | with_reducible exact Below.refl _ _ | with_reducible assumption | with_reducible refine Below.drew ?_ | with_reducible refine below_alloc ?_ _ | ((with_reducible refine Below.setCell ?_ ?_ _); rotate_left; (focus (first | with_reducible exact Nat.le_refl _ | (simp; done) | (simp; omega) | omega))) | (with_reducible refine below_trans ?_ (by assumption)))
  have HW := Lib.hid hW0
  clear hW0
  go_enter Tryd.func28, Tryd.ntmps28
  repeat any_goals (first | (go_at_call 49; refine (C.out.c2 _ (by (repeat first | with_reducible exact Below.refl _ _ | with_reducible assumption | with_reducible refine Below.drew ?_ | with_reducible refine below_alloc ?_ _ | ((with_reducible refine Below.setCell ?_ ?_ _); rotate_left; (focus (first | with_reducible exact Nat.le_refl _ | (simp; done) | (simp; omega) | omega))) | (with_reducible refine below_trans ?_ (by assumption))))).mono ?_; rintro e w1 ⟨rfl, hb1⟩) | go_skip | go_guarded | go_step | go_upon | (dsimp only []))
  exact bodyPost_ret (v := .int .i64 x) (by simp [results, Tryd.results28, go_sem]) rfl ⟨rfl, by (repeat first | with_reducible exact Below.refl _ _ | with_reducible assumption | with_reducible refine Below.drew ?_ | with_reducible refine below_alloc ?_ _ | ((with_reducible refine Below.setCell ?_ ?_ _); rotate_left; (focus (first | with_reducible exact Nat.le_refl _ | (simp; done) | (simp; omega) | omega))) | (with_reducible refine below_trans ?_ (by assumption)))⟩
set_option maxRecDepth 20000 in
set_option maxHeartbeats 4000000 in
theorem PCmp_map (neg : Bool) (V bits : Nat) (text : ByteArray) (aL : Option Addr) (nL cL : Nat) (aK : Option Addr) (nK cK : Nat) (negB : Bool) (VB bitsB : Nat) (textB : ByteArray) (aLB : Option Addr) (nLB cLB : Nat) (aKB : Option Addr) (nKB cKB : Nat) (i x y : Int) (w : World)  (C : Hid (PCmC w neg V negB VB (.slice aL nL cL) (.slice aLB nLB cLB) (.slice aK nK cK) (.slice aKB nKB cKB) i x y)) :
    Calls Tryd.prog 28 #[.agg #[.int .i64 8, .bool neg, .int .u64 (lm V 0 : Nat), .int .u64 (lm V 1 : Nat), .int .u64 (lm V 2 : Nat), .int .u64 (lm V 3 : Nat), .int .u64 (bits : Nat), .string text, .slice aL nL cL, .slice aK nK cK], .agg #[.int .i64 8, .bool negB, .int .u64 (lm VB 0 : Nat), .int .u64 (lm VB 1 : Nat), .int .u64 (lm VB 2 : Nat), .int .u64 (lm VB 3 : Nat), .int .u64 (bitsB : Nat), .string textB, .slice aLB nLB cLB, .slice aKB nKB cKB]] w fun e w' => e = .returned (.int .i64 (or2 (cmpZZ nK nKB) (or2 y x))) ∧ Below w.heap.size w w' := by
  obtain ⟨W0, hW0⟩ : ∃ W0, W0 = (w.alloc (.cells #[.int .i64 8, .bool neg, .int .u64 (lm V 0 : Nat), .int .u64 (lm V 1 : Nat), .int .u64 (lm V 2 : Nat), .int .u64 (lm V 3 : Nat), .int .u64 (bits : Nat), .string text, .slice aL nL cL, .slice aK nK cK] 30)).alloc (.cells #[.int .i64 8, .bool negB, .int .u64 (lm VB 0 : Nat), .int .u64 (lm VB 1 : Nat), .int .u64 (lm VB 2 : Nat), .int .u64 (lm VB 3 : Nat), .int .u64 (bitsB : Nat), .string textB, .slice aLB nLB cLB, .slice aKB nKB cKB] 30) := ⟨_, rfl⟩
  have Va := Lib.hid (show VBx W0 w.heap.size 8 neg V bits text aL nL cL aK nK cK by rw [hW0]; exact ⟨by simp [go_sem]⟩)
  have Vb := Lib.hid (show VBx W0 (w.heap.size + 1) 8 negB VB bitsB textB aLB nLB cLB aKB nKB cKB by rw [hW0]; exact ⟨by simp [go_sem]⟩)
  have hB0 : Below w.heap.size w W0 := by rw [hW0]; (repeat first | with_reducible exact Below.refl _ _ | with_reducible assumption | with_reducible refine Below.drew ?_ | with_reducible refine below_alloc ?_ _ | ((with_reducible refine Below.setCell ?_ ?_ _); rotate_left; (focus (first | with_reducible exact Nat.le_refl _ | (simp; done) | (simp; omega) | omega))) | (with_reducible refine below_trans ?_ (by assumption)))
  have HW := Lib.hid hW0
  clear hW0
  obtain ⟨z, hz⟩ : ∃ z, z = cmpZZ nK nKB := ⟨_, rfl⟩
  have C0 : Hid (∀ wr : World, Calls Tryd.prog 47 #[.int .i64 (nK : Nat), .int .i64 (nKB : Nat)] wr fun e w' => e = .returned (.int .i64 z) ∧ w' = wr) := Lib.hid fun wr => by rw [hz]; exact CmpInt_any _ _ _
  rw [← hz]
  clear hz
  go_enter Tryd.func28, Tryd.ntmps28
  go_upto_region 9 with fail
  rw [← HW.out]
  clear HW
  (obtain ⟨C_, hC⟩ : ∃ C_ : World → Prop, C_ = fun w' => Below (W0).heap.size (W0) w' := ⟨_, rfl⟩; have HC := Lib.hid hC; have hne : ∀ p : Prop, (∀ w1 : World, C_ w1 → p) = p := fun p => propext ⟨fun h => h (W0) (by rw [hC]; exact Below.refl _ _), fun h _ _ => h⟩; clear hC; refine wp_region_quiet_tail (C := C_) 17 0 (by kernel_rfl) (by kernel_rfl) (by rw [HC.out]; exact (Below.refl _ _).drew) ?_; simp only [List.take_succ_cons, List.take_zero, List.drop_succ_cons, List.drop_zero])
  (go_big_quiet_want; go_big_quiet_op; go_big_quiet_on)
  (go_big_quiet_want; refine ⟨.slice aK nK cK, fun w1 hw1 => ?_, ?_⟩; (rw [HC.out] at hw1; obtain ⟨_, _, _, _, _⟩ := (Va.out.below hw1).all; simp [Oper.quietAt, go_sem, *]); (try simp only [Act.put, List.setIfInBounds_toArray, List.set_cons_zero, List.set_cons_succ]); go_big_quiet_on)
  (go_big_quiet_want; go_big_quiet_op; go_big_quiet_on)
  (go_big_quiet_want; go_big_quiet_op; go_big_quiet_on)
  (go_big_quiet_want; refine ⟨.slice aKB nKB cKB, fun w1 hw1 => ?_, ?_⟩; (rw [HC.out] at hw1; obtain ⟨_, _, _, _, _⟩ := (Vb.out.below hw1).all; simp [Oper.quietAt, go_sem, *]); (try simp only [Act.put, List.setIfInBounds_toArray, List.set_cons_zero, List.set_cons_succ]); go_big_quiet_on)
  (go_big_quiet_want; go_big_quiet_op; go_big_quiet_on)
  (go_big_quiet_want; go_big_quiet_op; refine ⟨.int .i64 z, fun w1 hw1 => ?_, ?_⟩; (rw [HC.out] at hw1 ⊢; with_reducible refine (C0.out _).mono ?_; rintro e w4 ⟨rfl, rfl⟩; exact ⟨rfl, hw1⟩); go_big_quiet_on)
  (go_big_quiet_want; go_big_quiet_op; go_big_quiet_on)
  (go_big_quiet_want; refine ⟨.slice aK nK cK, fun w1 hw1 => ?_, ?_⟩; (rw [HC.out] at hw1; obtain ⟨_, _, _, _, _⟩ := (Va.out.below hw1).all; simp [Oper.quietAt, go_sem, *]); (try simp only [Act.put, List.setIfInBounds_toArray, List.set_cons_zero, List.set_cons_succ]); go_big_quiet_on)
  (go_big_quiet_want; go_big_quiet_op; go_big_quiet_on)
  (go_big_quiet_want; refine ⟨.slice aKB nKB cKB, fun w1 hw1 => ?_, ?_⟩; (rw [HC.out] at hw1; obtain ⟨_, _, _, _, _⟩ := (Vb.out.below hw1).all; simp [Oper.quietAt, go_sem, *]); (try simp only [Act.put, List.setIfInBounds_toArray, List.set_cons_zero, List.set_cons_succ]); go_big_quiet_on)
  (go_big_quiet_want; go_big_quiet_op; refine ⟨.int .i64 y, fun w1 hw1 => ?_, ?_⟩; (rw [HC.out] at hw1 ⊢; with_reducible refine (C.out.c3 _ (below_trans hB0 hw1)).mono ?_; rintro e w4 ⟨rfl, hb4⟩; exact ⟨rfl, below_trans hw1 hb4⟩); go_big_quiet_on)
  (go_big_quiet_want; go_big_quiet_op; go_big_quiet_on)
  (go_big_quiet_want; refine ⟨.slice aL nL cL, fun w1 hw1 => ?_, ?_⟩; (rw [HC.out] at hw1; obtain ⟨_, _, _, _, _⟩ := (Va.out.below hw1).all; simp [Oper.quietAt, go_sem, *]); (try simp only [Act.put, List.setIfInBounds_toArray, List.set_cons_zero, List.set_cons_succ]); go_big_quiet_on)
  (go_big_quiet_want; go_big_quiet_op; go_big_quiet_on)
  (go_big_quiet_want; refine ⟨.slice aLB nLB cLB, fun w1 hw1 => ?_, ?_⟩; (rw [HC.out] at hw1; obtain ⟨_, _, _, _, _⟩ := (Vb.out.below hw1).all; simp [Oper.quietAt, go_sem, *]); (try simp only [Act.put, List.setIfInBounds_toArray, List.set_cons_zero, List.set_cons_succ]); go_big_quiet_on)
  (go_big_quiet_want; go_big_quiet_op; refine ⟨.int .i64 x, fun w1 hw1 => ?_, ?_⟩; (rw [HC.out] at hw1 ⊢; with_reducible refine (C.out.c2 _ (below_trans hB0 hw1)).mono ?_; rintro e w4 ⟨rfl, hb4⟩; exact ⟨rfl, below_trans hw1 hb4⟩); go_big_quiet_on)
  (refine wpQuiet_nil ?_; intro w2 hw2; rw [HC.out] at hw2)
  refine wpPure_nil ?_
  repeat any_goals (first | (go_at_call 50; refine (Or3_any z y x _ _ (by simp [go_sem]) (by simp [go_sem]) (by simp [go_sem])).mono ?_; rintro e w3 ⟨rfl, hb3⟩) | go_skip | go_guarded | go_step | go_upon | (dsimp only []))
  refine NoPanic.normal ?_
  repeat any_goals (first | go_skip | go_guarded | go_step | go_upon | (simp only []; done))
  exact bodyPost_ret (v := .int .i64 (or2 z (or2 y x))) (by simp [results, Tryd.results28, go_sem]) rfl ⟨rfl, by (repeat first | with_reducible exact Below.refl _ _ | with_reducible assumption | with_reducible refine Below.drew ?_ | with_reducible refine below_alloc ?_ _ | ((with_reducible refine Below.setCell ?_ ?_ _); rotate_left; (focus (first | with_reducible exact Nat.le_refl _ | (simp; done) | (simp; omega) | omega))) | (with_reducible refine below_trans ?_ (by assumption)))⟩
set_option maxRecDepth 20000 in
set_option maxHeartbeats 4000000 in
theorem PCmp_else (kind : Int) (neg : Bool) (V bits : Nat) (text : ByteArray) (aL : Option Addr) (nL cL : Nat) (aK : Option Addr) (nK cK : Nat) (negB : Bool) (VB bitsB : Nat) (textB : ByteArray) (aLB : Option Addr) (nLB cLB : Nat) (aKB : Option Addr) (nKB cKB : Nat) (i x y : Int) (w : World) (h3 : (kind == 3) = false) (h7 : (kind == 7) = false) (h8 : (kind == 8) = false) (_C : Hid (PCmC w neg V negB VB (.slice aL nL cL) (.slice aLB nLB cLB) (.slice aK nK cK) (.slice aKB nKB cKB) i x y)) :
    Calls Tryd.prog 28 #[.agg #[.int .i64 kind, .bool neg, .int .u64 (lm V 0 : Nat), .int .u64 (lm V 1 : Nat), .int .u64 (lm V 2 : Nat), .int .u64 (lm V 3 : Nat), .int .u64 (bits : Nat), .string text, .slice aL nL cL, .slice aK nK cK], .agg #[.int .i64 kind, .bool negB, .int .u64 (lm VB 0 : Nat), .int .u64 (lm VB 1 : Nat), .int .u64 (lm VB 2 : Nat), .int .u64 (lm VB 3 : Nat), .int .u64 (bitsB : Nat), .string textB, .slice aLB nLB cLB, .slice aKB nKB cKB]] w fun e w' => e = .returned (.int .i64 (or2 (cmpZZ bits bitsB) (sgnS text textB))) ∧ Below w.heap.size w w' := by
  obtain ⟨W0, hW0⟩ : ∃ W0, W0 = (w.alloc (.cells #[.int .i64 kind, .bool neg, .int .u64 (lm V 0 : Nat), .int .u64 (lm V 1 : Nat), .int .u64 (lm V 2 : Nat), .int .u64 (lm V 3 : Nat), .int .u64 (bits : Nat), .string text, .slice aL nL cL, .slice aK nK cK] 30)).alloc (.cells #[.int .i64 kind, .bool negB, .int .u64 (lm VB 0 : Nat), .int .u64 (lm VB 1 : Nat), .int .u64 (lm VB 2 : Nat), .int .u64 (lm VB 3 : Nat), .int .u64 (bitsB : Nat), .string textB, .slice aLB nLB cLB, .slice aKB nKB cKB] 30) := ⟨_, rfl⟩
  have Va := Lib.hid (show VBx W0 w.heap.size kind neg V bits text aL nL cL aK nK cK by rw [hW0]; exact ⟨by simp [go_sem]⟩)
  have Vb := Lib.hid (show VBx W0 (w.heap.size + 1) kind negB VB bitsB textB aLB nLB cLB aKB nKB cKB by rw [hW0]; exact ⟨by simp [go_sem]⟩)
  have hB0 : Below w.heap.size w W0 := by rw [hW0]; (repeat first | with_reducible exact Below.refl _ _ | with_reducible assumption | with_reducible refine Below.drew ?_ | with_reducible refine below_alloc ?_ _ | ((with_reducible refine Below.setCell ?_ ?_ _); rotate_left; (focus (first | with_reducible exact Nat.le_refl _ | (simp; done) | (simp; omega) | omega))) | (with_reducible refine below_trans ?_ (by assumption)))
  have HW := Lib.hid hW0
  clear hW0
  obtain ⟨z, hz⟩ : ∃ z, z = cmpZZ bits bitsB := ⟨_, rfl⟩
  obtain ⟨s, hs⟩ : ∃ s, s = sgnS text textB := ⟨_, rfl⟩
  have C0 : Hid (∀ wr : World, Calls Tryd.prog 52 #[.int .u64 (bits : Nat), .int .u64 (bitsB : Nat)] wr fun e w' => e = .returned (.int .i64 z) ∧ w' = wr) := Lib.hid fun wr => by rw [hz]; exact CmpU_any _ _ _
  have C1 : Hid (∀ wr : World, Calls Tryd.prog 53 #[.string text, .string textB] wr fun e w' => e = .returned (.int .i64 s) ∧ w' = wr) := Lib.hid fun wr => by rw [hs]; exact CmpS_any _ _ _
  rw [← hz, ← hs]
  clear hz hs _C
  go_enter Tryd.func28, Tryd.ntmps28
  go_upto_region 10 with fail
  rw [← HW.out]
  clear HW
  (obtain ⟨C_, hC⟩ : ∃ C_ : World → Prop, C_ = fun w' => Below (W0).heap.size (W0) w' := ⟨_, rfl⟩; have HC := Lib.hid hC; have hne : ∀ p : Prop, (∀ w1 : World, C_ w1 → p) = p := fun p => propext ⟨fun h => h (W0) (by rw [hC]; exact Below.refl _ _), fun h _ _ => h⟩; clear hC; refine wp_region_quiet_tail (C := C_) 10 0 (by kernel_rfl) (by kernel_rfl) (by rw [HC.out]; exact (Below.refl _ _).drew) ?_; simp only [List.take_succ_cons, List.take_zero, List.drop_succ_cons, List.drop_zero])
  (go_big_quiet_want; go_big_quiet_op; go_big_quiet_on)
  (go_big_quiet_want; refine ⟨.int .u64 (bits : Nat), fun w1 hw1 => ?_, ?_⟩; (rw [HC.out] at hw1; obtain ⟨_, _, _, _, _⟩ := (Va.out.below hw1).all; simp [Oper.quietAt, go_sem, *]); (try simp only [Act.put, List.setIfInBounds_toArray, List.set_cons_zero, List.set_cons_succ]); go_big_quiet_on)
  (go_big_quiet_want; go_big_quiet_op; go_big_quiet_on)
  (go_big_quiet_want; refine ⟨.int .u64 (bitsB : Nat), fun w1 hw1 => ?_, ?_⟩; (rw [HC.out] at hw1; obtain ⟨_, _, _, _, _⟩ := (Vb.out.below hw1).all; simp [Oper.quietAt, go_sem, *]); (try simp only [Act.put, List.setIfInBounds_toArray, List.set_cons_zero, List.set_cons_succ]); go_big_quiet_on)
  (go_big_quiet_want; go_big_quiet_op; refine ⟨.int .i64 z, fun w1 hw1 => ?_, ?_⟩; (rw [HC.out] at hw1 ⊢; with_reducible refine (C0.out _).mono ?_; rintro e w4 ⟨rfl, rfl⟩; exact ⟨rfl, hw1⟩); go_big_quiet_on)
  (go_big_quiet_want; go_big_quiet_op; go_big_quiet_on)
  (go_big_quiet_want; refine ⟨.string text, fun w1 hw1 => ?_, ?_⟩; (rw [HC.out] at hw1; obtain ⟨_, _, _, _, _⟩ := (Va.out.below hw1).all; simp [Oper.quietAt, go_sem, *]); (try simp only [Act.put, List.setIfInBounds_toArray, List.set_cons_zero, List.set_cons_succ]); go_big_quiet_on)
  (go_big_quiet_want; go_big_quiet_op; go_big_quiet_on)
  (go_big_quiet_want; refine ⟨.string textB, fun w1 hw1 => ?_, ?_⟩; (rw [HC.out] at hw1; obtain ⟨_, _, _, _, _⟩ := (Vb.out.below hw1).all; simp [Oper.quietAt, go_sem, *]); (try simp only [Act.put, List.setIfInBounds_toArray, List.set_cons_zero, List.set_cons_succ]); go_big_quiet_on)
  (go_big_quiet_want; go_big_quiet_op; refine ⟨.int .i64 s, fun w1 hw1 => ?_, ?_⟩; (rw [HC.out] at hw1 ⊢; with_reducible refine (C1.out _).mono ?_; rintro e w4 ⟨rfl, rfl⟩; exact ⟨rfl, hw1⟩); go_big_quiet_on)
  (refine wpQuiet_nil ?_; intro w2 hw2; rw [HC.out] at hw2)
  refine wpPure_nil ?_
  repeat any_goals (first | (go_at_call 50; refine (Or2_any z s _ _ (by simp [go_sem]) (by simp [go_sem])).mono ?_; rintro e w3 ⟨rfl, hb3⟩) | go_skip | go_guarded | go_step | go_upon | (dsimp only []))
  refine NoPanic.normal ?_
  repeat any_goals (first | go_skip | go_guarded | go_step | go_upon | (simp only []; done))
  exact bodyPost_ret (v := .int .i64 (or2 z s)) (by simp [results, Tryd.results28, go_sem]) rfl ⟨rfl, by (repeat first | with_reducible exact Below.refl _ _ | with_reducible assumption | with_reducible refine Below.drew ?_ | with_reducible refine below_alloc ?_ _ | ((with_reducible refine Below.setCell ?_ ?_ _); rotate_left; (focus (first | with_reducible exact Nat.le_refl _ | (simp; done) | (simp; omega) | omega))) | (with_reducible refine below_trans ?_ (by assumption)))⟩
theorem PCmpV_any : ∀ (T U : VT) (w : World), T.In w → U.In w → Calls Tryd.prog 28 #[T.agg, U.agg] w fun e w' => e = .returned (.int .i64 (T.cmpT U)) ∧ Below w.heap.size w w' := by
  intro T
  induction T with
  | nil => exact fun U w h => h.elim
  | mk kind neg V bits text aL nL cL kids aK nK cK keys ih =>
    intro U w hin hinB
    cases U with
    | nil => exact hinB.elim
    | mk kindB negB VB bitsB textB aLB nLB cLB kidsB aKB nKB cKB keysB =>
    obtain ⟨o, hL, hk, hKy⟩ := hin
    obtain ⟨oB, hLB, hkB, hKyB⟩ := hinB
    have C : Hid (PCmC w neg V negB VB (.slice aL nL cL) (.slice aLB nLB cLB) (.slice aK nK cK) (.slice aKB nKB cKB) (cmpI neg V negB VB) (lexN (fun i => (kids i).cmpT (kidsB i)) nL nLB) (lexN (fun i => sgnS (keys i) (keysB i)) nK nKB)) := Lib.hid ⟨fun wr _ => Cmp_any neg V o.v negB VB oB.v wr, fun wr hb => by
      refine CompareV_any _ eg_Cmp _ aL nL cL kids aLB nLB cLB kidsB wr o.lc o.l oB.lc oB.l ?_ (fun i hi => (hk i hi).below hb) ?_ (fun i hi => (hkB i hi).below hb) fun i hi hiB w' hb' => ih i _ w' (((hk i hi).below hb).below hb') (((hkB i hiB).below hb).below hb')
      · rcases hL with h | ⟨b, off, h1, h2, h3⟩
        · exact .inl h
        · exact .inr ⟨b, off, h1, Nat.lt_of_lt_of_le h2 hb.size, fun i hi j hj => by rw [hb.cell (p := ⟨b, off + i * 10 + j, none⟩) h2]; exact h3 i hi j hj⟩
      · rcases hLB with h | ⟨b, off, h1, h2, h3⟩
        · exact .inl h
        · exact .inr ⟨b, off, h1, Nat.lt_of_lt_of_le h2 hb.size, fun i hi j hj => by rw [hb.cell (p := ⟨b, off + i * 10 + j, none⟩) h2]; exact h3 i hi j hj⟩, fun wr hb => by
      refine CompareK_any aK nK cK keys aKB nKB cKB keysB wr o.nc o.n oB.nc oB.n ?_ ?_
      · rcases hKy with h | ⟨b, off, h1, h2, h3⟩
        · exact .inl h
        · exact .inr ⟨b, off, h1, Nat.lt_of_lt_of_le h2 hb.size, fun i hi => ⟨keep_cell hb (h3 i hi).1, (h3 i hi).2⟩⟩
      · rcases hKyB with h | ⟨b, off, h1, h2, h3⟩
        · exact .inl h
        · exact .inr ⟨b, off, h1, Nat.lt_of_lt_of_le h2 hb.size, fun i hi => ⟨keep_cell hb (h3 i hi).1, (h3 i hi).2⟩⟩⟩
    clear ih hL hk hKy hLB hkB hKyB o oB
    simp only [VT.cmpT]
    by_cases h0 : kind = kindB
    · subst h0
      rw [if_pos rfl]
      by_cases h3 : kind = 3
      · subst h3
        rw [if_pos rfl]
        exact PCmp_int neg V bits text aL nL cL aK nK cK negB VB bitsB textB aLB nLB cLB aKB nKB cKB _ _ _ w C
      · rw [if_neg h3]
        by_cases h7 : kind = 7
        · subst h7
          rw [if_pos rfl]
          exact PCmp_list neg V bits text aL nL cL aK nK cK negB VB bitsB textB aLB nLB cLB aKB nKB cKB _ _ _ w C
        · rw [if_neg h7]
          by_cases h8 : kind = 8
          · subst h8
            rw [if_pos rfl]
            exact PCmp_map neg V bits text aL nL cL aK nK cK negB VB bitsB textB aLB nLB cLB aKB nKB cKB _ _ _ w C
          · rw [if_neg h8]
            exact PCmp_else kind neg V bits text aL nL cL aK nK cK negB VB bitsB textB aLB nLB cLB aKB nKB cKB _ _ _ w (beq_false_of_ne h3) (beq_false_of_ne h7) (beq_false_of_ne h8) C
    · rw [if_neg h0]
      exact Cmp_kinds kind neg V bits text aL nL cL aK nK cK kindB negB VB bitsB textB aLB nLB cLB aKB nKB cKB w (beq_false_of_ne h0)
end Go.Proofs.YtminijokbeclhaaDoor
