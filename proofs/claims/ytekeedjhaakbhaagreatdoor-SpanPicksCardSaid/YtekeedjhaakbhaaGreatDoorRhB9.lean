/- Contracts of the document: OfInt, OfUint, ToInt, ToUint, CmpInt. IBOX · Contracts of the document: whole, Step. IBOX -/
import Derived.Test.YtekeedjhaakbhaaGreatDoorWhP9
import Derived.Test.YtekeedjhaakbhaaGreatDoorDMR9
namespace Go.Proofs.YtekeedjhaakbhaaGreatDoor
open Go.RowKit
set_option maxRecDepth 20000 in
set_option maxHeartbeats 800000 in
theorem ROfInt_neg (v : Int) (u : Int) (hv : v < 0) (e : IntKind.u64.wrap (IntKind.u64.wrap (wrap64 (-wrap64 (v + 1))) + 1) = u) (w : World) :
    Calls Tryz.prog 11 #[.int .i64 v] w fun e w' => e = .returned (.agg #[.bool true, .int .u64 u, .int .u64 0, .int .u64 0, .int .u64 0]) ∧ Below w.heap.size w w' := by
  go_enter Tryz.func11, Tryz.ntmps11
  repeat any_goals (first | go_skip | go_guarded | go_step | go_upon | (simp only []; done))
  refine bodyPost_ret (v := .agg #[.bool true, .int .u64 u, .int .u64 0, .int .u64 0, .int .u64 0]) ?_ rfl ⟨rfl, by (repeat first | with_reducible exact Below.refl _ _ | with_reducible assumption | with_reducible refine Below.drew ?_ | with_reducible refine below_alloc ?_ _ | ((with_reducible refine Below.setCell ?_ ?_ _); rotate_left; (focus (first | with_reducible exact Nat.le_refl _ | (simp; done) | (simp; omega) | omega))) | (with_reducible refine below_trans ?_ (by assumption)))⟩
  simp [results, Tryz.results11, go_sem, *]
set_option maxRecDepth 20000 in
set_option maxHeartbeats 800000 in
theorem ROfInt_pos (v : Int) (u : Int) (hv : 0 ≤ v) (e : IntKind.u64.wrap v = u) (w : World) :
    Calls Tryz.prog 11 #[.int .i64 v] w fun e w' => e = .returned (.agg #[.bool false, .int .u64 u, .int .u64 0, .int .u64 0, .int .u64 0]) ∧ Below w.heap.size w w' := by
  go_enter Tryz.func11, Tryz.ntmps11
  repeat any_goals (first | go_skip | go_guarded | go_step | go_upon | (simp only []; done))
  refine bodyPost_ret (v := .agg #[.bool false, .int .u64 u, .int .u64 0, .int .u64 0, .int .u64 0]) ?_ rfl ⟨rfl, by (repeat first | with_reducible exact Below.refl _ _ | with_reducible assumption | with_reducible refine Below.drew ?_ | with_reducible refine below_alloc ?_ _ | ((with_reducible refine Below.setCell ?_ ?_ _); rotate_left; (focus (first | with_reducible exact Nat.le_refl _ | (simp; done) | (simp; omega) | omega))) | (with_reducible refine below_trans ?_ (by assumption)))⟩
  simp [results, Tryz.results11, go_sem, *]
/-- **OfInt.** -/
theorem ROfI_any (v : Int) (h0 : -9223372036854775808 ≤ v) (h1 : v < 9223372036854775808) (w : World) :
    Calls Tryz.prog 11 #[.int .i64 v] w fun e w' => e = .returned (.agg #[.bool (sg v ), .int .u64 (lm ( ab v) 0 : Nat), .int .u64 (lm ( ab v) 1 : Nat), .int .u64 (lm ( ab v) 2 : Nat), .int .u64 (lm ( ab v) 3 : Nat)]) ∧ Below w.heap.size w w' := by
  have hu : ab v < 18446744073709551616 := by unfold ab; omega
  obtain ⟨q0, q1, q2, q3⟩ := lm_small hu
  rw [q0, q1, q2, q3]
  by_cases c : v < 0
  · rw [show sg v = true from decide_eq_true c]
    refine ROfInt_neg v _ c ?_ w
    rw [IntKind.wrap_u64, IntKind.wrap_u64]
    simp only [wrap64]
    unfold ab
    omega
  · rw [show sg v = false from decide_eq_false c]
    refine ROfInt_pos v _ (by omega) ?_ w
    rw [IntKind.wrap_u64]
    unfold ab
    omega
structure RcC (n : Bool) (V : Nat) (m : Bool) (U : Nat) (x : Int) : Prop where
  c1 : ∀ w : World, Calls Tryz.prog 28 #[.agg #[.int .u64 (lm (V) 0 : Nat), .int .u64 (lm (V) 1 : Nat), .int .u64 (lm (V) 2 : Nat), .int .u64 (lm (V) 3 : Nat)]] w fun e w' => ∃ v, e = .returned v ∧ IsD w' v V ∧ Below w.heap.size w w'
  c2 : ∀ w : World, Calls Tryz.prog 28 #[.agg #[.int .u64 (lm (U) 0 : Nat), .int .u64 (lm (U) 1 : Nat), .int .u64 (lm (U) 2 : Nat), .int .u64 (lm (U) 3 : Nat)]] w fun e w' => ∃ v, e = .returned v ∧ IsD w' v U ∧ Below w.heap.size w w'
  c3 : ∀ (v1 v2 : Value) (w : World), IsD w v1 V → IsD w v2 U → Calls Tryz.prog 46 #[v1, v2] w fun e w' => e = .returned (.int .i64 x) ∧ Below w.heap.size w w'
theorem ibox_new1 {w : World} {n : Bool} {V : Nat} {t : TypeId} {o : Obj} : IBox ((w.alloc o).alloc (.cells #[.bool n, .int .u64 (lm V 0 : Nat), .int .u64 (lm V 1 : Nat), .int .u64 (lm V 2 : Nat), .int .u64 (lm V 3 : Nat)] t)) (w.heap.size + 1) n V := by
  have h := @ibox_new (w.alloc o) n V t
  simpa using h
set_option maxRecDepth 20000 in
set_option maxHeartbeats 1600000 in
theorem RCmp_walk (n : Bool) (V : Nat) (m : Bool) (U : Nat) (x z : Int) (w : World) (C : Hid (RcC n V m U x)) (h : n = true ∧ m = false ∧ z = -1 ∨ n = false ∧ m = true ∧ z = 1) :
    Calls Tryz.prog 20 #[.agg #[.bool (n ), .int .u64 (lm ( V) 0 : Nat), .int .u64 (lm ( V) 1 : Nat), .int .u64 (lm ( V) 2 : Nat), .int .u64 (lm ( V) 3 : Nat)], .agg #[.bool (m ), .int .u64 (lm ( U) 0 : Nat), .int .u64 (lm ( U) 1 : Nat), .int .u64 (lm ( U) 2 : Nat), .int .u64 (lm ( U) 3 : Nat)]] w fun e w' => e = .returned (.int .i64 z) ∧ Below w.heap.size w w' := by
  rcases h with ⟨rfl, rfl, rfl⟩ | ⟨rfl, rfl, rfl⟩
  all_goals (
    go_enter Tryz.func20, Tryz.ntmps20
    (repeat any_goals (first | go_skip | go_guarded | go_step | go_upon | (simp only []; done)))
    go_ret
    exact ⟨by simp, by (repeat first | with_reducible exact Below.refl _ _ | with_reducible assumption | with_reducible refine Below.drew ?_ | with_reducible refine below_alloc ?_ _ | ((with_reducible refine Below.setCell ?_ ?_ _); rotate_left; (focus (first | with_reducible exact Nat.le_refl _ | (simp; done) | (simp; omega) | omega))) | (with_reducible refine below_trans ?_ (by assumption)))⟩)
set_option maxRecDepth 20000 in
set_option maxHeartbeats 1600000 in
theorem RCmp_same (n : Bool) (V U : Nat) (x z : Int) (w : World) (C : Hid (RcC n V n U x)) (h : n = true ∧ wrap64 (-x) = z ∨ n = false ∧ x = z) :
    Calls Tryz.prog 20 #[.agg #[.bool (n ), .int .u64 (lm ( V) 0 : Nat), .int .u64 (lm ( V) 1 : Nat), .int .u64 (lm ( V) 2 : Nat), .int .u64 (lm ( V) 3 : Nat)], .agg #[.bool (n ), .int .u64 (lm ( U) 0 : Nat), .int .u64 (lm ( U) 1 : Nat), .int .u64 (lm ( U) 2 : Nat), .int .u64 (lm ( U) 3 : Nat)]] w fun e w' => e = .returned (.int .i64 z) ∧ Below w.heap.size w w' := by
  go_enter Tryz.func20, Tryz.ntmps20
  go_upto_region 5 with fail
  have X0 := Lib.hid ((@ibox_new w n V 29).alloc (.cells #[.bool n, .int .u64 (lm U 0 : Nat), .int .u64 (lm U 1 : Nat), .int .u64 (lm U 2 : Nat), .int .u64 (lm U 3 : Nat)] 29))
  have Y0 := Lib.hid (@ibox_new1 w n U 29 (.cells #[.bool n, .int .u64 (lm V 0 : Nat), .int .u64 (lm V 1 : Nat), .int .u64 (lm V 2 : Nat), .int .u64 (lm V 3 : Nat)] 29))
  have hW : Below w.heap.size w ((w.alloc (.cells #[.bool n, .int .u64 (lm V 0 : Nat), .int .u64 (lm V 1 : Nat), .int .u64 (lm V 2 : Nat), .int .u64 (lm V 3 : Nat)] 29)).alloc (.cells #[.bool n, .int .u64 (lm U 0 : Nat), .int .u64 (lm U 1 : Nat), .int .u64 (lm U 2 : Nat), .int .u64 (lm U 3 : Nat)] 29)) := by (repeat first | with_reducible exact Below.refl _ _ | with_reducible assumption | with_reducible refine Below.drew ?_ | with_reducible refine below_alloc ?_ _ | ((with_reducible refine Below.setCell ?_ ?_ _); rotate_left; (focus (first | with_reducible exact Nat.le_refl _ | (simp; done) | (simp; omega) | omega))) | (with_reducible refine below_trans ?_ (by assumption)))
  generalize (w.alloc (.cells #[.bool n, .int .u64 (lm V 0 : Nat), .int .u64 (lm V 1 : Nat), .int .u64 (lm V 2 : Nat), .int .u64 (lm V 3 : Nat)] 29)).alloc (.cells #[.bool n, .int .u64 (lm U 0 : Nat), .int .u64 (lm U 1 : Nat), .int .u64 (lm U 2 : Nat), .int .u64 (lm U 3 : Nat)] 29) = w0 at *
  have hq : Below w0.heap.size w0 w0.drew := (Below.refl _ _).drew
  go_region_held3 (fun w' => w'.cell? ⟨w.heap.size, 0, none⟩ = some (.bool n) ∧ w'.cell? ⟨w.heap.size, 1, none⟩ = some (.int .u64 (lm V 0 : Nat)) ∧ w'.cell? ⟨w.heap.size, 2, none⟩ = some (.int .u64 (lm V 1 : Nat)) ∧ w'.cell? ⟨w.heap.size, 3, none⟩ = some (.int .u64 (lm V 2 : Nat)) ∧ w'.cell? ⟨w.heap.size, 4, none⟩ = some (.int .u64 (lm V 3 : Nat)) ∧ w'.cell? ⟨(w.heap.size + 1), 0, none⟩ = some (.bool n) ∧ w'.cell? ⟨(w.heap.size + 1), 1, none⟩ = some (.int .u64 (lm U 0 : Nat)) ∧ w'.cell? ⟨(w.heap.size + 1), 2, none⟩ = some (.int .u64 (lm U 1 : Nat)) ∧ w'.cell? ⟨(w.heap.size + 1), 3, none⟩ = some (.int .u64 (lm U 2 : Nat)) ∧ w'.cell? ⟨(w.heap.size + 1), 4, none⟩ = some (.int .u64 (lm U 3 : Nat))) (first | with_reducible assumption | (have hk_ := hq; with_reducible exact ⟨(X0.out.below hk_).c0, (X0.out.below hk_).c1, (X0.out.below hk_).c2, (X0.out.below hk_).c3, (X0.out.below hk_).c4, (Y0.out.below hk_).c0, (Y0.out.below hk_).c1, (Y0.out.below hk_).c2, (Y0.out.below hk_).c3, (Y0.out.below hk_).c4⟩) | (have hk_ := Below.refl (w0).heap.size (w0); with_reducible exact ⟨(X0.out.below hk_).c0, (X0.out.below hk_).c1, (X0.out.below hk_).c2, (X0.out.below hk_).c3, (X0.out.below hk_).c4, (Y0.out.below hk_).c0, (Y0.out.below hk_).c1, (Y0.out.below hk_).c2, (Y0.out.below hk_).c3, (Y0.out.below hk_).c4⟩) | (have hk_ := (Below.refl (w0).heap.size (w0)).drew; with_reducible exact ⟨(X0.out.below hk_).c0, (X0.out.below hk_).c1, (X0.out.below hk_).c2, (X0.out.below hk_).c3, (X0.out.below hk_).c4, (Y0.out.below hk_).c0, (Y0.out.below hk_).c1, (Y0.out.below hk_).c2, (Y0.out.below hk_).c3, (Y0.out.below hk_).c4⟩)) (first | (go_at_call 28; with_reducible refine (C.out.c1 _).mono ?_; rintro e w1 ⟨u1, rfl, hu1, hb1⟩; (first | have hq := below_trans hq hb1 | have hq := below_trans (Below.refl _ _).drew hb1 | have hq := hb1)) | (go_at_call 28; with_reducible refine (C.out.c2 _).mono ?_; rintro e w2 ⟨u2, rfl, hu2, hb2⟩; (first | have hq := below_trans hq hb2 | have hq := below_trans (Below.refl _ _).drew hb2 | have hq := hb2)) | (go_at_call 46; with_reducible refine (C.out.c3 _ _ _ (hu1.below hb2) hu2).mono ?_; rintro e w3 ⟨rfl, hb3⟩; (first | have hq := below_trans hq hb3 | have hq := below_trans (Below.refl _ _).drew hb3 | have hq := hb3)))
  obtain ⟨_, _, _, _, _⟩ := (X0.out.below hq).all
  rcases h with ⟨rfl, h⟩ | ⟨rfl, h⟩
  all_goals (
    (repeat any_goals (first | go_skip | go_guarded | go_step | go_upon | (simp only []; done)))
    go_ret
    exact ⟨by simp [← h], by (repeat first | with_reducible exact Below.refl _ _ | with_reducible assumption | with_reducible refine Below.drew ?_ | with_reducible refine below_alloc ?_ _ | ((with_reducible refine Below.setCell ?_ ?_ _); rotate_left; (focus (first | with_reducible exact Nat.le_refl _ | (simp; done) | (simp; omega) | omega))) | (with_reducible refine below_trans ?_ (by assumption)))⟩)
/-- **CmpInt**, of those that may be. -/
theorem RCmp_any (n : Bool) (V : Nat) (hV : V < 2 ^ 256) (m : Bool) (U : Nat) (hU : U < 2 ^ 256) (h1 : mayI n V = true) (h2 : mayI m U = true) (w : World) :
    Calls Tryz.prog 20 #[.agg #[.bool (n ), .int .u64 (lm ( V) 0 : Nat), .int .u64 (lm ( V) 1 : Nat), .int .u64 (lm ( V) 2 : Nat), .int .u64 (lm ( V) 3 : Nat)], .agg #[.bool (m ), .int .u64 (lm ( U) 0 : Nat), .int .u64 (lm ( U) 1 : Nat), .int .u64 (lm ( U) 2 : Nat), .int .u64 (lm ( U) 3 : Nat)]] w fun e w' => e = .returned (.int .i64 (cmpI n V m U)) ∧ Below w.heap.size w w' := by
  have C := RcC.mk (n := n) (m := m) (fun w => DOf_any V hV w) (fun w => DOf_any U hU w) (fun v1 v2 w a b => CmpI_any v1 v2 V U w a b)
  have e : cmpI n V m U = cmpZ (zI n V) (zI m U) := by unfold cmpI; rw [h1, h2]; rfl
  rw [e]
  cases n with
  | true =>
    have p1 := may_true.1 h1
    cases m with
    | true =>
      refine RCmp_same true V U _ _ w (Lib.hid C) (.inl ⟨rfl, ?_⟩)
      rw [zI_true, zI_true, cmpZ_neg, cmpV_neg]
      unfold cmpV
      split
      · simp [wrap64]
      · split <;> simp [wrap64]
    | false =>
      refine RCmp_walk true V false U _ _ w (Lib.hid C) (.inl ⟨rfl, rfl, ?_⟩)
      unfold cmpZ
      rw [if_pos (by rw [zI_true, zI_false]; omega)]
  | false =>
    cases m with
    | true =>
      have p2 := may_true.1 h2
      refine RCmp_walk false V true U _ _ w (Lib.hid C) (.inr ⟨rfl, rfl, ?_⟩)
      unfold cmpZ
      rw [if_neg (by rw [zI_true, zI_false]; omega), if_neg (by rw [zI_true, zI_false]; omega)]
    | false => exact RCmp_same false V U _ _ w (Lib.hid C) (.inr ⟨rfl, by rw [zI_false, zI_false, cmpZ_nn]⟩)
end Go.Proofs.YtekeedjhaakbhaaGreatDoor

namespace Go.Proofs.YtekeedjhaakbhaaGreatDoor
open Go.RowKit
set_option maxRecDepth 20000 in
set_option maxHeartbeats 800000 in
theorem Rwhole_no (v : Value) (n : Bool) (V : Nat) (w : World) (h : IsD w v V) (C : Hid (∀ w : World, IsD w v V → Calls Tryz.prog 69 #[v] w fun e w' => e = .returned (.tuple #[.agg #[.int .u64 (lm (0) 0 : Nat), .int .u64 (lm (0) 1 : Nat), .int .u64 (lm (0) 2 : Nat), .int .u64 (lm (0) 3 : Nat)], .bool false]) ∧ Below w.heap.size w w')) :
    Calls Tryz.prog 49 #[.bool n, v] w fun e w' => e = .returned (.tuple #[.agg #[.bool (false ), .int .u64 (lm ( 0) 0 : Nat), .int .u64 (lm ( 0) 1 : Nat), .int .u64 (lm ( 0) 2 : Nat), .int .u64 (lm ( 0) 3 : Nat)], .bool false]) ∧ Below w.heap.size w w' := by
  have H := Lib.hid h
  clear h
  go_enter Tryz.func49, Tryz.ntmps49
  repeat any_goals (first | (go_at_call 69; with_reducible refine (C.out _ (H.out.alloc _)).mono ?_; rintro e w1 ⟨rfl, hb1⟩; (first | have z1 := Lib.hid (zi_hb1 hb1) | have z1 := Lib.hid (zi_hb hb1)); obtain ⟨_, _, _, _, _⟩ := z1.out.all) | go_skip | go_guarded | go_step | go_upon | (dsimp only []))
  refine bodyPost_ret (v := .tuple #[.agg #[.bool (false ), .int .u64 (lm ( 0) 0 : Nat), .int .u64 (lm ( 0) 1 : Nat), .int .u64 (lm ( 0) 2 : Nat), .int .u64 (lm ( 0) 3 : Nat)], .bool false]) ?_ rfl ⟨rfl, by (repeat first | with_reducible exact Below.refl _ _ | with_reducible assumption | with_reducible refine Below.drew ?_ | with_reducible refine below_alloc ?_ _ | ((with_reducible refine Below.setCell ?_ ?_ _); rotate_left; (focus (first | with_reducible exact Nat.le_refl _ | (simp; done) | (simp; omega) | omega))) | (with_reducible refine below_trans ?_ (by assumption)))⟩
  simp [results, Tryz.results49, go_sem, lm_zero, *]
set_option maxRecDepth 20000 in
set_option maxHeartbeats 800000 in
theorem Rwhole_yes (v : Value) (n s : Bool) (V : Nat) (w : World) (h : IsD w v V) (C : Hid (∀ w : World, IsD w v V → Calls Tryz.prog 69 #[v] w fun e w' => e = .returned (.tuple #[.agg #[.int .u64 (lm (V) 0 : Nat), .int .u64 (lm (V) 1 : Nat), .int .u64 (lm (V) 2 : Nat), .int .u64 (lm (V) 3 : Nat)], .bool true]) ∧ Below w.heap.size w w')) (hs : n = false ∧ s = false ∨ n = true ∧ (!(((lm V 0 : Nat) : Int) == 0 && ((lm V 1 : Nat) : Int) == 0 && ((lm V 2 : Nat) : Int) == 0 && ((lm V 3 : Nat) : Int) == 0)) = s) :
    Calls Tryz.prog 49 #[.bool n, v] w fun e w' => e = .returned (.tuple #[.agg #[.bool (s ), .int .u64 (lm ( V) 0 : Nat), .int .u64 (lm ( V) 1 : Nat), .int .u64 (lm ( V) 2 : Nat), .int .u64 (lm ( V) 3 : Nat)], .bool true]) ∧ Below w.heap.size w w' := by
  have H := Lib.hid h
  clear h
  rcases hs with ⟨rfl, rfl⟩ | ⟨rfl, hs⟩
  · go_enter Tryz.func49, Tryz.ntmps49
    repeat any_goals (first | (go_at_call 69; with_reducible refine (C.out _ (H.out.alloc _)).mono ?_; rintro e w1 ⟨rfl, hb1⟩; (first | have z1 := Lib.hid (zi_hb1 hb1) | have z1 := Lib.hid (zi_hb hb1)); obtain ⟨_, _, _, _, _⟩ := z1.out.all) | go_skip | go_guarded | go_step | go_upon | (dsimp only []))
    (refine still_tail 8 (by kernel_rfl) (by kernel_rfl) ?_; simp only [List.take_succ_cons, List.take_zero, List.drop_succ_cons, List.drop_zero]; (repeat still_step); refine wpStill_nil ?_)
    repeat any_goals (first | go_skip | go_guarded | go_step | go_upon | (simp only []; done))
    refine bodyPost_ret (v := .tuple #[.agg #[.bool (false ), .int .u64 (lm ( V) 0 : Nat), .int .u64 (lm ( V) 1 : Nat), .int .u64 (lm ( V) 2 : Nat), .int .u64 (lm ( V) 3 : Nat)], .bool true]) ?_ rfl ⟨rfl, by (repeat first | with_reducible exact Below.refl _ _ | with_reducible assumption | with_reducible refine Below.drew ?_ | with_reducible refine below_alloc ?_ _ | ((with_reducible refine Below.setCell ?_ ?_ _); rotate_left; (focus (first | with_reducible exact Nat.le_refl _ | (simp; done) | (simp; omega) | omega))) | (with_reducible refine below_trans ?_ (by assumption)))⟩
    simp [results, Tryz.results49, go_sem, *]
  · go_enter Tryz.func49, Tryz.ntmps49
    repeat any_goals (first | (go_at_call 69; with_reducible refine (C.out _ (H.out.alloc _)).mono ?_; rintro e w1 ⟨rfl, hb1⟩; (first | have z1 := Lib.hid (zi_hb1 hb1) | have z1 := Lib.hid (zi_hb hb1)); obtain ⟨_, _, _, _, _⟩ := z1.out.all) | go_skip | go_guarded | go_step | go_upon | (dsimp only []))
    (refine still_tail 8 (by kernel_rfl) (by kernel_rfl) ?_; simp only [List.take_succ_cons, List.take_zero, List.drop_succ_cons, List.drop_zero]; (repeat still_step); refine wpStill_nil ?_)
    repeat any_goals (first | go_skip | go_guarded | go_step | go_upon | (simp only []; done))
    refine bodyPost_ret (v := .tuple #[.agg #[.bool (s ), .int .u64 (lm ( V) 0 : Nat), .int .u64 (lm ( V) 1 : Nat), .int .u64 (lm ( V) 2 : Nat), .int .u64 (lm ( V) 3 : Nat)], .bool true]) ?_ rfl ⟨rfl, by (repeat first | with_reducible exact Below.refl _ _ | with_reducible assumption | with_reducible refine Below.drew ?_ | with_reducible refine below_alloc ?_ _ | ((with_reducible refine Below.setCell ?_ ?_ _); rotate_left; (focus (first | with_reducible exact Nat.le_refl _ | (simp; done) | (simp; omega) | omega))) | (with_reducible refine below_trans ?_ (by assumption)))⟩
    simp [results, Tryz.results49, go_sem, *]
/-- **whole.** -/
theorem Rwhole_any (v : Value) (n : Bool) (V : Nat) (w : World) (h : IsD w v V) :
    Calls Tryz.prog 49 #[.bool n, v] w fun e w' => e = .returned (.tuple #[.agg #[.bool (n && decide (V < 2 ^ 256) && V != 0 ), .int .u64 (lm ( if V < 2 ^ 256 then V else 0) 0 : Nat), .int .u64 (lm ( if V < 2 ^ 256 then V else 0) 1 : Nat), .int .u64 (lm ( if V < 2 ^ 256 then V else 0) 2 : Nat), .int .u64 (lm ( if V < 2 ^ 256 then V else 0) 3 : Nat)], .bool (decide (V < 2 ^ 256))]) ∧ Below w.heap.size w w' := by
  have K := fun (w : World) (h : IsD w v V) => NatI_any v V w h
  by_cases c : V < 2 ^ 256
  · rw [decide_eq_true c, if_pos c] at K
    rw [decide_eq_true c, if_pos c, Bool.and_true]
    refine Rwhole_yes v n _ V w h (Lib.hid K) ?_
    cases n with
    | false => exact .inl ⟨rfl, rfl⟩
    | true => exact .inr ⟨rfl, by rw [lm_nz c, Bool.true_and]⟩
  · rw [decide_eq_false c, if_neg c] at K
    rw [decide_eq_false c, if_neg c, Bool.and_false, Bool.false_and]
    exact Rwhole_no v n V w h (Lib.hid K)
theorem ZI.drew {B : Nat} {w1 : World} (h : ZI w1 B) : ZI w1.drew B := h.below (Below.refl _ _).drew
set_option maxRecDepth 20000 in
/-- a slice of one digit -/
theorem one_digit (W : World) : IsD (W.alloc (.cells #[.int .u32 1] 67)) (.slice (some ⟨W.heap.size, 0, none⟩) 1 1) 1 := by
  have e : dl 1 = 1 := by decide
  unfold IsD
  rw [e]
  refine ⟨by decide, by decide, _, 1, rfl, Nat.le_refl _, by decide, fun _ => ⟨W.heap.size, rfl, by simp, fun j hj => ?_⟩⟩
  have hj0 : j = 0 := by omega
  subst hj0
  simp [go_sem, dig]
structure SeC (n up : Bool) (V P R : Nat) (m t s q : Bool) : Prop where
  c1 : ∀ w : World, Calls Tryz.prog 29 #[.agg #[.bool (n ), .int .u64 (lm ( V) 0 : Nat), .int .u64 (lm ( V) 1 : Nat), .int .u64 (lm ( V) 2 : Nat), .int .u64 (lm ( V) 3 : Nat)]] w fun e w' => e = .returned (.bool m) ∧ Below w.heap.size w w'
  c2 : ∀ w : World, Calls Tryz.prog 28 #[.agg #[.int .u64 (lm (V) 0 : Nat), .int .u64 (lm (V) 1 : Nat), .int .u64 (lm (V) 2 : Nat), .int .u64 (lm (V) 3 : Nat)]] w fun e w' => ∃ v, e = .returned v ∧ IsD w' v V ∧ Below w.heap.size w w'
  c3 : up ≠ n → ∀ (v1 v2 : Value) (w : World), IsD w v1 V → IsD w v2 1 → Calls Tryz.prog 48 #[v1, v2] w fun e w' => ∃ v, e = .returned v ∧ IsD w' v P ∧ Below w.heap.size w w'
  c4 : up = n → V ≠ 0 → ∀ (v1 v2 : Value) (w : World), IsD w v1 V → IsD w v2 1 → Calls Tryz.prog 52 #[v1, v2] w fun e w' => ∃ v, e = .returned v ∧ IsD w' v P ∧ Below w.heap.size w w'
  c5 : ∀ (v : Value) (w : World), IsD w v P → Calls Tryz.prog 49 #[.bool t, v] w fun e w' => e = .returned (.tuple #[.agg #[.bool (s ), .int .u64 (lm ( R) 0 : Nat), .int .u64 (lm ( R) 1 : Nat), .int .u64 (lm ( R) 2 : Nat), .int .u64 (lm ( R) 3 : Nat)], .bool q]) ∧ Below w.heap.size w w'
set_option maxRecDepth 20000 in
set_option maxHeartbeats 1600000 in
theorem RStep_no (n up : Bool) (V : Nat) (w : World) (C : Hid (∀ w : World, Calls Tryz.prog 29 #[.agg #[.bool (n ), .int .u64 (lm ( V) 0 : Nat), .int .u64 (lm ( V) 1 : Nat), .int .u64 (lm ( V) 2 : Nat), .int .u64 (lm ( V) 3 : Nat)]] w fun e w' => e = .returned (.bool false) ∧ Below w.heap.size w w')) :
    Calls Tryz.prog 43 #[.agg #[.bool (n ), .int .u64 (lm ( V) 0 : Nat), .int .u64 (lm ( V) 1 : Nat), .int .u64 (lm ( V) 2 : Nat), .int .u64 (lm ( V) 3 : Nat)], .bool up] w fun e w' => e = .returned (.tuple #[.agg #[.bool (false ), .int .u64 (lm ( 0) 0 : Nat), .int .u64 (lm ( 0) 1 : Nat), .int .u64 (lm ( 0) 2 : Nat), .int .u64 (lm ( 0) 3 : Nat)], .bool false]) ∧ Below w.heap.size w w' := by
  go_enter Tryz.func43, Tryz.ntmps43
  repeat any_goals (first | (go_at_call 29; with_reducible refine (C.out _).mono ?_; rintro e w1 ⟨rfl, hb1⟩; have a1 := Lib.hid (ibox_hb2 hb1); obtain ⟨_, _, _, _, _⟩ := a1.out.all; (first | have z1 := Lib.hid (zi_hb1 hb1) | have z1 := Lib.hid (zi_hb hb1)); obtain ⟨_, _, _, _, _⟩ := z1.out.all) | go_skip | go_guarded | go_step | go_upon | (dsimp only []))
  refine bodyPost_ret (v := .tuple #[.agg #[.bool (false ), .int .u64 (lm ( 0) 0 : Nat), .int .u64 (lm ( 0) 1 : Nat), .int .u64 (lm ( 0) 2 : Nat), .int .u64 (lm ( 0) 3 : Nat)], .bool false]) ?_ rfl ⟨rfl, by (repeat first | with_reducible exact Below.refl _ _ | with_reducible assumption | with_reducible refine Below.drew ?_ | with_reducible refine below_alloc ?_ _ | ((with_reducible refine Below.setCell ?_ ?_ _); rotate_left; (focus (first | with_reducible exact Nat.le_refl _ | (simp; done) | (simp; omega) | omega))) | (with_reducible refine below_trans ?_ (by assumption)))⟩
  simp [results, Tryz.results43, go_sem, lm_zero, *]
set_option maxRecDepth 20000 in
set_option maxHeartbeats 1600000 in
theorem RStep_zero (n up t : Bool) (V R : Nat) (s q : Bool) (w : World) (ht : (!up) = t) (hd : ((dl V : Nat) : Int) = 0) (C : Hid (SeC n up V 1 R true t s q)) :
    Calls Tryz.prog 43 #[.agg #[.bool (n ), .int .u64 (lm ( V) 0 : Nat), .int .u64 (lm ( V) 1 : Nat), .int .u64 (lm ( V) 2 : Nat), .int .u64 (lm ( V) 3 : Nat)], .bool up] w fun e w' => e = .returned (.tuple #[.agg #[.bool (s ), .int .u64 (lm ( R) 0 : Nat), .int .u64 (lm ( R) 1 : Nat), .int .u64 (lm ( R) 2 : Nat), .int .u64 (lm ( R) 3 : Nat)], .bool q]) ∧ Below w.heap.size w w' := by
  go_enter Tryz.func43, Tryz.ntmps43
  repeat any_goals (first | (go_at_call 29; with_reducible refine (C.out.c1 _).mono ?_; rintro e w1 ⟨rfl, hb1⟩; have a1 := Lib.hid (ibox_hb2 hb1); obtain ⟨_, _, _, _, _⟩ := a1.out.all; (first | have z1 := Lib.hid (zi_hb1 hb1) | have z1 := Lib.hid (zi_hb hb1)); obtain ⟨_, _, _, _, _⟩ := z1.out.all) | (go_at_call 28; (with_reducible refine (C.out.c2 _).mono ?_); rintro e w2 ⟨v2, rfl, hv2, hb2⟩; obtain ⟨_, _, q2, k2, rfl, _⟩ := id hv2; have H2 := Lib.hid hv2; clear hv2; have a2 := Lib.hid (a1.out.below hb2); have z2 := Lib.hid (z1.out.below hb2); obtain ⟨_, _, _, _, _⟩ := a2.out.all; obtain ⟨_, _, _, _, _⟩ := z2.out.all) | (go_at_call 49; with_reducible refine (C.out.c5 _ _ (one_digit _)).mono ?_; rintro e w3 ⟨rfl, hb3⟩; (first | have z3 := Lib.hid (z2.out.below hb3) | have z3 := Lib.hid (z2.out.step hb3) | have z3 := Lib.hid (z2.out.step2 hb3)); obtain ⟨_, _, _, _, _⟩ := z3.out.all) | go_skip | go_guarded | go_step | go_upon | (dsimp only []))
  refine bodyPost_ret (v := .tuple #[.agg #[.bool (s ), .int .u64 (lm ( R) 0 : Nat), .int .u64 (lm ( R) 1 : Nat), .int .u64 (lm ( R) 2 : Nat), .int .u64 (lm ( R) 3 : Nat)], .bool q]) ?_ rfl ⟨rfl, by (repeat first | with_reducible exact Below.refl _ _ | with_reducible assumption | with_reducible refine Below.drew ?_ | with_reducible refine below_alloc ?_ _ | ((with_reducible refine Below.setCell ?_ ?_ _); rotate_left; (focus (first | with_reducible exact Nat.le_refl _ | (simp; done) | (simp; omega) | omega))) | (with_reducible refine below_trans ?_ (by assumption)))⟩
  simp [results, Tryz.results43, go_sem, *]
set_option maxRecDepth 20000 in
set_option maxHeartbeats 3200000 in
theorem RStep_out (n up : Bool) (V P R : Nat) (s q : Bool) (w : World) (hu : up ≠ n) (hd : ¬ ((dl V : Nat) : Int) = 0) (C : Hid (SeC n up V P R true n s q)) :
    Calls Tryz.prog 43 #[.agg #[.bool (n ), .int .u64 (lm ( V) 0 : Nat), .int .u64 (lm ( V) 1 : Nat), .int .u64 (lm ( V) 2 : Nat), .int .u64 (lm ( V) 3 : Nat)], .bool up] w fun e w' => e = .returned (.tuple #[.agg #[.bool (s ), .int .u64 (lm ( R) 0 : Nat), .int .u64 (lm ( R) 1 : Nat), .int .u64 (lm ( R) 2 : Nat), .int .u64 (lm ( R) 3 : Nat)], .bool q]) ∧ Below w.heap.size w w' := by
  have hu2 : (up == n) = false := by simpa using hu
  have HU := Lib.hid hu
  clear hu
  go_enter Tryz.func43, Tryz.ntmps43
  go_upto_region 7 with (first | (go_at_call 29; with_reducible refine (C.out.c1 _).mono ?_; rintro e w1 ⟨rfl, hb1⟩; have a1 := Lib.hid (ibox_hb2 hb1); obtain ⟨_, _, _, _, _⟩ := a1.out.all; (first | have z1 := Lib.hid (zi_hb1 hb1) | have z1 := Lib.hid (zi_hb hb1)); obtain ⟨_, _, _, _, _⟩ := z1.out.all) | (go_at_call 28; (with_reducible refine (C.out.c2 _).mono ?_); rintro e w2 ⟨v2, rfl, hv2, hb2⟩; obtain ⟨_, _, q2, k2, rfl, _⟩ := id hv2; have H2 := Lib.hid hv2; clear hv2; have a2 := Lib.hid (a1.out.below hb2); have z2 := Lib.hid (z1.out.below hb2); obtain ⟨_, _, _, _, _⟩ := a2.out.all; obtain ⟨_, _, _, _, _⟩ := z2.out.all))
  go_region_with (first | (go_at_call 48; (with_reducible refine (C.out.c3 HU.out _ _ _ (by first | exact H2.out.alloc _ | exact (H2.out.alloc _).below (Below.refl _ _).drew | exact (H2.out.below (Below.refl _ _).drew).alloc _) (by first | exact one_digit _ | exact (one_digit _).below (Below.refl _ _).drew)).mono ?_); rintro e w3 ⟨v3, rfl, hv3, hb3⟩; (first | have a3 := Lib.hid ((a2.out.alloc _).below hb3) | have a3 := Lib.hid ((a2.out.alloc _).drew.below hb3) | have a3 := Lib.hid ((a2.out.drew.alloc _).below hb3)); (first | have z3 := Lib.hid ((z2.out.alloc _).below hb3) | have z3 := Lib.hid ((z2.out.alloc _).drew.below hb3) | have z3 := Lib.hid ((z2.out.drew.alloc _).below hb3)); obtain ⟨_, _, _, _, _⟩ := a3.out.all; obtain ⟨_, _, _, _, _⟩ := z3.out.all) | (go_at_call 49; (with_reducible refine (C.out.c5 _ _ hv3).mono ?_); rintro e w4 ⟨rfl, hb4⟩; have z4 := Lib.hid (z3.out.below hb4); obtain ⟨_, _, _, _, _⟩ := z4.out.all))
  all_goals (
    (repeat any_goals (first | go_skip | go_guarded | go_step | go_upon | (simp only []; done)))
    refine bodyPost_ret (v := .tuple #[.agg #[.bool (s ), .int .u64 (lm ( R) 0 : Nat), .int .u64 (lm ( R) 1 : Nat), .int .u64 (lm ( R) 2 : Nat), .int .u64 (lm ( R) 3 : Nat)], .bool q]) ?_ rfl ⟨rfl, by (repeat first | with_reducible exact Below.refl _ _ | with_reducible assumption | with_reducible refine Below.drew ?_ | with_reducible refine below_alloc ?_ _ | ((with_reducible refine Below.setCell ?_ ?_ _); rotate_left; (focus (first | with_reducible exact Nat.le_refl _ | (simp; done) | (simp; omega) | omega))) | (with_reducible refine below_trans ?_ (by assumption)))⟩
    simp [results, Tryz.results43, go_sem, *])
set_option maxRecDepth 20000 in
set_option maxHeartbeats 3200000 in
theorem RStep_in (n up : Bool) (V P R : Nat) (s q : Bool) (w : World) (hV0 : Hid (V ≠ 0)) (hu : up = n) (hd : ¬ ((dl V : Nat) : Int) = 0) (C : Hid (SeC n up V P R true n s q)) :
    Calls Tryz.prog 43 #[.agg #[.bool (n ), .int .u64 (lm ( V) 0 : Nat), .int .u64 (lm ( V) 1 : Nat), .int .u64 (lm ( V) 2 : Nat), .int .u64 (lm ( V) 3 : Nat)], .bool up] w fun e w' => e = .returned (.tuple #[.agg #[.bool (s ), .int .u64 (lm ( R) 0 : Nat), .int .u64 (lm ( R) 1 : Nat), .int .u64 (lm ( R) 2 : Nat), .int .u64 (lm ( R) 3 : Nat)], .bool q]) ∧ Below w.heap.size w w' := by
  have hu2 : (up == n) = true := by simpa using hu
  have HU := Lib.hid hu
  clear hu
  go_enter Tryz.func43, Tryz.ntmps43
  go_upto_region 8 with (first | (go_at_call 29; with_reducible refine (C.out.c1 _).mono ?_; rintro e w1 ⟨rfl, hb1⟩; have a1 := Lib.hid (ibox_hb2 hb1); obtain ⟨_, _, _, _, _⟩ := a1.out.all; (first | have z1 := Lib.hid (zi_hb1 hb1) | have z1 := Lib.hid (zi_hb hb1)); obtain ⟨_, _, _, _, _⟩ := z1.out.all) | (go_at_call 28; (with_reducible refine (C.out.c2 _).mono ?_); rintro e w2 ⟨v2, rfl, hv2, hb2⟩; obtain ⟨_, _, q2, k2, rfl, _⟩ := id hv2; have H2 := Lib.hid hv2; clear hv2; have a2 := Lib.hid (a1.out.below hb2); have z2 := Lib.hid (z1.out.below hb2); obtain ⟨_, _, _, _, _⟩ := a2.out.all; obtain ⟨_, _, _, _, _⟩ := z2.out.all))
  go_region_with (first | (go_at_call 52; (with_reducible refine (C.out.c4 HU.out hV0.out _ _ _ (by first | exact H2.out.alloc _ | exact (H2.out.alloc _).below (Below.refl _ _).drew | exact (H2.out.below (Below.refl _ _).drew).alloc _) (by first | exact one_digit _ | exact (one_digit _).below (Below.refl _ _).drew)).mono ?_); rintro e w3 ⟨v3, rfl, hv3, hb3⟩; (first | have a3 := Lib.hid ((a2.out.alloc _).below hb3) | have a3 := Lib.hid ((a2.out.alloc _).drew.below hb3) | have a3 := Lib.hid ((a2.out.drew.alloc _).below hb3)); (first | have z3 := Lib.hid ((z2.out.alloc _).below hb3) | have z3 := Lib.hid ((z2.out.alloc _).drew.below hb3) | have z3 := Lib.hid ((z2.out.drew.alloc _).below hb3)); obtain ⟨_, _, _, _, _⟩ := a3.out.all; obtain ⟨_, _, _, _, _⟩ := z3.out.all) | (go_at_call 49; (with_reducible refine (C.out.c5 _ _ hv3).mono ?_); rintro e w4 ⟨rfl, hb4⟩; have z4 := Lib.hid (z3.out.below hb4); obtain ⟨_, _, _, _, _⟩ := z4.out.all))
  all_goals (
    (repeat any_goals (first | go_skip | go_guarded | go_step | go_upon | (simp only []; done)))
    refine bodyPost_ret (v := .tuple #[.agg #[.bool (s ), .int .u64 (lm ( R) 0 : Nat), .int .u64 (lm ( R) 1 : Nat), .int .u64 (lm ( R) 2 : Nat), .int .u64 (lm ( R) 3 : Nat)], .bool q]) ?_ rfl ⟨rfl, by (repeat first | with_reducible exact Below.refl _ _ | with_reducible assumption | with_reducible refine Below.drew ?_ | with_reducible refine below_alloc ?_ _ | ((with_reducible refine Below.setCell ?_ ?_ _); rotate_left; (focus (first | with_reducible exact Nat.le_refl _ | (simp; done) | (simp; omega) | omega))) | (with_reducible refine below_trans ?_ (by assumption)))⟩
    simp [results, Tryz.results43, go_sem, *])
/-- **Step.** -/
theorem RStep_any (n up : Bool) (V : Nat) (hV : V < 2 ^ 256) (w : World) :
    Calls Tryz.prog 43 #[.agg #[.bool (n ), .int .u64 (lm ( V) 0 : Nat), .int .u64 (lm ( V) 1 : Nat), .int .u64 (lm ( V) 2 : Nat), .int .u64 (lm ( V) 3 : Nat)], .bool up] w fun e w' => e = .returned (.tuple #[.agg #[.bool (sg (nx (if up = true then 1 else -1) n V) ), .int .u64 (lm ( ab (nx (if up = true then 1 else -1) n V)) 0 : Nat), .int .u64 (lm ( ab (nx (if up = true then 1 else -1) n V)) 1 : Nat), .int .u64 (lm ( ab (nx (if up = true then 1 else -1) n V)) 2 : Nat), .int .u64 (lm ( ab (nx (if up = true then 1 else -1) n V)) 3 : Nat)], .bool (nxOk (if up = true then 1 else -1) n V)]) ∧ Below w.heap.size w w' := by
  have M := RMayI_any n V hV
  have O := fun w => DOf_any V hV w
  have hdl : dl V ≤ 8 := (dl_le_iff V 8).2 hV
  have A : ∀ (v1 v2 : Value) (w : World), IsD w v1 V → IsD w v2 1 → Calls Tryz.prog 48 #[v1, v2] w fun e w' => ∃ v, e = .returned v ∧ IsD w' v (V + 1) ∧ Below w.heap.size w w' := fun v1 v2 w h1 h2 => AddI_any v1 v2 V 1 w h1 h2 (by omega) (by decide)
  cases hm : mayI n V with
  | false =>
    rw [hm] at M
    obtain ⟨e1, e2⟩ := nx_no (d := if up = true then 1 else -1) hm
    rw [e1, e2]
    exact RStep_no n up V w (Lib.hid M)
  | true =>
    rw [hm] at M
    by_cases c : V = 0
    · subst c
      have hn : n = false := by
        cases n with
        | false => rfl
        | true => exact absurd hm (by decide)
      subst hn
      have e : nxOk (if up = true then 1 else -1) false 0 = true := by cases up <;> decide
      have e2 : nx (if up = true then 1 else -1) false 0 = if up = true then 1 else -1 := by
        unfold nx
        rw [if_pos e]
        cases up <;> rfl
      rw [e, e2]
      have K := RStep_zero false up (!up) 0 _ _ _ w rfl (by rw [dl_zero]; rfl) (Lib.hid (SeC.mk (up := up) (n := false) M O (fun _ => A) (fun _ h => absurd rfl h) (fun v w h => Rwhole_any v (!up) 1 w h)))
      cases up with
      | true => exact K
      | false => exact K
    · have hd : ¬ ((dl V : Nat) : Int) = 0 := by
        have := dl_pos (Nat.pos_of_ne_zero c)
        omega
      have S : ∀ (v1 v2 : Value) (w : World), IsD w v1 V → IsD w v2 1 → Calls Tryz.prog 52 #[v1, v2] w fun e w' => ∃ v, e = .returned v ∧ IsD w' v (V - 1) ∧ Below w.heap.size w w' := fun v1 v2 w h1 h2 => SubI_any v1 v2 V 1 w h1 h2 (by omega) (by omega)
      by_cases hu : up = n
      · have E : nxOk (if up = true then 1 else -1) n V = stOk V false ∧ nx (if up = true then 1 else -1) n V = zI n (stV V false) := by
          subst hu
          cases up with
          | true => exact nx_true_up c hV
          | false => exact nx_false_down c hV
        have e3 : stOk V false = true := decide_eq_true (Nat.pos_of_ne_zero c)
        have e4 : stV V false = V - 1 := by unfold stV; rw [if_pos e3]; rfl
        rw [E.1, E.2, sg_of, ab_zI, e3, e4]
        have K := fun (v : Value) (w : World) (h : IsD w v (V - 1)) => Rwhole_any v n (V - 1) w h
        have hlt : V - 1 < 2 ^ 256 := by omega
        rw [decide_eq_true hlt, if_pos hlt, Bool.and_true] at K
        exact RStep_in n up V (V - 1) _ _ _ w (Lib.hid c) hu hd (Lib.hid (SeC.mk M O (fun h => absurd hu h) (fun _ _ => S) K))
      · have E : nxOk (if up = true then 1 else -1) n V = stOk V true ∧ nx (if up = true then 1 else -1) n V = zI n (stV V true) := by
          cases up with
          | true =>
            cases n with
            | true => exact absurd rfl hu
            | false => exact nx_false_up V
          | false =>
            cases n with
            | true => exact nx_true_down c
            | false => exact absurd rfl hu
        have e3 : stOk V true = decide (V + 1 < 2 ^ 256) := rfl
        have e4 : stV V true = if V + 1 < 2 ^ 256 then V + 1 else 0 := by
          unfold stV
          rw [e3]
          by_cases d : V + 1 < 2 ^ 256
          · rw [if_pos d, if_pos (decide_eq_true d)]; rfl
          · rw [if_neg d, if_neg (by rw [decide_eq_true_eq]; exact d)]
        rw [E.1, E.2, sg_of, ab_zI, e3, e4]
        have K := fun (v : Value) (w : World) (h : IsD w v (V + 1)) => Rwhole_any v n (V + 1) w h
        have e5 : (n && decide (V + 1 < 2 ^ 256) && V + 1 != 0) = (n && (if V + 1 < 2 ^ 256 then V + 1 else 0) != 0) := by
          by_cases d : V + 1 < 2 ^ 256
          · rw [decide_eq_true d, if_pos d, Bool.and_true]
          · rw [decide_eq_false d, if_neg d, Bool.and_false, Bool.false_and]
            simp
        rw [e5] at K
        exact RStep_out n up V (V + 1) _ _ _ w hu hd (Lib.hid (SeC.mk M O (fun _ => A) (fun h => absurd h hu) K))
end Go.Proofs.YtekeedjhaakbhaaGreatDoor
