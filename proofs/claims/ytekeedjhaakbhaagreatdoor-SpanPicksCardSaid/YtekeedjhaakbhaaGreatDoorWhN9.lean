/- Contracts of package whole: step, Next, Prev. IBOX · Contracts of package whole: step, Next, Prev, by the number. IBOX -/
import Derived.Test.YtekeedjhaakbhaaGreatDoorWh9
import Derived.Test.YtekeedjhaakbhaaGreatDoorTail
import Derived.Test.YtekeedjhaakbhaaGreatDoorLexC
namespace Go.Proofs.YtekeedjhaakbhaaGreatDoor
open Go.RowKit
/-- '==' on two numbers with a sign. -/
def eqI (s t : Bool) (a0 a1 a2 a3 b0 b1 b2 b3 : Int) : Bool := s == t && (a0 == b0 && a1 == b1 && a2 == b2 && a3 == b3)
@[go_sem] theorem run_equalIn_int (d : Nat) (s : Bool) (a0 a1 a2 a3 : Int) (t : Bool) (b0 b1 b2 b3 : Int) (w : World) :
    (Op.equalIn (d + 3) 29 (.agg #[.bool s, .int .u64 a0, .int .u64 a1, .int .u64 a2, .int .u64 a3]) (.agg #[.bool t, .int .u64 b0, .int .u64 b1, .int .u64 b2, .int .u64 b3])).run Tryz.prog w = .ok (eqI s t a0 a1 a2 a3 b0 b1 b2 b3) w := by
  have h26 := @Tryz.underlying29
  have h24 := @Tryz.underlying27
  unfold Op.equalIn eqI
  simp only [Sem.run_bind, run_underlying h26, Result.andThen_ok]
  simp [go_sem]
  by_cases e : s = t <;> by_cases e0 : a0 = b0 <;> by_cases e1 : a1 = b1 <;> by_cases e2 : a2 = b2 <;> by_cases e3 : a3 = b3 <;> simp [e, e0, e1, e2, e3]
@[go_sem] theorem eqI_self (s : Bool) (a0 a1 a2 a3 : Int) : eqI s s a0 a1 a2 a3 a0 a1 a2 a3 = true := by simp [eqI]
@[go_sem] theorem eqI_tf (a0 a1 a2 a3 b0 b1 b2 b3 : Int) : eqI true false a0 a1 a2 a3 b0 b1 b2 b3 = false := rfl
@[go_sem] theorem eqI_ft (a0 a1 a2 a3 b0 b1 b2 b3 : Int) : eqI false true a0 a1 a2 a3 b0 b1 b2 b3 = false := rfl
theorem eqI_num {n m : Bool} {V U : Nat} (hV : V < 2 ^ 256) (hU : U < 2 ^ 256) : eqI n m (lm V 0 : Nat) (lm V 1 : Nat) (lm V 2 : Nat) (lm V 3 : Nat) (lm U 0 : Nat) (lm U 1 : Nat) (lm U 2 : Nat) (lm U 3 : Nat) = (n == m && V == U) := by
  unfold eqI
  by_cases c : V = U
  · subst c
    simp
  · rw [show (V == U) = false from by simpa using c, Bool.and_false, ← Bool.not_eq_true]
    intro h
    simp only [Bool.and_eq_true, beq_iff_eq] at h
    exact c (lm_inj hV hU (by omega) (by omega) (by omega) (by omega))
theorem eqI_zero {n : Bool} {V : Nat} (hV : V < 2 ^ 256) : eqI n false (lm V 0 : Nat) (lm V 1 : Nat) (lm V 2 : Nat) (lm V 3 : Nat) 0 0 0 0 = (!n && V == 0) := by
  unfold eqI
  rw [lm_z hV]
  cases n <;> rfl
theorem zi_new1 {w : World} {t : TypeId} {o : Obj} : ZI ((w.alloc o).alloc (.cells #[.bool false, .int .u64 0, .int .u64 0, .int .u64 0, .int .u64 0] t)) (w.heap.size + 1) := by
  have h := @zi_new (w.alloc o) t
  simpa using h
/-- what the calls of step answer -/
structure StC (n : Bool) (V A D R : Nat) (p q s : Bool) : Prop where
  c1 : ∀ w : World, Calls Tryz.prog 79 #[.int .u64 1] w fun e w' => e = .returned (.agg #[.int .u64 1, .int .u64 0, .int .u64 0, .int .u64 0]) ∧ Below w.heap.size w w'
  c2 : ∀ w : World, Calls Tryz.prog 76 #[.agg #[.int .u64 (lm (V) 0 : Nat), .int .u64 (lm (V) 1 : Nat), .int .u64 (lm (V) 2 : Nat), .int .u64 (lm (V) 3 : Nat)], .agg #[.int .u64 1, .int .u64 0, .int .u64 0, .int .u64 0]] w fun e w' => e = .returned (.tuple #[.agg #[.int .u64 (lm (A) 0 : Nat), .int .u64 (lm (A) 1 : Nat), .int .u64 (lm (A) 2 : Nat), .int .u64 (lm (A) 3 : Nat)], .bool p]) ∧ Below w.heap.size w w'
  c3 : ∀ w : World, Calls Tryz.prog 90 #[.agg #[.int .u64 (lm (V) 0 : Nat), .int .u64 (lm (V) 1 : Nat), .int .u64 (lm (V) 2 : Nat), .int .u64 (lm (V) 3 : Nat)], .agg #[.int .u64 1, .int .u64 0, .int .u64 0, .int .u64 0]] w fun e w' => e = .returned (.tuple #[.agg #[.int .u64 (lm (D) 0 : Nat), .int .u64 (lm (D) 1 : Nat), .int .u64 (lm (D) 2 : Nat), .int .u64 (lm (D) 3 : Nat)], .bool q]) ∧ Below w.heap.size w w'
  c4 : ∀ w : World, Calls Tryz.prog 77 #[.bool n, .agg #[.int .u64 (lm (R) 0 : Nat), .int .u64 (lm (R) 1 : Nat), .int .u64 (lm (R) 2 : Nat), .int .u64 (lm (R) 3 : Nat)]] w fun e w' => e = .returned (.agg #[.bool (s ), .int .u64 (lm ( R) 0 : Nat), .int .u64 (lm ( R) 1 : Nat), .int .u64 (lm ( R) 2 : Nat), .int .u64 (lm ( R) 3 : Nat)]) ∧ Below w.heap.size w w'
theorem set_far {w1 : World} {B k i j : Nat} {v : Value} (hk : B ≠ k) : (w1.setCell ⟨k, i, none⟩ v).cell? ⟨B, j, none⟩ = w1.cell? ⟨B, j, none⟩ := by
  have hn : (⟨k, i, none⟩ : Addr) ≠ ⟨B, j, none⟩ := fun e => by
    injection e with e1 _ _
    exact hk e1.symm
  have hn2 : (⟨B, j, none⟩ : Addr) ≠ ⟨k, i, none⟩ := fun e => by
    injection e with e1 _ _
    exact hk e1
  rw [set_other (by first | exact hn | exact hn2)]
theorem IBox.far {B V k i : Nat} {n : Bool} {v : Value} {w1 : World} (h : IBox w1 B n V) (hk : B ≠ k) : IBox (w1.setCell ⟨k, i, none⟩ v) B n V :=
  ⟨by rw [set_far hk]; exact h.c0, by rw [set_far hk]; exact h.c1, by rw [set_far hk]; exact h.c2, by rw [set_far hk]; exact h.c3, by rw [set_far hk]; exact h.c4, by simpa using h.l⟩
theorem ZI.far {B k i : Nat} {v : Value} {w1 : World} (h : ZI w1 B) (hk : B ≠ k) : ZI (w1.setCell ⟨k, i, none⟩ v) B :=
  ⟨by rw [set_far hk, World.frozen?_setCell]; exact h.z0, by rw [set_far hk, World.frozen?_setCell]; exact h.z1, by rw [set_far hk, World.frozen?_setCell]; exact h.z2, by rw [set_far hk, World.frozen?_setCell]; exact h.z3, by rw [set_far hk, World.frozen?_setCell]; exact h.z4, by simpa using h.l⟩
theorem ZB.boxF {B : Nat} {w1 : World} (h : ZB w1 B) : BoxF w1 B 0 := by
  have e : ∀ i, (lm 0 i : Int) = 0 := fun i => by rw [lm_zero]; rfl
  exact ⟨⟨by rw [e]; exact h.z0.1, by rw [e]; exact h.z1.1, by rw [e]; exact h.z2.1, by rw [e]; exact h.z3.1, h.l⟩, h.z0.2, h.z1.2, h.z2.2, h.z3.2⟩
set_option maxRecDepth 20000 in
set_option maxHeartbeats 3200000 in
theorem step_out (n : Bool) (V A D : Nat) (p q s : Bool) (w : World) (C : Hid (StC n V A D A p q s)) (hp : p = false → s = false ∧ A = 0) :
    Calls Tryz.prog 74 #[.agg #[.bool (n ), .int .u64 (lm ( V) 0 : Nat), .int .u64 (lm ( V) 1 : Nat), .int .u64 (lm ( V) 2 : Nat), .int .u64 (lm ( V) 3 : Nat)], .bool true] w fun e w' => e = .returned (.tuple #[.agg #[.bool (s ), .int .u64 (lm ( A) 0 : Nat), .int .u64 (lm ( A) 1 : Nat), .int .u64 (lm ( A) 2 : Nat), .int .u64 (lm ( A) 3 : Nat)], .bool p]) ∧ Below w.heap.size w w' := by
  go_enter Tryz.func74, Tryz.ntmps74
  go_upto_region 1 with fail
  have X0 : IBox ((w.alloc (.cells #[.bool n, .int .u64 (lm V 0 : Nat), .int .u64 (lm V 1 : Nat), .int .u64 (lm V 2 : Nat), .int .u64 (lm V 3 : Nat)] 29)).alloc (.cells #[.bool false, .int .u64 0, .int .u64 0, .int .u64 0, .int .u64 0] 29)) w.heap.size n V := ibox_new.alloc _
  have Z0 : ZI ((w.alloc (.cells #[.bool n, .int .u64 (lm V 0 : Nat), .int .u64 (lm V 1 : Nat), .int .u64 (lm V 2 : Nat), .int .u64 (lm V 3 : Nat)] 29)).alloc (.cells #[.bool false, .int .u64 0, .int .u64 0, .int .u64 0, .int .u64 0] 29)) (w.heap.size + 1) := zi_new1
  have hW : Below w.heap.size w ((w.alloc (.cells #[.bool n, .int .u64 (lm V 0 : Nat), .int .u64 (lm V 1 : Nat), .int .u64 (lm V 2 : Nat), .int .u64 (lm V 3 : Nat)] 29)).alloc (.cells #[.bool false, .int .u64 0, .int .u64 0, .int .u64 0, .int .u64 0] 29)) := by (repeat first | with_reducible exact Below.refl _ _ | with_reducible assumption | with_reducible refine Below.drew ?_ | with_reducible refine below_alloc ?_ _ | ((with_reducible refine Below.setCell ?_ ?_ _); rotate_left; (focus (first | with_reducible exact Nat.le_refl _ | (simp; done) | (simp; omega) | omega))) | (with_reducible refine below_trans ?_ (by assumption)))
  generalize (w.alloc (.cells #[.bool n, .int .u64 (lm V 0 : Nat), .int .u64 (lm V 1 : Nat), .int .u64 (lm V 2 : Nat), .int .u64 (lm V 3 : Nat)] 29)).alloc (.cells #[.bool false, .int .u64 0, .int .u64 0, .int .u64 0, .int .u64 0] 29) = w0 at *
  go_cut [6, 7] (fun s6 s7 wx => ∃ k : Nat, s6 = .pointer (some ⟨k, 0, none⟩) ∧ s7 = .bool p ∧ Box wx k A ∧ Below w0.heap.size w0 wx)
  case first =>
    have p4 := X0.l
    have hS0 := keepIB X0 (Below.refl _ _).drew
    go_region_held3 (fun w' => w'.cell? ⟨w.heap.size, 0, none⟩ = some (.bool n) ∧ w'.cell? ⟨w.heap.size, 1, none⟩ = some (.int .u64 (lm V 0 : Nat)) ∧ w'.cell? ⟨w.heap.size, 2, none⟩ = some (.int .u64 (lm V 1 : Nat)) ∧ w'.cell? ⟨w.heap.size, 3, none⟩ = some (.int .u64 (lm V 2 : Nat)) ∧ w'.cell? ⟨w.heap.size, 4, none⟩ = some (.int .u64 (lm V 3 : Nat)) ∧ w.heap.size < w'.heap.size ∧ Below w0.heap.size w0 w') (first | with_reducible assumption | with_reducible exact keepIS (by assumption) (by assumption) | with_reducible exact keepIN (by assumption) _ | with_reducible exact keepIN S5 _ | with_reducible exact keepIB X0 (below_alloc (Below.refl _ _) _).drew | with_reducible exact keepIC p4 (by first | exact Nat.le_refl _ | assumption | exact hb4.size | exact S4.2.2.2.2.2.2.size | exact S5.2.2.2.2.2.2.size) (by assumption)) (first | (go_at_call 79; with_reducible refine (C.out.c1 _).mono ?_; rintro e w4 ⟨rfl, hb4⟩; (first | have Z4 := zb_hb hb4 | have Z4 := zb_hd hb4 | skip); (first | have S4 := keepIS (keepIB X0 (below_alloc (Below.refl _ _) _).drew) hb4 | have S4 := keepIS hS0 hb4 | have S4 := keepIS (keepIN hS0 _) hb4)) | (go_at_call 76; with_reducible refine (C.out.c2 _).mono ?_; rintro e w5 ⟨rfl, hb5⟩; (first | have Z5 := zb_hb hb5 | have Z5 := Z4.below hb5 | skip); (first | have S5 := keepIS S4 hb5 | have S5 := keepIS (keepIN S4 _) hb5); (try obtain ⟨⟨_, _, _, _⟩, ⟨_, _, _, _⟩, _⟩ := Z5.all)))
    all_goals (have hk4 := S4.2.2.2.2.2.2.size; have hS5 := S5.2.2.2.2.2.2; (repeat any_goals (first | go_skip | go_guarded | go_step | go_upon | (simp only []; done))); go_meet; case rel => first | exact ⟨_, rfl, rfl, box_new, by (repeat first | with_reducible exact Below.refl _ _ | with_reducible assumption | with_reducible refine Below.drew ?_ | with_reducible refine below_alloc ?_ _ | ((with_reducible refine Below.setCell ?_ ?_ _); rotate_left; (focus (first | with_reducible exact Nat.le_refl _ | (simp; done) | (simp; omega) | omega))) | (with_reducible refine below_trans ?_ (by assumption)))⟩ | exact ⟨_, rfl, rfl, Z5.set, by (repeat first | with_reducible exact Below.refl _ _ | with_reducible assumption | with_reducible refine Below.drew ?_ | with_reducible refine below_alloc ?_ _ | ((with_reducible refine Below.setCell ?_ ?_ _); rotate_left; (focus (first | with_reducible exact Nat.le_refl _ | (simp; done) | (simp; omega) | omega))) | (with_reducible refine below_trans ?_ (by assumption)))⟩)
  case rest =>
    obtain ⟨k, rfl, rfl, S6, hb6⟩ := hcut
    have X6 := Lib.hid (X0.below hb6)
    have Z6 := Lib.hid (Z0.below hb6)
    have hW6 := below_trans hW hb6
    clear X0 Z0 hb6 hW
    obtain ⟨_, _, _, _, _⟩ := S6.all
    obtain ⟨_, _, _, _, _⟩ := X6.out.all
    obtain ⟨_, _, _, _, _⟩ := Z6.out.all
    cases p with
    | true =>
      repeat any_goals (first | (go_at_call 77; with_reducible refine (C.out.c4 _).mono ?_; rintro e w7 ⟨rfl, hb7⟩; (first | have Z7 := Lib.hid (Z6.out.below hb7) | have Z7 := Lib.hid (Z6.out.step hb7) | have Z7 := Lib.hid (Z6.out.step2 hb7)); obtain ⟨_, _, _, _, _⟩ := Z7.out.all) | go_skip | go_guarded | go_step | go_upon | (dsimp only []))
      refine bodyPost_ret (v := .tuple #[.agg #[.bool (s ), .int .u64 (lm ( A) 0 : Nat), .int .u64 (lm ( A) 1 : Nat), .int .u64 (lm ( A) 2 : Nat), .int .u64 (lm ( A) 3 : Nat)], .bool true]) ?_ rfl ⟨rfl, by (repeat first | with_reducible exact Below.refl _ _ | with_reducible assumption | with_reducible refine Below.drew ?_ | with_reducible refine below_alloc ?_ _ | ((with_reducible refine Below.setCell ?_ ?_ _); rotate_left; (focus (first | with_reducible exact Nat.le_refl _ | (simp; done) | (simp; omega) | omega))) | (with_reducible refine below_trans ?_ (by assumption)))⟩
      simp [results, Tryz.results74, go_sem, *]
    | false =>
      obtain ⟨rfl, rfl⟩ := hp rfl
      repeat any_goals (first | fail | go_skip | go_guarded | go_step | go_upon | (dsimp only []))
      refine bodyPost_ret (v := .tuple #[.agg #[.bool (false ), .int .u64 (lm ( 0) 0 : Nat), .int .u64 (lm ( 0) 1 : Nat), .int .u64 (lm ( 0) 2 : Nat), .int .u64 (lm ( 0) 3 : Nat)], .bool false]) ?_ rfl ⟨rfl, by (repeat first | with_reducible exact Below.refl _ _ | with_reducible assumption | with_reducible refine Below.drew ?_ | with_reducible refine below_alloc ?_ _ | ((with_reducible refine Below.setCell ?_ ?_ _); rotate_left; (focus (first | with_reducible exact Nat.le_refl _ | (simp; done) | (simp; omega) | omega))) | (with_reducible refine below_trans ?_ (by assumption)))⟩
      simp [results, Tryz.results74, go_sem, lm_zero, *]
set_option maxRecDepth 20000 in
set_option maxHeartbeats 3200000 in
theorem step_in (n : Bool) (V A D : Nat) (p q s : Bool) (w : World) (C : Hid (StC n V A D D p q s)) (hq : q = false → s = false ∧ D = 0) :
    Calls Tryz.prog 74 #[.agg #[.bool (n ), .int .u64 (lm ( V) 0 : Nat), .int .u64 (lm ( V) 1 : Nat), .int .u64 (lm ( V) 2 : Nat), .int .u64 (lm ( V) 3 : Nat)], .bool false] w fun e w' => e = .returned (.tuple #[.agg #[.bool (s ), .int .u64 (lm ( D) 0 : Nat), .int .u64 (lm ( D) 1 : Nat), .int .u64 (lm ( D) 2 : Nat), .int .u64 (lm ( D) 3 : Nat)], .bool q]) ∧ Below w.heap.size w w' := by
  go_enter Tryz.func74, Tryz.ntmps74
  go_upto_region 1 with fail
  have X0 : IBox ((w.alloc (.cells #[.bool n, .int .u64 (lm V 0 : Nat), .int .u64 (lm V 1 : Nat), .int .u64 (lm V 2 : Nat), .int .u64 (lm V 3 : Nat)] 29)).alloc (.cells #[.bool false, .int .u64 0, .int .u64 0, .int .u64 0, .int .u64 0] 29)) w.heap.size n V := ibox_new.alloc _
  have Z0 : ZI ((w.alloc (.cells #[.bool n, .int .u64 (lm V 0 : Nat), .int .u64 (lm V 1 : Nat), .int .u64 (lm V 2 : Nat), .int .u64 (lm V 3 : Nat)] 29)).alloc (.cells #[.bool false, .int .u64 0, .int .u64 0, .int .u64 0, .int .u64 0] 29)) (w.heap.size + 1) := zi_new1
  have hW : Below w.heap.size w ((w.alloc (.cells #[.bool n, .int .u64 (lm V 0 : Nat), .int .u64 (lm V 1 : Nat), .int .u64 (lm V 2 : Nat), .int .u64 (lm V 3 : Nat)] 29)).alloc (.cells #[.bool false, .int .u64 0, .int .u64 0, .int .u64 0, .int .u64 0] 29)) := by (repeat first | with_reducible exact Below.refl _ _ | with_reducible assumption | with_reducible refine Below.drew ?_ | with_reducible refine below_alloc ?_ _ | ((with_reducible refine Below.setCell ?_ ?_ _); rotate_left; (focus (first | with_reducible exact Nat.le_refl _ | (simp; done) | (simp; omega) | omega))) | (with_reducible refine below_trans ?_ (by assumption)))
  generalize (w.alloc (.cells #[.bool n, .int .u64 (lm V 0 : Nat), .int .u64 (lm V 1 : Nat), .int .u64 (lm V 2 : Nat), .int .u64 (lm V 3 : Nat)] 29)).alloc (.cells #[.bool false, .int .u64 0, .int .u64 0, .int .u64 0, .int .u64 0] 29) = w0 at *
  go_cut [6, 7] (fun s6 s7 wx => ∃ k : Nat, s6 = .pointer (some ⟨k, 0, none⟩) ∧ s7 = .bool p ∧ BoxF wx k A ∧ w0.heap.size ≤ k ∧ Below w0.heap.size w0 wx)
  case first =>
    have p4 := X0.l
    have hS0 := keepIB X0 (Below.refl _ _).drew
    go_region_held3 (fun w' => w'.cell? ⟨w.heap.size, 0, none⟩ = some (.bool n) ∧ w'.cell? ⟨w.heap.size, 1, none⟩ = some (.int .u64 (lm V 0 : Nat)) ∧ w'.cell? ⟨w.heap.size, 2, none⟩ = some (.int .u64 (lm V 1 : Nat)) ∧ w'.cell? ⟨w.heap.size, 3, none⟩ = some (.int .u64 (lm V 2 : Nat)) ∧ w'.cell? ⟨w.heap.size, 4, none⟩ = some (.int .u64 (lm V 3 : Nat)) ∧ w.heap.size < w'.heap.size ∧ Below w0.heap.size w0 w') (first | with_reducible assumption | with_reducible exact keepIS (by assumption) (by assumption) | with_reducible exact keepIN (by assumption) _ | with_reducible exact keepIN S5 _ | with_reducible exact keepIB X0 (below_alloc (Below.refl _ _) _).drew | with_reducible exact keepIC p4 (by first | exact Nat.le_refl _ | assumption | exact hb4.size | exact S4.2.2.2.2.2.2.size | exact S5.2.2.2.2.2.2.size) (by assumption)) (first | (go_at_call 79; with_reducible refine (C.out.c1 _).mono ?_; rintro e w4 ⟨rfl, hb4⟩; (first | have Z4 := zb_hb hb4 | have Z4 := zb_hd hb4 | skip); (first | have S4 := keepIS (keepIB X0 (below_alloc (Below.refl _ _) _).drew) hb4 | have S4 := keepIS hS0 hb4 | have S4 := keepIS (keepIN hS0 _) hb4)) | (go_at_call 76; with_reducible refine (C.out.c2 _).mono ?_; rintro e w5 ⟨rfl, hb5⟩; (first | have Z5 := zb_hb hb5 | have Z5 := Z4.below hb5 | skip); (first | have S5 := keepIS S4 hb5 | have S5 := keepIS (keepIN S4 _) hb5); (try obtain ⟨⟨_, _, _, _⟩, ⟨_, _, _, _⟩, _⟩ := Z5.all)))
    all_goals (have hk4 := S4.2.2.2.2.2.2.size; have hS5 := S5.2.2.2.2.2.2; (repeat any_goals (first | go_skip | go_guarded | go_step | go_upon | (simp only []; done))); go_meet; case rel => first | exact ⟨_, rfl, rfl, boxF_new, by first | exact Nat.le_refl _ | exact hk4 | exact hS5.size, by (repeat first | with_reducible exact Below.refl _ _ | with_reducible assumption | with_reducible refine Below.drew ?_ | with_reducible refine below_alloc ?_ _ | ((with_reducible refine Below.setCell ?_ ?_ _); rotate_left; (focus (first | with_reducible exact Nat.le_refl _ | (simp; done) | (simp; omega) | omega))) | (with_reducible refine below_trans ?_ (by assumption)))⟩ | exact ⟨_, rfl, rfl, Z5.boxF.set, by first | exact Nat.le_refl _ | exact hk4 | exact hS5.size, by (repeat first | with_reducible exact Below.refl _ _ | with_reducible assumption | with_reducible refine Below.drew ?_ | with_reducible refine below_alloc ?_ _ | ((with_reducible refine Below.setCell ?_ ?_ _); rotate_left; (focus (first | with_reducible exact Nat.le_refl _ | (simp; done) | (simp; omega) | omega))) | (with_reducible refine below_trans ?_ (by assumption)))⟩)
  case rest =>
    obtain ⟨k, rfl, rfl, S6, hk6, hb6⟩ := hcut
    have X6 := Lib.hid (X0.below hb6)
    have Z6 := Lib.hid (Z0.below hb6)
    have hW6 := below_trans hW hb6
    have hW0 := hW.size
    have hz0 := Z0.l
    clear X0 Z0 hb6 hW
    obtain ⟨_, _, _, _, _⟩ := S6.all
    obtain ⟨_, _, _, _, _⟩ := X6.out.all
    obtain ⟨_, _, _, _, _⟩ := Z6.out.all
    have hkW : w.heap.size ≤ k := Nat.le_trans hW0 hk6
    have hkn : w.heap.size ≠ k := by omega
    have hkm : w.heap.size + 1 ≠ k := by omega
    go_upto_region 3 with fail
    (obtain ⟨C_, hC⟩ : ∃ C_ : World → Prop, C_ = fun w' => Below (wc).heap.size (wc) w' := ⟨_, rfl⟩; have HC := Lib.hid hC; have hne : ∀ p : Prop, (∀ w1 : World, C_ w1 → p) = p := fun p => propext ⟨fun h => h (wc) (by rw [hC]; exact Below.refl _ _), fun h _ _ => h⟩; clear hC; refine wp_region_quiet_tail (C := C_) 4 3 (by kernel_rfl) (by kernel_rfl) (by rw [HC.out]; exact (Below.refl _ _).drew) ?_; simp only [List.take_succ_cons, List.take_zero, List.drop_succ_cons, List.drop_zero])
    (go_big_quiet_want; go_big_quiet_op; go_big_quiet_on)
    (go_big_quiet_want; refine ⟨.agg #[.int .u64 (lm (V) 0 : Nat), .int .u64 (lm (V) 1 : Nat), .int .u64 (lm (V) 2 : Nat), .int .u64 (lm (V) 3 : Nat)], fun w1 hw1 => ?_, ?_⟩; (rw [HC.out] at hw1; obtain ⟨_, _, _, _, _⟩ := (X6.out.below hw1).all; simp [Oper.quietAt, go_sem, *]); (try simp only [Act.put, List.setIfInBounds_toArray, List.set_cons_zero, List.set_cons_succ]); go_big_quiet_on)
    (go_big_quiet_want; go_big_quiet_op; refine ⟨.agg #[.int .u64 1, .int .u64 0, .int .u64 0, .int .u64 0], fun w1 hw1 => ?_, ?_⟩; (rw [HC.out] at hw1 ⊢; with_reducible refine (C.out.c1 _).mono ?_; rintro e w4 ⟨rfl, hb4⟩; exact ⟨rfl, below_trans hw1 hb4⟩); go_big_quiet_on)
    (go_big_quiet_want; go_big_quiet_op; refine ⟨.tuple #[.agg #[.int .u64 (lm (D) 0 : Nat), .int .u64 (lm (D) 1 : Nat), .int .u64 (lm (D) 2 : Nat), .int .u64 (lm (D) 3 : Nat)], .bool q], fun w1 hw1 => ?_, ?_⟩; (rw [HC.out] at hw1 ⊢; with_reducible refine (C.out.c3 _).mono ?_; rintro e w4 ⟨rfl, hb4⟩; exact ⟨rfl, below_trans hw1 hb4⟩); go_big_quiet_on)
    (refine wpQuiet_nil ?_; intro w2 hw2; rw [HC.out] at hw2)
    (refine ⟨.tuple #[.agg #[.int .u64 (lm (D) 0 : Nat), .int .u64 (lm (D) 1 : Nat), .int .u64 (lm (D) 2 : Nat), .int .u64 (lm (D) 3 : Nat)], .bool q], .inl ⟨rfl, fun _ => ?_⟩, ?_⟩; (simp [go_sem]); simp only [Act.put, List.setIfInBounds_toArray, List.set_cons_zero, List.set_cons_succ])
    (refine ⟨.agg #[.int .u64 (lm (D) 0 : Nat), .int .u64 (lm (D) 1 : Nat), .int .u64 (lm (D) 2 : Nat), .int .u64 (lm (D) 3 : Nat)], .inl ⟨rfl, fun _ => ?_⟩, ?_⟩; (simp [go_sem]); simp only [Act.put, List.setIfInBounds_toArray, List.set_cons_zero, List.set_cons_succ])
    (refine ⟨.bool q, .inl ⟨rfl, fun _ => ?_⟩, ?_⟩; (simp [go_sem]); simp only [Act.put, List.setIfInBounds_toArray, List.set_cons_zero, List.set_cons_succ])
    refine wpPure_nil ?_
    have S7 := S6.below hw2
    obtain ⟨_, _, _, _, _⟩ := S7.all
    repeat any_goals (first | go_skip | go_guarded | go_step | go_upon | (simp only []; done))
    refine NoPanic.normal ?_
    have K8 := Lib.hid (S7.set (V := D))
    have X8 := Lib.hid (((((X6.out.below hw2).far (k := k) (i := 0) (v := .int .u64 (lm D 0 : Nat)) hkn).far (k := k) (i := 1) (v := .int .u64 (lm D 1 : Nat)) hkn).far (k := k) (i := 2) (v := .int .u64 (lm D 2 : Nat)) hkn).far (k := k) (i := 3) (v := .int .u64 (lm D 3 : Nat)) hkn)
    have Z8 := Lib.hid (((((Z6.out.below hw2).far (k := k) (i := 0) (v := .int .u64 (lm D 0 : Nat)) hkm).far (k := k) (i := 1) (v := .int .u64 (lm D 1 : Nat)) hkm).far (k := k) (i := 2) (v := .int .u64 (lm D 2 : Nat)) hkm).far (k := k) (i := 3) (v := .int .u64 (lm D 3 : Nat)) hkm)
    have hW8 : Below w.heap.size w ((((w2.setCell ⟨k, 0, none⟩ (.int .u64 (lm D 0 : Nat))).setCell ⟨k, 1, none⟩ (.int .u64 (lm D 1 : Nat))).setCell ⟨k, 2, none⟩ (.int .u64 (lm D 2 : Nat))).setCell ⟨k, 3, none⟩ (.int .u64 (lm D 3 : Nat))) := by (repeat first | with_reducible exact Below.refl _ _ | with_reducible assumption | with_reducible refine Below.drew ?_ | with_reducible refine below_alloc ?_ _ | ((with_reducible refine Below.setCell ?_ ?_ _); rotate_left; (focus (first | with_reducible exact Nat.le_refl _ | (simp; done) | (simp; omega) | omega))) | (with_reducible refine below_trans ?_ (by assumption)))
    generalize (((w2.setCell ⟨k, 0, none⟩ (.int .u64 (lm D 0 : Nat))).setCell ⟨k, 1, none⟩ (.int .u64 (lm D 1 : Nat))).setCell ⟨k, 2, none⟩ (.int .u64 (lm D 2 : Nat))).setCell ⟨k, 3, none⟩ (.int .u64 (lm D 3 : Nat)) = w3 at *
    clear X6 Z6 S6 S7
    obtain ⟨_, _, _, _, _⟩ := K8.out.all
    obtain ⟨_, _, _, _, _⟩ := X8.out.all
    obtain ⟨_, _, _, _, _⟩ := Z8.out.all
    cases q with
    | true =>
      repeat any_goals (first | (go_at_call 77; with_reducible refine (C.out.c4 _).mono ?_; rintro e w7 ⟨rfl, hb7⟩; (first | have Z9 := Lib.hid (Z8.out.below hb7) | have Z9 := Lib.hid (Z8.out.step hb7) | have Z9 := Lib.hid (Z8.out.step2 hb7)); obtain ⟨_, _, _, _, _⟩ := Z9.out.all) | go_skip | go_guarded | go_step | go_upon | (dsimp only []))
      refine bodyPost_ret (v := .tuple #[.agg #[.bool (s ), .int .u64 (lm ( D) 0 : Nat), .int .u64 (lm ( D) 1 : Nat), .int .u64 (lm ( D) 2 : Nat), .int .u64 (lm ( D) 3 : Nat)], .bool true]) ?_ rfl ⟨rfl, by (repeat first | with_reducible exact Below.refl _ _ | with_reducible assumption | with_reducible refine Below.drew ?_ | with_reducible refine below_alloc ?_ _ | ((with_reducible refine Below.setCell ?_ ?_ _); rotate_left; (focus (first | with_reducible exact Nat.le_refl _ | (simp; done) | (simp; omega) | omega))) | (with_reducible refine below_trans ?_ (by assumption)))⟩
      simp [results, Tryz.results74, go_sem, *]
    | false =>
      obtain ⟨rfl, rfl⟩ := hq rfl
      repeat any_goals (first | fail | go_skip | go_guarded | go_step | go_upon | (dsimp only []))
      refine bodyPost_ret (v := .tuple #[.agg #[.bool (false ), .int .u64 (lm ( 0) 0 : Nat), .int .u64 (lm ( 0) 1 : Nat), .int .u64 (lm ( 0) 2 : Nat), .int .u64 (lm ( 0) 3 : Nat)], .bool false]) ?_ rfl ⟨rfl, by (repeat first | with_reducible exact Below.refl _ _ | with_reducible assumption | with_reducible refine Below.drew ?_ | with_reducible refine below_alloc ?_ _ | ((with_reducible refine Below.setCell ?_ ?_ _); rotate_left; (focus (first | with_reducible exact Nat.le_refl _ | (simp; done) | (simp; omega) | omega))) | (with_reducible refine below_trans ?_ (by assumption)))⟩
      simp [results, Tryz.results74, go_sem, lm_zero, *]
end Go.Proofs.YtekeedjhaakbhaaGreatDoor

namespace Go.Proofs.YtekeedjhaakbhaaGreatDoor
open Go.RowKit
/-- **step.** -/
theorem step_any (n : Bool) (V : Nat) (hV : V < 2 ^ 256) (out : Bool) (w : World) :
    Calls Tryz.prog 74 #[.agg #[.bool (n ), .int .u64 (lm ( V) 0 : Nat), .int .u64 (lm ( V) 1 : Nat), .int .u64 (lm ( V) 2 : Nat), .int .u64 (lm ( V) 3 : Nat)], .bool out] w fun e w' => e = .returned (.tuple #[.agg #[.bool (n && stV V out != 0 ), .int .u64 (lm ( stV V out) 0 : Nat), .int .u64 (lm ( stV V out) 1 : Nat), .int .u64 (lm ( stV V out) 2 : Nat), .int .u64 (lm ( stV V out) 3 : Nat)], .bool (stOk V out)]) ∧ Below w.heap.size w w' := by
  have c1 : ∀ w : World, Calls Tryz.prog 79 #[.int .u64 1] w fun e w' => e = .returned (.agg #[.int .u64 1, .int .u64 0, .int .u64 0, .int .u64 0]) ∧ Below w.heap.size w w' := fun w => Of_any 1 w
  obtain ⟨q0, q1, q2, q3⟩ := lm_small (d := 1) (by decide)
  have c2 := Add_any V 1 hV (by decide)
  have c3 := Sub_any V 1 hV (by decide)
  rw [q0, q1, q2, q3] at c2 c3
  cases out with
  | true =>
    have e1 : stOk V true = decide (V + 1 < 2 ^ 256) := rfl
    have e2 : stV V true = if V + 1 < 2 ^ 256 then V + 1 else 0 := by
      unfold stV
      rw [e1]
      by_cases c : V + 1 < 2 ^ 256
      · rw [if_pos c, if_pos (decide_eq_true c)]; rfl
      · rw [if_neg c, if_neg (by rw [decide_eq_true_eq]; exact c)]
    have hR : stV V true < 2 ^ 256 := by rw [e2]; split <;> omega
    rw [← e1, ← e2] at c2
    refine step_out n V _ _ _ _ _ w (Lib.hid (StC.mk c1 c2 c3 (of_any n (stV V true) hR))) fun h => ?_
    have e3 : stV V true = 0 := by unfold stV; rw [h]; rfl
    exact ⟨by rw [e3, Bool.and_eq_false_iff]; exact .inr rfl, e3⟩
  | false =>
    have e1 : stOk V false = decide (1 ≤ V) := rfl
    have e2 : stV V false = V - 1 := by
      unfold stV
      rw [e1]
      by_cases c : 1 ≤ V
      · rw [if_pos (decide_eq_true c)]; rfl
      · rw [if_neg (by rw [decide_eq_true_eq]; exact c)]; omega
    have hR : stV V false < 2 ^ 256 := by rw [e2]; omega
    rw [← e1, ← e2] at c3
    refine step_in n V _ _ _ _ _ w (Lib.hid (StC.mk c1 c2 c3 (of_any n (stV V false) hR))) fun h => ?_
    have e3 : stV V false = 0 := by unfold stV; rw [h]; rfl
    exact ⟨by rw [e3, Bool.and_eq_false_iff]; exact .inr rfl, e3⟩
/-- what the calls of Next, Prev answer -/
structure NxC (n out : Bool) (V R : Nat) (m s q : Bool) : Prop where
  c1 : ∀ w : World, Calls Tryz.prog 23 #[.agg #[.bool (n ), .int .u64 (lm ( V) 0 : Nat), .int .u64 (lm ( V) 1 : Nat), .int .u64 (lm ( V) 2 : Nat), .int .u64 (lm ( V) 3 : Nat)]] w fun e w' => e = .returned (.bool m) ∧ Below w.heap.size w w'
  c2 : m = true → ∀ w : World, Calls Tryz.prog 74 #[.agg #[.bool (n ), .int .u64 (lm ( V) 0 : Nat), .int .u64 (lm ( V) 1 : Nat), .int .u64 (lm ( V) 2 : Nat), .int .u64 (lm ( V) 3 : Nat)], .bool out] w fun e w' => e = .returned (.tuple #[.agg #[.bool (s ), .int .u64 (lm ( R) 0 : Nat), .int .u64 (lm ( R) 1 : Nat), .int .u64 (lm ( R) 2 : Nat), .int .u64 (lm ( R) 3 : Nat)], .bool q]) ∧ Below w.heap.size w w'
set_option maxRecDepth 20000 in
set_option maxHeartbeats 1600000 in
theorem Next_walk (n out : Bool) (V R : Nat) (m s q : Bool) (w : World) (ho : (!n) = out) (C : Hid (NxC n out V R m s q)) (hm : m = false → s = false ∧ R = 0 ∧ q = false) :
    Calls Tryz.prog 64 #[.agg #[.bool (n ), .int .u64 (lm ( V) 0 : Nat), .int .u64 (lm ( V) 1 : Nat), .int .u64 (lm ( V) 2 : Nat), .int .u64 (lm ( V) 3 : Nat)]] w fun e w' => e = .returned (.tuple #[.agg #[.bool (s ), .int .u64 (lm ( R) 0 : Nat), .int .u64 (lm ( R) 1 : Nat), .int .u64 (lm ( R) 2 : Nat), .int .u64 (lm ( R) 3 : Nat)], .bool q]) ∧ Below w.heap.size w w' := by
  cases m with
  | true =>
    go_enter Tryz.func64, Tryz.ntmps64
    repeat any_goals (first | (go_at_call 23; with_reducible refine (C.out.c1 _).mono ?_; rintro e w1 ⟨rfl, hb1⟩; have a1 := Lib.hid (ibox_hb2 hb1); obtain ⟨_, _, _, _, _⟩ := a1.out.all; (first | have z1 := Lib.hid (zi_hb1 hb1) | have z1 := Lib.hid (zi_hb hb1)); obtain ⟨_, _, _, _, _⟩ := z1.out.all) | (go_at_call 74; with_reducible refine (C.out.c2 rfl _).mono ?_; rintro e w2 ⟨rfl, hb2⟩; (first | have a2 := Lib.hid (a1.out.below hb2) | have a2 := Lib.hid (a1.out.step hb2) | have a2 := Lib.hid (a1.out.step2 hb2)); obtain ⟨_, _, _, _, _⟩ := a2.out.all; (first | have z2 := Lib.hid (z1.out.below hb2) | have z2 := Lib.hid (z1.out.step hb2) | have z2 := Lib.hid (z1.out.step2 hb2)); obtain ⟨_, _, _, _, _⟩ := z2.out.all) | go_skip | go_guarded | go_step | go_upon | (dsimp only []))
    refine bodyPost_ret (v := .tuple #[.agg #[.bool (s ), .int .u64 (lm ( R) 0 : Nat), .int .u64 (lm ( R) 1 : Nat), .int .u64 (lm ( R) 2 : Nat), .int .u64 (lm ( R) 3 : Nat)], .bool q]) ?_ rfl ⟨rfl, by (repeat first | with_reducible exact Below.refl _ _ | with_reducible assumption | with_reducible refine Below.drew ?_ | with_reducible refine below_alloc ?_ _ | ((with_reducible refine Below.setCell ?_ ?_ _); rotate_left; (focus (first | with_reducible exact Nat.le_refl _ | (simp; done) | (simp; omega) | omega))) | (with_reducible refine below_trans ?_ (by assumption)))⟩
    simp [results, Tryz.results64, go_sem, *]
  | false =>
    obtain ⟨rfl, rfl, rfl⟩ := hm rfl
    go_enter Tryz.func64, Tryz.ntmps64
    repeat any_goals (first | (go_at_call 23; with_reducible refine (C.out.c1 _).mono ?_; rintro e w1 ⟨rfl, hb1⟩; have a1 := Lib.hid (ibox_hb2 hb1); obtain ⟨_, _, _, _, _⟩ := a1.out.all; (first | have z1 := Lib.hid (zi_hb1 hb1) | have z1 := Lib.hid (zi_hb hb1)); obtain ⟨_, _, _, _, _⟩ := z1.out.all) | go_skip | go_guarded | go_step | go_upon | (dsimp only []))
    refine bodyPost_ret (v := .tuple #[.agg #[.bool (false ), .int .u64 (lm ( 0) 0 : Nat), .int .u64 (lm ( 0) 1 : Nat), .int .u64 (lm ( 0) 2 : Nat), .int .u64 (lm ( 0) 3 : Nat)], .bool false]) ?_ rfl ⟨rfl, by (repeat first | with_reducible exact Below.refl _ _ | with_reducible assumption | with_reducible refine Below.drew ?_ | with_reducible refine below_alloc ?_ _ | ((with_reducible refine Below.setCell ?_ ?_ _); rotate_left; (focus (first | with_reducible exact Nat.le_refl _ | (simp; done) | (simp; omega) | omega))) | (with_reducible refine below_trans ?_ (by assumption)))⟩
    simp [results, Tryz.results64, go_sem, lm_zero, *]
set_option maxRecDepth 20000 in
set_option maxHeartbeats 1600000 in
theorem Prev_true (V R : Nat) (m s q : Bool) (w : World) (C : Hid (NxC true true V R m s q)) (hm : m = false → s = false ∧ R = 0 ∧ q = false) :
    Calls Tryz.prog 63 #[.agg #[.bool (true ), .int .u64 (lm ( V) 0 : Nat), .int .u64 (lm ( V) 1 : Nat), .int .u64 (lm ( V) 2 : Nat), .int .u64 (lm ( V) 3 : Nat)]] w fun e w' => e = .returned (.tuple #[.agg #[.bool (s ), .int .u64 (lm ( R) 0 : Nat), .int .u64 (lm ( R) 1 : Nat), .int .u64 (lm ( R) 2 : Nat), .int .u64 (lm ( R) 3 : Nat)], .bool q]) ∧ Below w.heap.size w w' := by
  cases m with
  | true =>
    go_enter Tryz.func63, Tryz.ntmps63
    repeat any_goals (first | (go_at_call 23; with_reducible refine (C.out.c1 _).mono ?_; rintro e w1 ⟨rfl, hb1⟩; have a1 := Lib.hid (ibox_hb2 hb1); obtain ⟨_, _, _, _, _⟩ := a1.out.all; (first | have z1 := Lib.hid (zi_hb1 hb1) | have z1 := Lib.hid (zi_hb hb1)); obtain ⟨_, _, _, _, _⟩ := z1.out.all) | (go_at_call 74; with_reducible refine (C.out.c2 rfl _).mono ?_; rintro e w2 ⟨rfl, hb2⟩; (first | have a2 := Lib.hid (a1.out.below hb2) | have a2 := Lib.hid (a1.out.step hb2) | have a2 := Lib.hid (a1.out.step2 hb2)); obtain ⟨_, _, _, _, _⟩ := a2.out.all; (first | have z2 := Lib.hid (z1.out.below hb2) | have z2 := Lib.hid (z1.out.step hb2) | have z2 := Lib.hid (z1.out.step2 hb2)); obtain ⟨_, _, _, _, _⟩ := z2.out.all) | go_skip | go_guarded | go_step | go_upon | (dsimp only []))
    refine bodyPost_ret (v := .tuple #[.agg #[.bool (s ), .int .u64 (lm ( R) 0 : Nat), .int .u64 (lm ( R) 1 : Nat), .int .u64 (lm ( R) 2 : Nat), .int .u64 (lm ( R) 3 : Nat)], .bool q]) ?_ rfl ⟨rfl, by (repeat first | with_reducible exact Below.refl _ _ | with_reducible assumption | with_reducible refine Below.drew ?_ | with_reducible refine below_alloc ?_ _ | ((with_reducible refine Below.setCell ?_ ?_ _); rotate_left; (focus (first | with_reducible exact Nat.le_refl _ | (simp; done) | (simp; omega) | omega))) | (with_reducible refine below_trans ?_ (by assumption)))⟩
    simp [results, Tryz.results63, go_sem, *]
  | false =>
    obtain ⟨rfl, rfl, rfl⟩ := hm rfl
    go_enter Tryz.func63, Tryz.ntmps63
    repeat any_goals (first | (go_at_call 23; with_reducible refine (C.out.c1 _).mono ?_; rintro e w1 ⟨rfl, hb1⟩; have a1 := Lib.hid (ibox_hb2 hb1); obtain ⟨_, _, _, _, _⟩ := a1.out.all; (first | have z1 := Lib.hid (zi_hb1 hb1) | have z1 := Lib.hid (zi_hb hb1)); obtain ⟨_, _, _, _, _⟩ := z1.out.all) | go_skip | go_guarded | go_step | go_upon | (dsimp only []))
    refine bodyPost_ret (v := .tuple #[.agg #[.bool (false ), .int .u64 (lm ( 0) 0 : Nat), .int .u64 (lm ( 0) 1 : Nat), .int .u64 (lm ( 0) 2 : Nat), .int .u64 (lm ( 0) 3 : Nat)], .bool false]) ?_ rfl ⟨rfl, by (repeat first | with_reducible exact Below.refl _ _ | with_reducible assumption | with_reducible refine Below.drew ?_ | with_reducible refine below_alloc ?_ _ | ((with_reducible refine Below.setCell ?_ ?_ _); rotate_left; (focus (first | with_reducible exact Nat.le_refl _ | (simp; done) | (simp; omega) | omega))) | (with_reducible refine below_trans ?_ (by assumption)))⟩
    simp [results, Tryz.results63, go_sem, lm_zero, *]
set_option maxRecDepth 20000 in
set_option maxHeartbeats 1600000 in
theorem Prev_false (V R : Nat) (s q : Bool) (w : World) (hz : (((lm V 0 : Nat) : Int) == 0 && ((lm V 1 : Nat) : Int) == 0 && ((lm V 2 : Nat) : Int) == 0 && ((lm V 3 : Nat) : Int) == 0) = false) (C : Hid (NxC false false V R true s q)) :
    Calls Tryz.prog 63 #[.agg #[.bool (false ), .int .u64 (lm ( V) 0 : Nat), .int .u64 (lm ( V) 1 : Nat), .int .u64 (lm ( V) 2 : Nat), .int .u64 (lm ( V) 3 : Nat)]] w fun e w' => e = .returned (.tuple #[.agg #[.bool (s ), .int .u64 (lm ( R) 0 : Nat), .int .u64 (lm ( R) 1 : Nat), .int .u64 (lm ( R) 2 : Nat), .int .u64 (lm ( R) 3 : Nat)], .bool q]) ∧ Below w.heap.size w w' := by
  go_enter Tryz.func63, Tryz.ntmps63
  repeat any_goals (first | (go_at_call 23; with_reducible refine (C.out.c1 _).mono ?_; rintro e w1 ⟨rfl, hb1⟩; have a1 := Lib.hid (ibox_hb2 hb1); obtain ⟨_, _, _, _, _⟩ := a1.out.all; (first | have z1 := Lib.hid (zi_hb1 hb1) | have z1 := Lib.hid (zi_hb hb1)); obtain ⟨_, _, _, _, _⟩ := z1.out.all) | (go_at_call 74; with_reducible refine (C.out.c2 rfl _).mono ?_; rintro e w2 ⟨rfl, hb2⟩; (first | have a2 := Lib.hid (a1.out.below hb2) | have a2 := Lib.hid (a1.out.step hb2) | have a2 := Lib.hid (a1.out.step2 hb2)); obtain ⟨_, _, _, _, _⟩ := a2.out.all; (first | have z2 := Lib.hid (z1.out.below hb2) | have z2 := Lib.hid (z1.out.step hb2) | have z2 := Lib.hid (z1.out.step2 hb2)); obtain ⟨_, _, _, _, _⟩ := z2.out.all) | go_skip | go_guarded | go_step | go_upon | (dsimp only []))
  refine bodyPost_ret (v := .tuple #[.agg #[.bool (s ), .int .u64 (lm ( R) 0 : Nat), .int .u64 (lm ( R) 1 : Nat), .int .u64 (lm ( R) 2 : Nat), .int .u64 (lm ( R) 3 : Nat)], .bool q]) ?_ rfl ⟨rfl, by (repeat first | with_reducible exact Below.refl _ _ | with_reducible assumption | with_reducible refine Below.drew ?_ | with_reducible refine below_alloc ?_ _ | ((with_reducible refine Below.setCell ?_ ?_ _); rotate_left; (focus (first | with_reducible exact Nat.le_refl _ | (simp; done) | (simp; omega) | omega))) | (with_reducible refine below_trans ?_ (by assumption)))⟩
  simp [results, Tryz.results63, go_sem, *]
set_option maxRecDepth 20000 in
set_option maxHeartbeats 1600000 in
theorem Prev_zero (w : World) (C : Hid (∀ w : World, Calls Tryz.prog 73 #[.int .i64 (-1)] w fun e w' => e = .returned (.agg #[.bool true, .int .u64 1, .int .u64 0, .int .u64 0, .int .u64 0]) ∧ Below w.heap.size w w')) :
    Calls Tryz.prog 63 #[.agg #[.bool false, .int .u64 0, .int .u64 0, .int .u64 0, .int .u64 0]] w fun e w' => e = .returned (.tuple #[.agg #[.bool true, .int .u64 1, .int .u64 0, .int .u64 0, .int .u64 0], .bool true]) ∧ Below w.heap.size w w' := by
  go_enter Tryz.func63, Tryz.ntmps63
  repeat any_goals (first | (go_at_call 73; with_reducible refine (C.out _).mono ?_; rintro e w1 ⟨rfl, hb1⟩; (first | have z1 := Lib.hid (zi_hb1 hb1) | have z1 := Lib.hid (zi_hb hb1)); obtain ⟨_, _, _, _, _⟩ := z1.out.all) | go_skip | go_guarded | go_step | go_upon | (dsimp only []))
  refine bodyPost_ret (v := .tuple #[.agg #[.bool true, .int .u64 1, .int .u64 0, .int .u64 0, .int .u64 0], .bool true]) ?_ rfl ⟨rfl, by (repeat first | with_reducible exact Below.refl _ _ | with_reducible assumption | with_reducible refine Below.drew ?_ | with_reducible refine below_alloc ?_ _ | ((with_reducible refine Below.setCell ?_ ?_ _); rotate_left; (focus (first | with_reducible exact Nat.le_refl _ | (simp; done) | (simp; omega) | omega))) | (with_reducible refine below_trans ?_ (by assumption)))⟩
  simp [results, Tryz.results63, go_sem, *]
/-- **Next.** -/
theorem Next_any (n : Bool) (V : Nat) (hV : V < 2 ^ 256) (w : World) :
    Calls Tryz.prog 64 #[.agg #[.bool (n ), .int .u64 (lm ( V) 0 : Nat), .int .u64 (lm ( V) 1 : Nat), .int .u64 (lm ( V) 2 : Nat), .int .u64 (lm ( V) 3 : Nat)]] w fun e w' => e = .returned (.tuple #[.agg #[.bool (sg (nx 1 n V) ), .int .u64 (lm ( ab (nx 1 n V)) 0 : Nat), .int .u64 (lm ( ab (nx 1 n V)) 1 : Nat), .int .u64 (lm ( ab (nx 1 n V)) 2 : Nat), .int .u64 (lm ( ab (nx 1 n V)) 3 : Nat)], .bool (nxOk 1 n V)]) ∧ Below w.heap.size w w' := by
  have hs := step_any n V hV (!n)
  cases hm : mayI n V with
  | false =>
    obtain ⟨e1, e2⟩ := nx_no (d := 1) hm
    have hn : n = true := by
      cases n with
      | true => rfl
      | false => exact absurd hm (by simp [may_false])
    subst hn
    have hV0 := may_true_no.1 hm
    subst hV0
    rw [e1, e2]
    have M := May_any true 0 hV
    rw [hm] at M
    exact Next_walk true false 0 0 false false false w rfl (Lib.hid (NxC.mk M fun h => absurd h (by decide))) (fun _ => ⟨rfl, rfl, rfl⟩)
  | true =>
    have M := May_any n V hV
    rw [hm] at M
    have E : nxOk 1 n V = stOk V (!n) ∧ nx 1 n V = zI n (stV V (!n)) := by
      cases n with
      | false => exact nx_false_up V
      | true => exact nx_true_up (may_true.1 hm) hV
    rw [E.1, E.2, sg_of, ab_zI]
    exact Next_walk n (!n) V _ true _ _ w rfl (Lib.hid (NxC.mk M fun _ => hs)) (fun h => absurd h (by decide))
/-- **Prev.** -/
theorem Prev_any (n : Bool) (V : Nat) (hV : V < 2 ^ 256) (w : World) :
    Calls Tryz.prog 63 #[.agg #[.bool (n ), .int .u64 (lm ( V) 0 : Nat), .int .u64 (lm ( V) 1 : Nat), .int .u64 (lm ( V) 2 : Nat), .int .u64 (lm ( V) 3 : Nat)]] w fun e w' => e = .returned (.tuple #[.agg #[.bool (sg (nx (-1) n V) ), .int .u64 (lm ( ab (nx (-1) n V)) 0 : Nat), .int .u64 (lm ( ab (nx (-1) n V)) 1 : Nat), .int .u64 (lm ( ab (nx (-1) n V)) 2 : Nat), .int .u64 (lm ( ab (nx (-1) n V)) 3 : Nat)], .bool (nxOk (-1) n V)]) ∧ Below w.heap.size w w' := by
  have hs := step_any n V hV n
  by_cases c : n = false ∧ V = 0
  · obtain ⟨rfl, rfl⟩ := c
    rw [nx_zero_down.1, nx_zero_down.2, lm_zero, lm_zero, lm_zero, lm_zero]
    have O := OfI_any (-1) (by decide) (by decide)
    exact Prev_zero w (Lib.hid O)
  · cases hm : mayI n V with
    | false =>
      obtain ⟨e1, e2⟩ := nx_no (d := -1) hm
      have hn : n = true := by
        cases n with
        | true => rfl
        | false => exact absurd hm (by simp [may_false])
      subst hn
      have hV0 := may_true_no.1 hm
      subst hV0
      rw [e1, e2]
      have M := May_any true 0 hV
      rw [hm] at M
      exact Prev_true 0 0 false false false w (Lib.hid (NxC.mk M fun h => absurd h (by decide))) (fun _ => ⟨rfl, rfl, rfl⟩)
    | true =>
      have M := May_any n V hV
      rw [hm] at M
      have E : nxOk (-1) n V = stOk V n ∧ nx (-1) n V = zI n (stV V n) := by
        cases n with
        | false => exact nx_false_down (fun h => c ⟨rfl, h⟩) hV
        | true => exact nx_true_down (may_true.1 hm)
      rw [E.1, E.2, sg_of, ab_zI]
      cases n with
      | true => exact Prev_true V _ true _ _ w (Lib.hid (NxC.mk M fun _ => hs)) (fun h => absurd h (by decide))
      | false =>
        have hV0 : V ≠ 0 := fun h => c ⟨rfl, h⟩
        exact Prev_false V _ _ _ w (by rw [lm_z hV]; simpa using hV0) (Lib.hid (NxC.mk M fun _ => hs))
end Go.Proofs.YtekeedjhaakbhaaGreatDoor
