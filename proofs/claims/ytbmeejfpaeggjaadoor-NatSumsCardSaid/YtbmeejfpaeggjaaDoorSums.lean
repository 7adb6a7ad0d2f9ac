/- The law NatSums. -/
import Derived.Test.YtbmeejfpaeggjaaDoorDu
namespace Go.Proofs.YtbmeejfpaeggjaaDoor
open Go.RowKit
theorem cmpV_same (A : Nat) : cmpV A A = 0 := by
  unfold cmpV
  rw [if_neg (Nat.lt_irrefl _), if_neg (Nat.lt_irrefl _)]
/-- what the law asks of the program -/
structure SumsC (A B m S R D : Nat) (p q o : Bool) : Prop where
  c1 : ∀ w : World, Calls Tryd.prog 15 #[.agg #[.int .u64 (lm (A) 0 : Nat), .int .u64 (lm (A) 1 : Nat), .int .u64 (lm (A) 2 : Nat), .int .u64 (lm (A) 3 : Nat)]] w fun e w' => ∃ v, e = .returned v ∧ IsD w' v A ∧ Below w.heap.size w w'
  c2 : ∀ w : World, Calls Tryd.prog 15 #[.agg #[.int .u64 (lm (B) 0 : Nat), .int .u64 (lm (B) 1 : Nat), .int .u64 (lm (B) 2 : Nat), .int .u64 (lm (B) 3 : Nat)]] w fun e w' => ∃ v, e = .returned v ∧ IsD w' v B ∧ Below w.heap.size w w'
  c3 : ∀ w : World, Calls Tryd.prog 24 #[.agg #[.int .u64 (lm (A) 0 : Nat), .int .u64 (lm (A) 1 : Nat), .int .u64 (lm (A) 2 : Nat), .int .u64 (lm (A) 3 : Nat)], .agg #[.int .u64 (lm (B) 0 : Nat), .int .u64 (lm (B) 1 : Nat), .int .u64 (lm (B) 2 : Nat), .int .u64 (lm (B) 3 : Nat)]] w fun e w' => e = .returned (.tuple #[.agg #[.int .u64 (lm (S) 0 : Nat), .int .u64 (lm (S) 1 : Nat), .int .u64 (lm (S) 2 : Nat), .int .u64 (lm (S) 3 : Nat)], .bool p]) ∧ Below w.heap.size w w'
  c4 : ∀ w : World, Calls Tryd.prog 25 #[.agg #[.int .u64 (lm (A) 0 : Nat), .int .u64 (lm (A) 1 : Nat), .int .u64 (lm (A) 2 : Nat), .int .u64 (lm (A) 3 : Nat)], .agg #[.int .u64 (lm (B) 0 : Nat), .int .u64 (lm (B) 1 : Nat), .int .u64 (lm (B) 2 : Nat), .int .u64 (lm (B) 3 : Nat)]] w fun e w' => e = .returned (.tuple #[.agg #[.int .u64 (lm (D) 0 : Nat), .int .u64 (lm (D) 1 : Nat), .int .u64 (lm (D) 2 : Nat), .int .u64 (lm (D) 3 : Nat)], .bool q]) ∧ Below w.heap.size w w'
  c5 : ∀ w : World, Calls Tryd.prog 23 #[.agg #[.int .u64 (lm (A) 0 : Nat), .int .u64 (lm (A) 1 : Nat), .int .u64 (lm (A) 2 : Nat), .int .u64 (lm (A) 3 : Nat)], .int .u64 (m : Int)] w fun e w' => e = .returned (.tuple #[.agg #[.int .u64 (lm (R) 0 : Nat), .int .u64 (lm (R) 1 : Nat), .int .u64 (lm (R) 2 : Nat), .int .u64 (lm (R) 3 : Nat)], .bool o]) ∧ Below w.heap.size w w'
  c6 : ∀ (v1 v2 : Value) (w : World) (_ : IsD w v1 A) (_ : IsD w v2 B), Calls Tryd.prog 13 #[v1, v2] w fun e w' => ∃ v, e = .returned v ∧ IsD w' v (A + B) ∧ Below w.heap.size w w'
  c7 : ∀ (v : Value) (w : World) (_ : IsD w v (A + B)), Calls Tryd.prog 30 #[.agg #[.int .u64 (lm (S) 0 : Nat), .int .u64 (lm (S) 1 : Nat), .int .u64 (lm (S) 2 : Nat), .int .u64 (lm (S) 3 : Nat)], .bool p, v] w fun e w' => e = .returned (.bool true) ∧ Below w.heap.size w w'
  c8 : ∀ (w : World), Calls Tryd.prog 16 #[.int .u64 (m : Int)] w fun e w' => ∃ v, e = .returned v ∧ IsD w' v m ∧ Below w.heap.size w w'
  c9 : ∀ (v1 v2 : Value) (w : World) (_ : IsD w v1 A) (_ : IsD w v2 m), Calls Tryd.prog 14 #[v1, v2] w fun e w' => ∃ v, e = .returned v ∧ IsD w' v (A * m) ∧ Below w.heap.size w w'
  ca : ∀ (v : Value) (w : World) (_ : IsD w v (A * m)), Calls Tryd.prog 30 #[.agg #[.int .u64 (lm (R) 0 : Nat), .int .u64 (lm (R) 1 : Nat), .int .u64 (lm (R) 2 : Nat), .int .u64 (lm (R) 3 : Nat)], .bool o, v] w fun e w' => e = .returned (.bool true) ∧ Below w.heap.size w w'
  cb : ∀ (v1 v2 : Value) (w : World) (_ : IsD w v1 A) (_ : IsD w v2 B), Calls Tryd.prog 17 #[v1, v2] w fun e w' => e = .returned (.int .i64 (cmpV A B)) ∧ Below w.heap.size w w'
  cc : ∀ w : World, Calls Tryd.prog 32 #[.agg #[.int .u64 (lm (A) 0 : Nat), .int .u64 (lm (A) 1 : Nat), .int .u64 (lm (A) 2 : Nat), .int .u64 (lm (A) 3 : Nat)], .agg #[.int .u64 (lm (B) 0 : Nat), .int .u64 (lm (B) 1 : Nat), .int .u64 (lm (B) 2 : Nat), .int .u64 (lm (B) 3 : Nat)]] w fun e w' => e = .returned (.int .i64 (cmpV A B)) ∧ Below w.heap.size w w'
  cd : ∀ w : World, Calls Tryd.prog 32 #[.agg #[.int .u64 (lm (A) 0 : Nat), .int .u64 (lm (A) 1 : Nat), .int .u64 (lm (A) 2 : Nat), .int .u64 (lm (A) 3 : Nat)], .agg #[.int .u64 (lm (A) 0 : Nat), .int .u64 (lm (A) 1 : Nat), .int .u64 (lm (A) 2 : Nat), .int .u64 (lm (A) 3 : Nat)]] w fun e w' => e = .returned (.int .i64 0) ∧ Below w.heap.size w w'
  ce : ∀ (v1 v2 : Value) (w : World) (_ : IsD w v1 A) (_ : IsD w v2 B), B ≤ A → Calls Tryd.prog 31 #[v1, v2] w fun e w' => ∃ v, e = .returned v ∧ IsD w' v D ∧ Below w.heap.size w w'
  cf : ∀ (v : Value) (w : World) (_ : IsD w v D), Calls Tryd.prog 30 #[.agg #[.int .u64 (lm (D) 0 : Nat), .int .u64 (lm (D) 1 : Nat), .int .u64 (lm (D) 2 : Nat), .int .u64 (lm (D) 3 : Nat)], .bool true, v] w fun e w' => e = .returned (.bool true) ∧ Below w.heap.size w w'
theorem sumsC (A B m : Nat) (hA : A < 2 ^ 256) (hB : B < 2 ^ 256) (hm : m < 18446744073709551616) : SumsC A B m (if A + B < 2 ^ 256 then A + B else 0) (if A * m < 2 ^ 256 then A * m else 0) (A - B) (decide (A + B < 2 ^ 256)) (decide (B ≤ A)) (decide (A * m < 2 ^ 256)) where
  c1 := fun w => DOf_any A hA w
  c2 := fun w => DOf_any B hB w
  c3 := fun w => Add_any A B hA hB w
  c4 := fun w => Sub_any A B hA hB w
  c5 := fun w => MulN_any A m hA hm w
  c6 := fun v1 v2 w h1 h2 => AddI_any v1 v2 A B w h1 h2 (Nat.le_trans (dl8 hA) (by decide)) (Nat.le_trans (dl8 hB) (by decide))
  c7 := fun v w h => two_any v _ _ _ w h rfl rfl
  c8 := fun w => Small_any m hm w
  c9 := fun v1 v2 w h1 h2 => MulI_any v1 v2 A m w h1 h2 (Nat.le_trans (dl8 hA) (by decide)) (Nat.le_trans (dl2 hm) (by decide))
  ca := fun v w h => two_any v _ _ _ w h rfl rfl
  cb := fun v1 v2 w h1 h2 => CmpI_any v1 v2 A B w h1 h2
  cc := fun w => CmpN_any A B hA hB w
  cd := fun w => by
    have h := CmpN_any A A hA hA w
    rw [cmpV_same] at h
    exact h
  ce := fun v1 v2 w h1 h2 hBA => SubI_any v1 v2 A B w h1 h2 (Nat.le_trans (dl8 hA) (by decide)) hBA
  cf := fun v w h => two_any v (A - B) (A - B) true w h (by rw [if_pos (by omega)]) (decide_eq_true (by omega)).symm
set_option maxRecDepth 20000 in
set_option maxHeartbeats 3200000 in
theorem Sums_walk (A B m S R D : Nat) (p q o : Bool) (C : Hid (SumsC A B m S R D p q o)) (hqe : Hid (q = decide (B ≤ A))) (hDz : Hid (A < B → D = 0)) (w : World) (hT : Tabs w) :
    Calls Tryd.prog 8 #[.agg #[.int .u64 (lm (A) 0 : Nat), .int .u64 (lm (A) 1 : Nat), .int .u64 (lm (A) 2 : Nat), .int .u64 (lm (A) 3 : Nat)], .agg #[.int .u64 (lm (B) 0 : Nat), .int .u64 (lm (B) 1 : Nat), .int .u64 (lm (B) 2 : Nat), .int .u64 (lm (B) 3 : Nat)], .int .u64 (m : Int)] w fun e w' => e = .returned (.bool true) ∧ Below w.heap.size w w' := by
  have T0 := Lib.hid hT
  clear hT
  go_enter Tryd.func8, Tryd.ntmps8
  go_upto_region 1 with fail
  have X0 : Box ((w.alloc (.cells #[.int .u64 (lm A 0 : Nat), .int .u64 (lm A 1 : Nat), .int .u64 (lm A 2 : Nat), .int .u64 (lm A 3 : Nat)] 24)).alloc (.cells #[.int .u64 (lm B 0 : Nat), .int .u64 (lm B 1 : Nat), .int .u64 (lm B 2 : Nat), .int .u64 (lm B 3 : Nat)] 24)) w.heap.size A := box_new.alloc _
  have Y0 : Box ((w.alloc (.cells #[.int .u64 (lm A 0 : Nat), .int .u64 (lm A 1 : Nat), .int .u64 (lm A 2 : Nat), .int .u64 (lm A 3 : Nat)] 24)).alloc (.cells #[.int .u64 (lm B 0 : Nat), .int .u64 (lm B 1 : Nat), .int .u64 (lm B 2 : Nat), .int .u64 (lm B 3 : Nat)] 24)) (w.heap.size + 1) B := by
    have h := @box_new (w.alloc (.cells #[.int .u64 (lm A 0 : Nat), .int .u64 (lm A 1 : Nat), .int .u64 (lm A 2 : Nat), .int .u64 (lm A 3 : Nat)] 24)) B 24
    rw [World.size_alloc] at h
    exact h
  have T1 := Lib.hid ((T0.out.alloc (.cells #[.int .u64 (lm A 0 : Nat), .int .u64 (lm A 1 : Nat), .int .u64 (lm A 2 : Nat), .int .u64 (lm A 3 : Nat)] 24)).alloc (.cells #[.int .u64 (lm B 0 : Nat), .int .u64 (lm B 1 : Nat), .int .u64 (lm B 2 : Nat), .int .u64 (lm B 3 : Nat)] 24))
  have hW : Below w.heap.size w ((w.alloc (.cells #[.int .u64 (lm A 0 : Nat), .int .u64 (lm A 1 : Nat), .int .u64 (lm A 2 : Nat), .int .u64 (lm A 3 : Nat)] 24)).alloc (.cells #[.int .u64 (lm B 0 : Nat), .int .u64 (lm B 1 : Nat), .int .u64 (lm B 2 : Nat), .int .u64 (lm B 3 : Nat)] 24)) := by (repeat first | with_reducible exact Below.refl _ _ | with_reducible assumption | with_reducible refine Below.drew ?_ | with_reducible refine below_alloc ?_ _ | ((with_reducible refine Below.setCell ?_ ?_ _); rotate_left; (focus (first | with_reducible exact Nat.le_refl _ | (simp; done) | (simp; omega) | omega))) | (with_reducible refine below_trans ?_ (by assumption)))
  generalize ((w.alloc (.cells #[.int .u64 (lm A 0 : Nat), .int .u64 (lm A 1 : Nat), .int .u64 (lm A 2 : Nat), .int .u64 (lm A 3 : Nat)] 24)).alloc (.cells #[.int .u64 (lm B 0 : Nat), .int .u64 (lm B 1 : Nat), .int .u64 (lm B 2 : Nat), .int .u64 (lm B 3 : Nat)] 24)) = w0 at *
  have X1 := Lib.hid X0
  have Y1 := Lib.hid Y0
  have hS0 := keep2 X0 Y0 (Below.refl _ _)
  clear X0 Y0
  go_region_held3 (fun w' => w'.cell? ⟨w.heap.size, 0, none⟩ = some (.int .u64 (lm A 0 : Nat)) ∧ w'.cell? ⟨w.heap.size, 1, none⟩ = some (.int .u64 (lm A 1 : Nat)) ∧ w'.cell? ⟨w.heap.size, 2, none⟩ = some (.int .u64 (lm A 2 : Nat)) ∧ w'.cell? ⟨w.heap.size, 3, none⟩ = some (.int .u64 (lm A 3 : Nat)) ∧ w'.cell? ⟨(w.heap.size + 1), 0, none⟩ = some (.int .u64 (lm B 0 : Nat)) ∧ w'.cell? ⟨(w.heap.size + 1), 1, none⟩ = some (.int .u64 (lm B 1 : Nat)) ∧ w'.cell? ⟨(w.heap.size + 1), 2, none⟩ = some (.int .u64 (lm B 2 : Nat)) ∧ w'.cell? ⟨(w.heap.size + 1), 3, none⟩ = some (.int .u64 (lm B 3 : Nat))) (first | with_reducible assumption | with_reducible exact keep2 X1.out Y1.out hq | with_reducible exact keep2 X1.out Y1.out (Below.refl _ _) | with_reducible exact keep2 X1.out Y1.out (Below.refl _ _).drew) (first | (go_at_call 15; with_reducible refine (C.out.c1 _).mono ?_; rintro e w1 ⟨u1, rfl, hu1, hb1⟩; (first | have hq := below_trans hq hb1 | have hq := below_trans (Below.refl _ _).drew hb1 | have hq := hb1)) | (go_at_call 15; with_reducible refine (C.out.c2 _).mono ?_; rintro e w2 ⟨u2, rfl, hu2, hb2⟩; (first | have hq := below_trans hq hb2 | have hq := below_trans (Below.refl _ _).drew hb2 | have hq := hb2)))
  have X2 := Lib.hid (X1.out.below hq)
  have Y2 := Lib.hid (Y1.out.below hq)
  have T2 := Lib.hid (T1.out.below hq)
  have hW2 := below_trans hW hq
  have Tu2 := Lib.hid (hu1.below hb2)
  have Tv2 := Lib.hid hu2
  clear hq hb1 hb2 hu1 hu2 hS0 X1 Y1 T1 hW
  obtain ⟨_, _, _, _, _⟩ := X2.out.all
  obtain ⟨_, _, _, _, _⟩ := Y2.out.all
  repeat any_goals (first | go_skip | go_guarded | go_step | go_upon | (simp only []; done))
  go_upto_region 5 with (first | (go_at_call 24; with_reducible refine (C.out.c3 _).mono ?_; rintro e w3 ⟨rfl, hb3⟩; (first | have X3 := Lib.hid (X2.out.below hb3) | have X3 := Lib.hid (X2.out.step hb3)); obtain ⟨_, _, _, _, _⟩ := X3.out.all; (first | have Y3 := Lib.hid (Y2.out.below hb3) | have Y3 := Lib.hid (Y2.out.step hb3)); obtain ⟨_, _, _, _, _⟩ := Y3.out.all; (first | have T3 := Lib.hid (T2.out.below hb3) | have T3 := Lib.hid (T2.out.step hb3)); (first | have Tu3 := Lib.hid (Tu2.out.below hb3) | have Tu3 := Lib.hid (Tu2.out.step hb3)); (first | have Tv3 := Lib.hid (Tv2.out.below hb3) | have Tv3 := Lib.hid (Tv2.out.step hb3))) | (go_at_call 25; with_reducible refine (C.out.c4 _).mono ?_; rintro e w4 ⟨rfl, hb4⟩; have S4 := Lib.hid (box_hb hb4); obtain ⟨_, _, _, _, _⟩ := S4.out.all; (first | have X4 := Lib.hid (X3.out.below hb4) | have X4 := Lib.hid (X3.out.step hb4)); obtain ⟨_, _, _, _, _⟩ := X4.out.all; (first | have Y4 := Lib.hid (Y3.out.below hb4) | have Y4 := Lib.hid (Y3.out.step hb4)); obtain ⟨_, _, _, _, _⟩ := Y4.out.all; (first | have T4 := Lib.hid (T3.out.below hb4) | have T4 := Lib.hid (T3.out.step hb4)); (first | have Tu4 := Lib.hid (Tu3.out.below hb4) | have Tu4 := Lib.hid (Tu3.out.step hb4)); (first | have Tv4 := Lib.hid (Tv3.out.below hb4) | have Tv4 := Lib.hid (Tv3.out.step hb4))) | (go_at_call 23; with_reducible refine (C.out.c5 _).mono ?_; rintro e w5 ⟨rfl, hb5⟩; have D5 := Lib.hid (box_hb hb5); obtain ⟨_, _, _, _, _⟩ := D5.out.all; (first | have Q5 := Lib.hid (S4.out.below hb5) | have Q5 := Lib.hid (S4.out.step hb5)); obtain ⟨_, _, _, _, _⟩ := Q5.out.all; (first | have X5 := Lib.hid (X4.out.below hb5) | have X5 := Lib.hid (X4.out.step hb5)); obtain ⟨_, _, _, _, _⟩ := X5.out.all; (first | have Y5 := Lib.hid (Y4.out.below hb5) | have Y5 := Lib.hid (Y4.out.step hb5)); obtain ⟨_, _, _, _, _⟩ := Y5.out.all; (first | have T5 := Lib.hid (T4.out.below hb5) | have T5 := Lib.hid (T4.out.step hb5)); (first | have Tu5 := Lib.hid (Tu4.out.below hb5) | have Tu5 := Lib.hid (Tu4.out.step hb5)); (first | have Tv5 := Lib.hid (Tv4.out.below hb5) | have Tv5 := Lib.hid (Tv4.out.step hb5))))
  (have R6 := Lib.hid (@box_new w5 R 24); have X6 := Lib.hid (X5.out.alloc (.cells #[.int .u64 (lm R 0 : Nat), .int .u64 (lm R 1 : Nat), .int .u64 (lm R 2 : Nat), .int .u64 (lm R 3 : Nat)] 24)); have Y6 := Lib.hid (Y5.out.alloc (.cells #[.int .u64 (lm R 0 : Nat), .int .u64 (lm R 1 : Nat), .int .u64 (lm R 2 : Nat), .int .u64 (lm R 3 : Nat)] 24)); have Q6 := Lib.hid (Q5.out.alloc (.cells #[.int .u64 (lm R 0 : Nat), .int .u64 (lm R 1 : Nat), .int .u64 (lm R 2 : Nat), .int .u64 (lm R 3 : Nat)] 24)); have D6 := Lib.hid (D5.out.alloc (.cells #[.int .u64 (lm R 0 : Nat), .int .u64 (lm R 1 : Nat), .int .u64 (lm R 2 : Nat), .int .u64 (lm R 3 : Nat)] 24)); have T6 := Lib.hid (T5.out.alloc (.cells #[.int .u64 (lm R 0 : Nat), .int .u64 (lm R 1 : Nat), .int .u64 (lm R 2 : Nat), .int .u64 (lm R 3 : Nat)] 24)); have Tu6 := Lib.hid (Tu5.out.alloc (.cells #[.int .u64 (lm R 0 : Nat), .int .u64 (lm R 1 : Nat), .int .u64 (lm R 2 : Nat), .int .u64 (lm R 3 : Nat)] 24)); have Tv6 := Lib.hid (Tv5.out.alloc (.cells #[.int .u64 (lm R 0 : Nat), .int .u64 (lm R 1 : Nat), .int .u64 (lm R 2 : Nat), .int .u64 (lm R 3 : Nat)] 24)); have hW6 : Below w.heap.size w (w5.alloc (.cells #[.int .u64 (lm R 0 : Nat), .int .u64 (lm R 1 : Nat), .int .u64 (lm R 2 : Nat), .int .u64 (lm R 3 : Nat)] 24)) := (by (repeat first | with_reducible exact Below.refl _ _ | with_reducible assumption | with_reducible refine Below.drew ?_ | with_reducible refine below_alloc ?_ _ | ((with_reducible refine Below.setCell ?_ ?_ _); rotate_left; (focus (first | with_reducible exact Nat.le_refl _ | (simp; done) | (simp; omega) | omega))) | (with_reducible refine below_trans ?_ (by assumption)))); generalize w5.alloc (.cells #[.int .u64 (lm R 0 : Nat), .int .u64 (lm R 1 : Nat), .int .u64 (lm R 2 : Nat), .int .u64 (lm R 3 : Nat)] 24) = w6 at *; obtain ⟨_, _, _, _, _⟩ := R6.out.all; obtain ⟨_, _, _, _, _⟩ := X6.out.all; obtain ⟨_, _, _, _, _⟩ := Y6.out.all; obtain ⟨_, _, _, _, _⟩ := Q6.out.all; obtain ⟨_, _, _, _, _⟩ := D6.out.all)
  have hq : Below w6.heap.size w6 w6.drew := (Below.refl _ _).drew
  go_region_held3 (fun w' => w'.cell? ⟨w3.heap.size, 0, none⟩ = some (.int .u64 (lm S 0 : Nat)) ∧ w'.cell? ⟨w3.heap.size, 1, none⟩ = some (.int .u64 (lm S 1 : Nat)) ∧ w'.cell? ⟨w3.heap.size, 2, none⟩ = some (.int .u64 (lm S 2 : Nat)) ∧ w'.cell? ⟨w3.heap.size, 3, none⟩ = some (.int .u64 (lm S 3 : Nat)) ∧ w'.cell? ⟨w5.heap.size, 0, none⟩ = some (.int .u64 (lm R 0 : Nat)) ∧ w'.cell? ⟨w5.heap.size, 1, none⟩ = some (.int .u64 (lm R 1 : Nat)) ∧ w'.cell? ⟨w5.heap.size, 2, none⟩ = some (.int .u64 (lm R 2 : Nat)) ∧ w'.cell? ⟨w5.heap.size, 3, none⟩ = some (.int .u64 (lm R 3 : Nat))) (first | with_reducible assumption | with_reducible exact keep2 Q6.out R6.out hq | with_reducible exact keep2 Q6.out R6.out (Below.refl _ _) | with_reducible exact keep2 Q6.out R6.out (Below.refl _ _).drew) (first | (go_at_call 13; with_reducible refine (C.out.c6 _ _ _ (Tu6.out.below hq) (Tv6.out.below hq)).mono ?_; rintro e w7 ⟨u7, rfl, hu7, hb7⟩; (first | have hq := below_trans hq hb7 | have hq := below_trans (Below.refl _ _).drew hb7 | have hq := hb7)) | (go_at_call 30; with_reducible refine (C.out.c7 _ _ hu7).mono ?_; rintro e w8 ⟨rfl, hb8⟩; (first | have hq := below_trans hq hb8 | have hq := below_trans (Below.refl _ _).drew hb8 | have hq := hb8)) | (go_at_call 16; with_reducible refine (C.out.c8 _).mono ?_; rintro e w9 ⟨u9, rfl, hu9, hb9⟩; (first | have hq := below_trans hq hb9 | have hq := below_trans (Below.refl _ _).drew hb9 | have hq := hb9)) | (go_at_call 14; with_reducible refine (C.out.c9 _ _ _ (Tu6.out.below hq) hu9).mono ?_; rintro e wa ⟨ua, rfl, hua, hba⟩; (first | have hq := below_trans hq hba | have hq := below_trans (Below.refl _ _).drew hba | have hq := hba)) | (go_at_call 30; with_reducible refine (C.out.ca _ _ hua).mono ?_; rintro e wb ⟨rfl, hbb⟩; (first | have hq := below_trans hq hbb | have hq := below_trans (Below.refl _ _).drew hbb | have hq := hbb)))
  have X7 := Lib.hid (X6.out.below hq)
  have Y7 := Lib.hid (Y6.out.below hq)
  have D7 := Lib.hid (D6.out.below hq)
  have T7 := Lib.hid (T6.out.below hq)
  have Tu7 := Lib.hid (Tu6.out.below hq)
  have Tv7 := Lib.hid (Tv6.out.below hq)
  have hW7 := below_trans hW6 hq
  clear hq hb7 hu7 hb8 hu9 hb9 hua hba hbb hb3 hb4 hb5 X2 X3 X4 X5 X6 Y2 Y3 Y4 Y5 Y6 Q5 Q6 D5 D6 R6 T2 T3 T4 T5 T6 Tu2 Tu3 Tu4 Tu5 Tu6 Tv2 Tv3 Tv4 Tv5 Tv6 hW6 hW2
  obtain ⟨_, _, _, _, _⟩ := X7.out.all
  obtain ⟨_, _, _, _, _⟩ := Y7.out.all
  obtain ⟨_, _, _, _, _⟩ := D7.out.all
  by_cases c0 : A < B
  · have hcv : cmpV A B = -1 := by
      unfold cmpV
      rw [if_pos c0]
    have hD0 := hDz.out c0
    have hq0 : q = false := by rw [hqe.out]; exact decide_eq_false (by omega)
    have hz := lm_z (V := 0) (by decide)
    rw [show ((0 : Nat) == 0) = true from rfl] at hz
    subst hD0 hq0
    repeat any_goals (first | (go_at_call 17; with_reducible refine (C.out.cb _ _ _ Tu7.out Tv7.out).mono ?_; rintro e w8 ⟨rfl, hb8⟩; (first | have X8 := Lib.hid (X7.out.below hb8) | have X8 := Lib.hid (X7.out.step hb8)); obtain ⟨_, _, _, _, _⟩ := X8.out.all; (first | have Y8 := Lib.hid (Y7.out.below hb8) | have Y8 := Lib.hid (Y7.out.step hb8)); obtain ⟨_, _, _, _, _⟩ := Y8.out.all; (first | have D8 := Lib.hid (D7.out.below hb8) | have D8 := Lib.hid (D7.out.step hb8)); obtain ⟨_, _, _, _, _⟩ := D8.out.all; (first | have T8 := Lib.hid (T7.out.below hb8) | have T8 := Lib.hid (T7.out.step hb8)); (first | have Tu8 := Lib.hid (Tu7.out.below hb8) | have Tu8 := Lib.hid (Tu7.out.step hb8)); (first | have Tv8 := Lib.hid (Tv7.out.below hb8) | have Tv8 := Lib.hid (Tv7.out.step hb8))) | (go_at_call 12; with_reducible refine (told_any _ T8.out).mono ?_; rintro e w9 ⟨rfl, hb9⟩; (first | have X9 := Lib.hid (X8.out.below hb9) | have X9 := Lib.hid (X8.out.step hb9)); obtain ⟨_, _, _, _, _⟩ := X9.out.all; (first | have Y9 := Lib.hid (Y8.out.below hb9) | have Y9 := Lib.hid (Y8.out.step hb9)); obtain ⟨_, _, _, _, _⟩ := Y9.out.all; (first | have T9 := Lib.hid (T8.out.below hb9) | have T9 := Lib.hid (T8.out.step hb9)); (first | have Tu9 := Lib.hid (Tu8.out.below hb9) | have Tu9 := Lib.hid (Tu8.out.step hb9)); (first | have Tv9 := Lib.hid (Tv8.out.below hb9) | have Tv9 := Lib.hid (Tv8.out.step hb9))) | (go_at_call 32; with_reducible refine (C.out.cc _).mono ?_; rintro e wa ⟨rfl, hba⟩; (first | have Xa := Lib.hid (X9.out.below hba) | have Xa := Lib.hid (X9.out.step hba)); obtain ⟨_, _, _, _, _⟩ := Xa.out.all; (first | have Ya := Lib.hid (Y9.out.below hba) | have Ya := Lib.hid (Y9.out.step hba)); obtain ⟨_, _, _, _, _⟩ := Ya.out.all; (first | have Ta := Lib.hid (T9.out.below hba) | have Ta := Lib.hid (T9.out.step hba)); (first | have Tua := Lib.hid (Tu9.out.below hba) | have Tua := Lib.hid (Tu9.out.step hba)); (first | have Tva := Lib.hid (Tv9.out.below hba) | have Tva := Lib.hid (Tv9.out.step hba))) | (go_at_call 17; with_reducible refine (C.out.cb _ _ _ Tua.out Tva.out).mono ?_; rintro e wb ⟨rfl, hbb⟩; (first | have Xb := Lib.hid (Xa.out.below hbb) | have Xb := Lib.hid (Xa.out.step hbb)); obtain ⟨_, _, _, _, _⟩ := Xb.out.all) | (go_at_call 32; with_reducible refine (C.out.cd _).mono ?_; rintro e wc ⟨rfl, hbc⟩; (first | have Xc := Lib.hid (Xb.out.below hbc) | have Xc := Lib.hid (Xb.out.step hbc)); obtain ⟨_, _, _, _, _⟩ := Xc.out.all) | go_skip | go_guarded | go_step | go_upon | (dsimp only []))
    go_ret
    exact ⟨by simp, by (repeat first | with_reducible exact Below.refl _ _ | with_reducible assumption | with_reducible refine Below.drew ?_ | with_reducible refine below_alloc ?_ _ | ((with_reducible refine Below.setCell ?_ ?_ _); rotate_left; (focus (first | with_reducible exact Nat.le_refl _ | (simp; done) | (simp; omega) | omega))) | (with_reducible refine below_trans ?_ (by assumption)))⟩
  · have hcv : ¬ cmpV A B < 0 := by
      unfold cmpV
      rw [if_neg c0]
      split <;> decide
    have hBA : B ≤ A := by omega
    have hq1 : q = true := by rw [hqe.out]; exact decide_eq_true hBA
    subst hq1
    go_upto_region 11 with (first | (go_at_call 17; with_reducible refine (C.out.cb _ _ _ Tu7.out Tv7.out).mono ?_; rintro e w8 ⟨rfl, hb8⟩; (first | have X8 := Lib.hid (X7.out.below hb8) | have X8 := Lib.hid (X7.out.step hb8)); obtain ⟨_, _, _, _, _⟩ := X8.out.all; (first | have Y8 := Lib.hid (Y7.out.below hb8) | have Y8 := Lib.hid (Y7.out.step hb8)); obtain ⟨_, _, _, _, _⟩ := Y8.out.all; (first | have D8 := Lib.hid (D7.out.below hb8) | have D8 := Lib.hid (D7.out.step hb8)); obtain ⟨_, _, _, _, _⟩ := D8.out.all; (first | have T8 := Lib.hid (T7.out.below hb8) | have T8 := Lib.hid (T7.out.step hb8)); (first | have Tu8 := Lib.hid (Tu7.out.below hb8) | have Tu8 := Lib.hid (Tu7.out.step hb8)); (first | have Tv8 := Lib.hid (Tv7.out.below hb8) | have Tv8 := Lib.hid (Tv7.out.step hb8))))
    have hq : Below w8.heap.size w8 w8.drew := (Below.refl _ _).drew
    go_region_held3 (fun w' => w'.cell? ⟨w4.heap.size, 0, none⟩ = some (.int .u64 (lm D 0 : Nat)) ∧ w'.cell? ⟨w4.heap.size, 1, none⟩ = some (.int .u64 (lm D 1 : Nat)) ∧ w'.cell? ⟨w4.heap.size, 2, none⟩ = some (.int .u64 (lm D 2 : Nat)) ∧ w'.cell? ⟨w4.heap.size, 3, none⟩ = some (.int .u64 (lm D 3 : Nat))) (first | with_reducible assumption | with_reducible exact keep1 D8.out hq | with_reducible exact keep1 D8.out (Below.refl _ _) | with_reducible exact keep1 D8.out (Below.refl _ _).drew) (first | (go_at_call 31; with_reducible refine (C.out.ce _ _ _ (Tu8.out.below hq) (Tv8.out.below hq) hBA).mono ?_; rintro e w9 ⟨u9, rfl, hu9, hb9⟩; (first | have hq := below_trans hq hb9 | have hq := below_trans (Below.refl _ _).drew hb9 | have hq := hb9)) | (go_at_call 30; with_reducible refine (C.out.cf _ _ hu9).mono ?_; rintro e wa ⟨rfl, hba⟩; (first | have hq := below_trans hq hba | have hq := below_trans (Below.refl _ _).drew hba | have hq := hba)))
    have Xa := Lib.hid (X8.out.below hq)
    have Ya := Lib.hid (Y8.out.below hq)
    have Ta := Lib.hid (T8.out.below hq)
    have Tua := Lib.hid (Tu8.out.below hq)
    have Tva := Lib.hid (Tv8.out.below hq)
    have hWa := below_trans (below_trans hW7 hb8) hq
    clear hq hb8 hb9 hu9 hba hW7 X8 Y8 D8 T8 Tu8 Tv8 X7 Y7 D7 T7 Tu7 Tv7
    obtain ⟨_, _, _, _, _⟩ := Xa.out.all
    obtain ⟨_, _, _, _, _⟩ := Ya.out.all
    repeat any_goals (first | (go_at_call 12; with_reducible refine (told_any _ Ta.out).mono ?_; rintro e wb ⟨rfl, hbb⟩; (first | have Xb := Lib.hid (Xa.out.below hbb) | have Xb := Lib.hid (Xa.out.step hbb)); obtain ⟨_, _, _, _, _⟩ := Xb.out.all; (first | have Yb := Lib.hid (Ya.out.below hbb) | have Yb := Lib.hid (Ya.out.step hbb)); obtain ⟨_, _, _, _, _⟩ := Yb.out.all; (first | have Tub := Lib.hid (Tua.out.below hbb) | have Tub := Lib.hid (Tua.out.step hbb)); (first | have Tvb := Lib.hid (Tva.out.below hbb) | have Tvb := Lib.hid (Tva.out.step hbb))) | (go_at_call 32; with_reducible refine (C.out.cc _).mono ?_; rintro e wc ⟨rfl, hbc⟩; (first | have Xc := Lib.hid (Xb.out.below hbc) | have Xc := Lib.hid (Xb.out.step hbc)); obtain ⟨_, _, _, _, _⟩ := Xc.out.all; (first | have Tuc := Lib.hid (Tub.out.below hbc) | have Tuc := Lib.hid (Tub.out.step hbc)); (first | have Tvc := Lib.hid (Tvb.out.below hbc) | have Tvc := Lib.hid (Tvb.out.step hbc))) | (go_at_call 17; with_reducible refine (C.out.cb _ _ _ Tuc.out Tvc.out).mono ?_; rintro e wd ⟨rfl, hbd⟩; (first | have Xd := Lib.hid (Xc.out.below hbd) | have Xd := Lib.hid (Xc.out.step hbd)); obtain ⟨_, _, _, _, _⟩ := Xd.out.all) | (go_at_call 32; with_reducible refine (C.out.cd _).mono ?_; rintro e we ⟨rfl, hbe⟩) | go_skip | go_guarded | go_step | go_upon | (dsimp only []))
    go_ret
    exact ⟨by simp, by (repeat first | with_reducible exact Below.refl _ _ | with_reducible assumption | with_reducible refine Below.drew ?_ | with_reducible refine below_alloc ?_ _ | ((with_reducible refine Below.setCell ?_ ?_ _); rotate_left; (focus (first | with_reducible exact Nat.le_refl _ | (simp; done) | (simp; omega) | omega))) | (with_reducible refine below_trans ?_ (by assumption)))⟩
/-- **NatSums answers true.** -/
theorem Sums_any (A B m : Nat) (hA : A < 2 ^ 256) (hB : B < 2 ^ 256) (hm : m < 18446744073709551616) (w : World) (hT : Tabs w) :
    Calls Tryd.prog 8 #[.agg #[.int .u64 (lm (A) 0 : Nat), .int .u64 (lm (A) 1 : Nat), .int .u64 (lm (A) 2 : Nat), .int .u64 (lm (A) 3 : Nat)], .agg #[.int .u64 (lm (B) 0 : Nat), .int .u64 (lm (B) 1 : Nat), .int .u64 (lm (B) 2 : Nat), .int .u64 (lm (B) 3 : Nat)], .int .u64 (m : Int)] w fun e w' => e = .returned (.bool true) ∧ Below w.heap.size w w' :=
  Sums_walk A B m _ _ (A - B) _ _ _ (Lib.hid (sumsC A B m hA hB hm)) (Lib.hid rfl) (Lib.hid fun h => by omega) w hT
end Go.Proofs.YtbmeejfpaeggjaaDoor
