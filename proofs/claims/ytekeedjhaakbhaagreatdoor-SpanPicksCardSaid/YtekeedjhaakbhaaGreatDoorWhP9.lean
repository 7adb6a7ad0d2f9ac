/- Contracts of package whole: rough, RoughUp, RoughDown. IBOX · Contracts of package whole: RoughUp, RoughDown, by the number. IBOX · Contract of the law's own function told. IBOX -/
import Derived.Test.YtekeedjhaakbhaaGreatDoorWhO9
import Derived.LoopN
namespace Go.Proofs.YtekeedjhaakbhaaGreatDoor
open Go.RowKit
theorem Tabs.step2 {w1 w2 : World} {o o2 : Obj} (h : Tabs w1) (hb : Below ((w1.alloc o).alloc o2).heap.size ((w1.alloc o).alloc o2) w2) : Tabs w2 := ((h.alloc o).alloc o2).below hb
/-- block B holds a number with a sign, and may be written -/
structure IBoxF (w' : World) (B : Nat) (n : Bool) (V : Nat) : Prop where
  b : IBox w' B n V
  f0 : w'.frozen? ⟨B, 0, none⟩ = false
  f1 : w'.frozen? ⟨B, 1, none⟩ = false
  f2 : w'.frozen? ⟨B, 2, none⟩ = false
  f3 : w'.frozen? ⟨B, 3, none⟩ = false
  f4 : w'.frozen? ⟨B, 4, none⟩ = false
theorem IBoxF.below {B V : Nat} {n : Bool} {w1 w2 : World} (h : IBoxF w1 B n V) (hb : Below w1.heap.size w1 w2) : IBoxF w2 B n V :=
  ⟨h.b.below hb, by rw [hb.frozen (p := ⟨B, 0, none⟩) h.b.l]; exact h.f0, by rw [hb.frozen (p := ⟨B, 1, none⟩) h.b.l]; exact h.f1, by rw [hb.frozen (p := ⟨B, 2, none⟩) h.b.l]; exact h.f2, by rw [hb.frozen (p := ⟨B, 3, none⟩) h.b.l]; exact h.f3, by rw [hb.frozen (p := ⟨B, 4, none⟩) h.b.l]; exact h.f4⟩
theorem IBoxF.alloc {B V : Nat} {n : Bool} {w1 : World} (h : IBoxF w1 B n V) (o : Obj) : IBoxF (w1.alloc o) B n V := h.below (below_alloc (Below.refl _ _) _)
theorem IBoxF.step {B V : Nat} {n : Bool} {w1 w2 : World} {o : Obj} (h : IBoxF w1 B n V) (hb : Below (w1.alloc o).heap.size (w1.alloc o) w2) : IBoxF w2 B n V := (h.alloc o).below hb
theorem IBoxF.step2 {B V : Nat} {n : Bool} {w1 w2 : World} {o o2 : Obj} (h : IBoxF w1 B n V) (hb : Below ((w1.alloc o).alloc o2).heap.size ((w1.alloc o).alloc o2) w2) : IBoxF w2 B n V := ((h.alloc o).alloc o2).below hb
theorem IBoxF.all {B V : Nat} {n : Bool} {w1 : World} (h : IBoxF w1 B n V) : w1.cell? ⟨B, 0, none⟩ = some (.bool n) ∧ w1.cell? ⟨B, 1, none⟩ = some (.int .u64 (lm V 0 : Nat)) ∧ w1.cell? ⟨B, 2, none⟩ = some (.int .u64 (lm V 1 : Nat)) ∧ w1.cell? ⟨B, 3, none⟩ = some (.int .u64 (lm V 2 : Nat)) ∧ (w1.cell? ⟨B, 4, none⟩ = some (.int .u64 (lm V 3 : Nat)) ∧ B < w1.heap.size ∧ w1.frozen? ⟨B, 0, none⟩ = false ∧ w1.frozen? ⟨B, 1, none⟩ = false ∧ w1.frozen? ⟨B, 2, none⟩ = false ∧ w1.frozen? ⟨B, 3, none⟩ = false ∧ w1.frozen? ⟨B, 4, none⟩ = false) :=
  ⟨h.b.c0, h.b.c1, h.b.c2, h.b.c3, h.b.c4, h.b.l, h.f0, h.f1, h.f2, h.f3, h.f4⟩
theorem iboxF_new {w : World} {n : Bool} {V : Nat} {t : TypeId} : IBoxF (w.alloc (.cells #[.bool n, .int .u64 (lm V 0 : Nat), .int .u64 (lm V 1 : Nat), .int .u64 (lm V 2 : Nat), .int .u64 (lm V 3 : Nat)] t)) w.heap.size n V :=
  ⟨ibox_new, by simp [go_sem], by simp [go_sem], by simp [go_sem], by simp [go_sem], by simp [go_sem]⟩
theorem iboxF_hb2 {w w1 : World} {n : Bool} {V : Nat} {t : TypeId} {o : Obj} (hb : Below ((w.alloc (.cells #[.bool n, .int .u64 (lm V 0 : Nat), .int .u64 (lm V 1 : Nat), .int .u64 (lm V 2 : Nat), .int .u64 (lm V 3 : Nat)] t)).alloc o).heap.size ((w.alloc (.cells #[.bool n, .int .u64 (lm V 0 : Nat), .int .u64 (lm V 1 : Nat), .int .u64 (lm V 2 : Nat), .int .u64 (lm V 3 : Nat)] t)).alloc o) w1) : IBoxF w1 w.heap.size n V :=
  (iboxF_new.alloc o).below hb
theorem IBoxF.set {B U V : Nat} {n m : Bool} {wr : World} (h : IBoxF wr B n U) : IBoxF (((((wr.setCell ⟨B, 0, none⟩ (.bool m)).setCell ⟨B, 1, none⟩ (.int .u64 (lm V 0 : Nat))).setCell ⟨B, 2, none⟩ (.int .u64 (lm V 1 : Nat))).setCell ⟨B, 3, none⟩ (.int .u64 (lm V 2 : Nat))).setCell ⟨B, 4, none⟩ (.int .u64 (lm V 3 : Nat))) B m V := by
  refine ⟨⟨?_, ?_, ?_, ?_, ?_, ?_⟩, ?_, ?_, ?_, ?_, ?_⟩
  · rw [set_other (by simp), set_other (by simp), set_other (by simp), set_other (by simp), World.cell?_setCell_same _ _ _ h.b.c0]
  · rw [set_other (by simp), set_other (by simp), set_other (by simp), World.cell?_setCell_same _ _ _ (by rw [set_other (by simp)]; exact h.b.c1)]
  · rw [set_other (by simp), set_other (by simp), World.cell?_setCell_same _ _ _ (by rw [set_other (by simp), set_other (by simp)]; exact h.b.c2)]
  · rw [set_other (by simp), World.cell?_setCell_same _ _ _ (by rw [set_other (by simp), set_other (by simp), set_other (by simp)]; exact h.b.c3)]
  · rw [World.cell?_setCell_same _ _ _ (by rw [set_other (by simp), set_other (by simp), set_other (by simp), set_other (by simp)]; exact h.b.c4)]
  · simpa using h.b.l
  · simp only [World.frozen?_setCell]; exact h.f0
  · simp only [World.frozen?_setCell]; exact h.f1
  · simp only [World.frozen?_setCell]; exact h.f2
  · simp only [World.frozen?_setCell]; exact h.f3
  · simp only [World.frozen?_setCell]; exact h.f4
theorem ZI.far5 {B k : Nat} {v0 v1 v2 v3 v4 : Value} {w1 : World} (h : ZI w1 B) (hk : B ≠ k) : ZI (((((w1.setCell ⟨k, 0, none⟩ v0).setCell ⟨k, 1, none⟩ v1).setCell ⟨k, 2, none⟩ v2).setCell ⟨k, 3, none⟩ v3).setCell ⟨k, 4, none⟩ v4) B :=
  ((((h.far hk).far hk).far hk).far hk).far hk
/-- what the calls of rough answer: the numbers on the way, which of them are exact -/
structure RoC (g : Nat) (nf : Nat → Bool) (Vf : Nat → Nat) (ef : Nat → Bool) (neg : Bool) (L : Nat) : Prop where
  c1 : ∀ w : World, Calls Tryz.prog 23 #[.agg #[.bool (nf 0 ), .int .u64 (lm ( Vf 0) 0 : Nat), .int .u64 (lm ( Vf 0) 1 : Nat), .int .u64 (lm ( Vf 0) 2 : Nat), .int .u64 (lm ( Vf 0) 3 : Nat)]] w fun e w' => e = .returned (.bool true) ∧ Below w.heap.size w w'
  c2 : ∀ (j : Nat) (w : World), Tab w → Calls Tryz.prog 78 #[.agg #[.bool (nf j ), .int .u64 (lm ( Vf j) 0 : Nat), .int .u64 (lm ( Vf j) 1 : Nat), .int .u64 (lm ( Vf j) 2 : Nat), .int .u64 (lm ( Vf j) 3 : Nat)]] w fun e w' => e = .returned (.bool (ef j)) ∧ Below w.heap.size w w'
  c3 : ∀ (j : Nat), ef j = true → ∀ (w : World), Calls Tryz.prog g #[.agg #[.bool (nf j ), .int .u64 (lm ( Vf j) 0 : Nat), .int .u64 (lm ( Vf j) 1 : Nat), .int .u64 (lm ( Vf j) 2 : Nat), .int .u64 (lm ( Vf j) 3 : Nat)]] w fun e w' => e = .returned (.tuple #[.agg #[.bool (nf (j + 1) ), .int .u64 (lm ( Vf (j + 1)) 0 : Nat), .int .u64 (lm ( Vf (j + 1)) 1 : Nat), .int .u64 (lm ( Vf (j + 1)) 2 : Nat), .int .u64 (lm ( Vf (j + 1)) 3 : Nat)], .bool true]) ∧ Below w.heap.size w w'
  c4 : ∀ w : World, Calls Tryz.prog 79 #[.int .u64 9007199254740993] w fun e w' => e = .returned (.agg #[.int .u64 (lm (L) 0 : Nat), .int .u64 (lm (L) 1 : Nat), .int .u64 (lm (L) 2 : Nat), .int .u64 (lm (L) 3 : Nat)]) ∧ Below w.heap.size w w'
  c5 : ∀ w : World, Calls Tryz.prog 77 #[.bool neg, .agg #[.int .u64 (lm (L) 0 : Nat), .int .u64 (lm (L) 1 : Nat), .int .u64 (lm (L) 2 : Nat), .int .u64 (lm (L) 3 : Nat)]] w fun e w' => e = .returned (.agg #[.bool (neg ), .int .u64 (lm ( L) 0 : Nat), .int .u64 (lm ( L) 1 : Nat), .int .u64 (lm ( L) 2 : Nat), .int .u64 (lm ( L) 3 : Nat)]) ∧ Below w.heap.size w w'
set_option maxRecDepth 20000 in
set_option maxHeartbeats 1600000 in
theorem rough_no (n : Bool) (V : Nat) (f : Value) (neg : Bool) (w : World) (C : Hid (∀ w : World, Calls Tryz.prog 23 #[.agg #[.bool (n ), .int .u64 (lm ( V) 0 : Nat), .int .u64 (lm ( V) 1 : Nat), .int .u64 (lm ( V) 2 : Nat), .int .u64 (lm ( V) 3 : Nat)]] w fun e w' => e = .returned (.bool false) ∧ Below w.heap.size w w')) :
    Calls Tryz.prog 66 #[.agg #[.bool (n ), .int .u64 (lm ( V) 0 : Nat), .int .u64 (lm ( V) 1 : Nat), .int .u64 (lm ( V) 2 : Nat), .int .u64 (lm ( V) 3 : Nat)], f, .bool neg] w fun e w' => e = .returned (.tuple #[.agg #[.bool (false ), .int .u64 (lm ( 0) 0 : Nat), .int .u64 (lm ( 0) 1 : Nat), .int .u64 (lm ( 0) 2 : Nat), .int .u64 (lm ( 0) 3 : Nat)], .bool false]) ∧ Below w.heap.size w w' := by
  go_enter Tryz.func66, Tryz.ntmps66
  repeat any_goals (first | (go_at_call 23; with_reducible refine (C.out _).mono ?_; rintro e w1 ⟨rfl, hb1⟩; have a1 := Lib.hid (ibox_hb2 hb1); obtain ⟨_, _, _, _, _⟩ := a1.out.all; (first | have z1 := Lib.hid (zi_hb1 hb1) | have z1 := Lib.hid (zi_hb hb1)); obtain ⟨_, _, _, _, _⟩ := z1.out.all) | go_skip | go_guarded | go_step | go_upon | (dsimp only []))
  refine bodyPost_ret (v := .tuple #[.agg #[.bool (false ), .int .u64 (lm ( 0) 0 : Nat), .int .u64 (lm ( 0) 1 : Nat), .int .u64 (lm ( 0) 2 : Nat), .int .u64 (lm ( 0) 3 : Nat)], .bool false]) ?_ rfl ⟨rfl, by (repeat first | with_reducible exact Below.refl _ _ | with_reducible assumption | with_reducible refine Below.drew ?_ | with_reducible refine below_alloc ?_ _ | ((with_reducible refine Below.setCell ?_ ?_ _); rotate_left; (focus (first | with_reducible exact Nat.le_refl _ | (simp; done) | (simp; omega) | omega))) | (with_reducible refine below_trans ?_ (by assumption)))⟩
  simp [results, Tryz.results66, go_sem, lm_zero, *]
set_option maxRecDepth 20000 in
set_option maxHeartbeats 3200000 in
theorem rough_next (nf : Nat → Bool) (Vf : Nat → Nat) (ef : Nat → Bool) (neg : Bool) (L : Nat) (s : Bool) (R : Nat) (w : World) (hT : Tabs w) (C : Hid (RoC 64 nf Vf ef neg L)) (hr : Hid (∀ j, j ≤ 2 → (∀ i, i < j → ef i = true) → ef j = false → s = nf j ∧ R = Vf j)) (ha : Hid (ef 0 = true → ef 1 = true → ef 2 = true → s = neg ∧ R = L)) :
    Calls Tryz.prog 66 #[.agg #[.bool (nf 0 ), .int .u64 (lm ( Vf 0) 0 : Nat), .int .u64 (lm ( Vf 0) 1 : Nat), .int .u64 (lm ( Vf 0) 2 : Nat), .int .u64 (lm ( Vf 0) 3 : Nat)], .func (Fn.func 64) #[] #[], .bool neg] w fun e w' => e = .returned (.tuple #[.agg #[.bool (s ), .int .u64 (lm ( R) 0 : Nat), .int .u64 (lm ( R) 1 : Nat), .int .u64 (lm ( R) 2 : Nat), .int .u64 (lm ( R) 3 : Nat)], .bool true]) ∧ Below w.heap.size w w' := by
  have T0 := Lib.hid hT
  clear hT
  obtain ⟨n0, hn0⟩ : ∃ x, x = nf 0 := ⟨_, rfl⟩
  obtain ⟨V0, hV0⟩ : ∃ x, x = Vf 0 := ⟨_, rfl⟩
  have M := C.out.c1
  rw [← hn0, ← hV0] at M ⊢
  have HM := Lib.hid M
  have H0 := Lib.hid (And.intro hn0 hV0)
  clear M hn0 hV0
  go_enter Tryz.func66, Tryz.ntmps66
  go_upto_region 3 with (first | (go_at_call 23; with_reducible refine (HM.out _).mono ?_; rintro e w1 ⟨rfl, hb1⟩; (first | have z1 := Lib.hid (zi_hb1 hb1) | have z1 := Lib.hid (zi_hb hb1)); obtain ⟨_, _, _, _, _⟩ := z1.out.all; (first | have T1 := Lib.hid (T0.out.below hb1) | have T1 := Lib.hid (T0.out.step hb1) | have T1 := Lib.hid (T0.out.step2 hb1))))
  have A1 := Lib.hid (iboxF_hb2 hb1)
  have hW1 : Below w.heap.size w w1 := by (repeat first | with_reducible exact Below.refl _ _ | with_reducible assumption | with_reducible refine Below.drew ?_ | with_reducible refine below_alloc ?_ _ | ((with_reducible refine Below.setCell ?_ ?_ _); rotate_left; (focus (first | with_reducible exact Nat.le_refl _ | (simp; done) | (simp; omega) | omega))) | (with_reducible refine below_trans ?_ (by assumption)))
  have hzl := z1.out.l
  have hal := A1.out.b.l
  repeat any_goals (first | go_skip | go_guarded | go_step | go_upon | (simp only []; done))
  go_loopw [14] (fun i wr => ∃ j : Nat, j ≤ 2 ∧ i = .int .i64 j ∧ (∀ i, i < j → ef i = true) ∧ IBoxF wr w.heap.size (nf j) (Vf j) ∧ ZI wr (w.heap.size + 1) ∧ Below w.heap.size w wr) (fun i _ => 2 - (intOf i).toNat)
  case atStart =>
    exact ⟨0, by omega, rfl, fun i h => absurd h (Nat.not_lt_zero _), by rw [← H0.out.1, ← H0.out.2]; exact A1.out, z1.out, hW1⟩
  case round =>
    obtain ⟨j, hj, rfl, hbef, hA, hZ, hW⟩ := hrel
    have hTw := T0.out.below hW
    have A2 := Lib.hid hA
    have Z2 := Lib.hid hZ
    have T2 := Lib.hid hTw
    have B2 := Lib.hid hbef
    clear hA hZ hTw hbef A1 z1 T1 hb1 hW1
    obtain ⟨x, hx⟩ : ∃ x, x = ef j := ⟨_, rfl⟩
    obtain ⟨nj, hnj⟩ : ∃ x, x = nf j := ⟨_, rfl⟩
    obtain ⟨Vj, hVj⟩ : ∃ x, x = Vf j := ⟨_, rfl⟩
    have E := C.out.c2 j
    have K := C.out.c3 j
    have hr2 := hr.out j hj B2.out
    rw [← hnj, ← hVj] at A2 E K hr2
    rw [← hx] at E K hr2
    have HE := Lib.hid E
    have HX := Lib.hid hx
    clear E hnj hVj hx
    obtain ⟨_, _, _, _, _⟩ := A2.out.all
    obtain ⟨_, _, _, _, _⟩ := Z2.out.all
    by_cases c0 : j < 2
    · cases x with
      | false =>
        obtain ⟨rfl, rfl⟩ := hr2 rfl
        repeat any_goals (first | (go_at_call 78; with_reducible refine (HE.out _ T2.out.t).mono ?_; rintro e w3 ⟨rfl, hb3⟩; (first | have A3 := Lib.hid (A2.out.below hb3) | have A3 := Lib.hid (A2.out.step hb3) | have A3 := Lib.hid (A2.out.step2 hb3)); obtain ⟨_, _, _, _, _⟩ := A3.out.all; (first | have Z3 := Lib.hid (Z2.out.below hb3) | have Z3 := Lib.hid (Z2.out.step hb3) | have Z3 := Lib.hid (Z2.out.step2 hb3)); obtain ⟨_, _, _, _, _⟩ := Z3.out.all) | go_skip | go_guarded | go_step | go_upon | (dsimp only []))
        refine bodyPost_ret (v := .tuple #[.agg #[.bool (s ), .int .u64 (lm ( R) 0 : Nat), .int .u64 (lm ( R) 1 : Nat), .int .u64 (lm ( R) 2 : Nat), .int .u64 (lm ( R) 3 : Nat)], .bool true]) ?_ rfl ⟨rfl, by (repeat first | with_reducible exact Below.refl _ _ | with_reducible assumption | with_reducible refine Below.drew ?_ | with_reducible refine below_alloc ?_ _ | ((with_reducible refine Below.setCell ?_ ?_ _); rotate_left; (focus (first | with_reducible exact Nat.le_refl _ | (simp; done) | (simp; omega) | omega))) | (with_reducible refine below_trans ?_ (by assumption)))⟩
        simp [results, Tryz.results66, go_sem, *]
      | true =>
        have HK := Lib.hid (K rfl)
        clear K hr2
        obtain ⟨nk, hnk⟩ : ∃ x, x = nf (j + 1) := ⟨_, rfl⟩
        obtain ⟨Vk, hVk⟩ : ∃ x, x = Vf (j + 1) := ⟨_, rfl⟩
        rw [← hnk, ← hVk] at HK
        have HN := Lib.hid (And.intro hnk hVk)
        clear hnk hVk
        repeat any_goals (first | (go_at_call 78; with_reducible refine (HE.out _ T2.out.t).mono ?_; rintro e w3 ⟨rfl, hb3⟩; (first | have A3 := Lib.hid (A2.out.below hb3) | have A3 := Lib.hid (A2.out.step hb3) | have A3 := Lib.hid (A2.out.step2 hb3)); obtain ⟨_, _, _, _, _⟩ := A3.out.all; (first | have Z3 := Lib.hid (Z2.out.below hb3) | have Z3 := Lib.hid (Z2.out.step hb3) | have Z3 := Lib.hid (Z2.out.step2 hb3)); obtain ⟨_, _, _, _, _⟩ := Z3.out.all; (first | have T3 := Lib.hid (T2.out.below hb3) | have T3 := Lib.hid (T2.out.step hb3) | have T3 := Lib.hid (T2.out.step2 hb3))) | (go_at_call 64; with_reducible refine (HK.out _).mono ?_; rintro e w4 ⟨rfl, hb4⟩; (first | have A4 := Lib.hid (A3.out.below hb4) | have A4 := Lib.hid (A3.out.step hb4) | have A4 := Lib.hid (A3.out.step2 hb4)); obtain ⟨_, _, _, _, _⟩ := A4.out.all; (first | have Z4 := Lib.hid (Z3.out.below hb4) | have Z4 := Lib.hid (Z3.out.step hb4) | have Z4 := Lib.hid (Z3.out.step2 hb4)); obtain ⟨_, _, _, _, _⟩ := Z4.out.all; (first | have T4 := Lib.hid (T3.out.below hb4) | have T4 := Lib.hid (T3.out.step hb4) | have T4 := Lib.hid (T3.out.step2 hb4))) | go_skip | go_guarded | go_step | go_upon | (dsimp only []))
        go_roundw
        case rel =>
          refine ⟨j + 1, by omega, by go_num, fun i hi => ?_, by rw [← HN.out.1, ← HN.out.2]; exact (A4.out.set (m := nk) (V := Vk)).alloc _, (Z4.out.far5 (by omega)).alloc _, by (repeat first | with_reducible exact Below.refl _ _ | with_reducible assumption | with_reducible refine Below.drew ?_ | with_reducible refine below_alloc ?_ _ | ((with_reducible refine Below.setCell ?_ ?_ _); rotate_left; (focus (first | with_reducible exact Nat.le_refl _ | (simp; done) | (simp; omega) | omega))) | (with_reducible refine below_trans ?_ (by assumption)))⟩
          by_cases h : i = j
          · rw [h, ← HX.out]
          · exact B2.out i (by omega)
        case measure => first | (simp [intOf]; done) | (simp [intOf]; omega)
    · have hj2 : j = 2 := by omega
      subst hj2
      cases x with
      | false =>
        obtain ⟨rfl, rfl⟩ := hr2 rfl
        repeat any_goals (first | (go_at_call 78; with_reducible refine (HE.out _ T2.out.t).mono ?_; rintro e w3 ⟨rfl, hb3⟩; (first | have A3 := Lib.hid (A2.out.below hb3) | have A3 := Lib.hid (A2.out.step hb3) | have A3 := Lib.hid (A2.out.step2 hb3)); obtain ⟨_, _, _, _, _⟩ := A3.out.all; (first | have Z3 := Lib.hid (Z2.out.below hb3) | have Z3 := Lib.hid (Z2.out.step hb3) | have Z3 := Lib.hid (Z2.out.step2 hb3)); obtain ⟨_, _, _, _, _⟩ := Z3.out.all) | go_skip | go_guarded | go_step | go_upon | (dsimp only []))
        refine bodyPost_ret (v := .tuple #[.agg #[.bool (s ), .int .u64 (lm ( R) 0 : Nat), .int .u64 (lm ( R) 1 : Nat), .int .u64 (lm ( R) 2 : Nat), .int .u64 (lm ( R) 3 : Nat)], .bool true]) ?_ rfl ⟨rfl, by (repeat first | with_reducible exact Below.refl _ _ | with_reducible assumption | with_reducible refine Below.drew ?_ | with_reducible refine below_alloc ?_ _ | ((with_reducible refine Below.setCell ?_ ?_ _); rotate_left; (focus (first | with_reducible exact Nat.le_refl _ | (simp; done) | (simp; omega) | omega))) | (with_reducible refine below_trans ?_ (by assumption)))⟩
        simp [results, Tryz.results66, go_sem, *]
      | true =>
        obtain ⟨rfl, rfl⟩ := ha.out (B2.out 0 (by omega)) (B2.out 1 (by omega)) HX.out.symm
        repeat any_goals (first | (go_at_call 78; with_reducible refine (HE.out _ T2.out.t).mono ?_; rintro e w3 ⟨rfl, hb3⟩; (first | have A3 := Lib.hid (A2.out.below hb3) | have A3 := Lib.hid (A2.out.step hb3) | have A3 := Lib.hid (A2.out.step2 hb3)); obtain ⟨_, _, _, _, _⟩ := A3.out.all; (first | have Z3 := Lib.hid (Z2.out.below hb3) | have Z3 := Lib.hid (Z2.out.step hb3) | have Z3 := Lib.hid (Z2.out.step2 hb3)); obtain ⟨_, _, _, _, _⟩ := Z3.out.all) | (go_at_call 79; with_reducible refine (C.out.c4 _).mono ?_; rintro e w4 ⟨rfl, hb4⟩; (first | have Z4 := Lib.hid (Z3.out.below hb4) | have Z4 := Lib.hid (Z3.out.step hb4) | have Z4 := Lib.hid (Z3.out.step2 hb4)); obtain ⟨_, _, _, _, _⟩ := Z4.out.all) | (go_at_call 77; with_reducible refine (C.out.c5 _).mono ?_; rintro e w5 ⟨rfl, hb5⟩; (first | have Z5 := Lib.hid (Z4.out.below hb5) | have Z5 := Lib.hid (Z4.out.step hb5) | have Z5 := Lib.hid (Z4.out.step2 hb5)); obtain ⟨_, _, _, _, _⟩ := Z5.out.all) | go_skip | go_guarded | go_step | go_upon | (dsimp only []))
        refine bodyPost_ret (v := .tuple #[.agg #[.bool (s ), .int .u64 (lm ( R) 0 : Nat), .int .u64 (lm ( R) 1 : Nat), .int .u64 (lm ( R) 2 : Nat), .int .u64 (lm ( R) 3 : Nat)], .bool true]) ?_ rfl ⟨rfl, by (repeat first | with_reducible exact Below.refl _ _ | with_reducible assumption | with_reducible refine Below.drew ?_ | with_reducible refine below_alloc ?_ _ | ((with_reducible refine Below.setCell ?_ ?_ _); rotate_left; (focus (first | with_reducible exact Nat.le_refl _ | (simp; done) | (simp; omega) | omega))) | (with_reducible refine below_trans ?_ (by assumption)))⟩
        simp [results, Tryz.results66, go_sem, *]
set_option maxRecDepth 20000 in
set_option maxHeartbeats 3200000 in
theorem rough_prev (nf : Nat → Bool) (Vf : Nat → Nat) (ef : Nat → Bool) (neg : Bool) (L : Nat) (s : Bool) (R : Nat) (w : World) (hT : Tabs w) (C : Hid (RoC 63 nf Vf ef neg L)) (hr : Hid (∀ j, j ≤ 2 → (∀ i, i < j → ef i = true) → ef j = false → s = nf j ∧ R = Vf j)) (ha : Hid (ef 0 = true → ef 1 = true → ef 2 = true → s = neg ∧ R = L)) :
    Calls Tryz.prog 66 #[.agg #[.bool (nf 0 ), .int .u64 (lm ( Vf 0) 0 : Nat), .int .u64 (lm ( Vf 0) 1 : Nat), .int .u64 (lm ( Vf 0) 2 : Nat), .int .u64 (lm ( Vf 0) 3 : Nat)], .func (Fn.func 63) #[] #[], .bool neg] w fun e w' => e = .returned (.tuple #[.agg #[.bool (s ), .int .u64 (lm ( R) 0 : Nat), .int .u64 (lm ( R) 1 : Nat), .int .u64 (lm ( R) 2 : Nat), .int .u64 (lm ( R) 3 : Nat)], .bool true]) ∧ Below w.heap.size w w' := by
  have T0 := Lib.hid hT
  clear hT
  obtain ⟨n0, hn0⟩ : ∃ x, x = nf 0 := ⟨_, rfl⟩
  obtain ⟨V0, hV0⟩ : ∃ x, x = Vf 0 := ⟨_, rfl⟩
  have M := C.out.c1
  rw [← hn0, ← hV0] at M ⊢
  have HM := Lib.hid M
  have H0 := Lib.hid (And.intro hn0 hV0)
  clear M hn0 hV0
  go_enter Tryz.func66, Tryz.ntmps66
  go_upto_region 3 with (first | (go_at_call 23; with_reducible refine (HM.out _).mono ?_; rintro e w1 ⟨rfl, hb1⟩; (first | have z1 := Lib.hid (zi_hb1 hb1) | have z1 := Lib.hid (zi_hb hb1)); obtain ⟨_, _, _, _, _⟩ := z1.out.all; (first | have T1 := Lib.hid (T0.out.below hb1) | have T1 := Lib.hid (T0.out.step hb1) | have T1 := Lib.hid (T0.out.step2 hb1))))
  have A1 := Lib.hid (iboxF_hb2 hb1)
  have hW1 : Below w.heap.size w w1 := by (repeat first | with_reducible exact Below.refl _ _ | with_reducible assumption | with_reducible refine Below.drew ?_ | with_reducible refine below_alloc ?_ _ | ((with_reducible refine Below.setCell ?_ ?_ _); rotate_left; (focus (first | with_reducible exact Nat.le_refl _ | (simp; done) | (simp; omega) | omega))) | (with_reducible refine below_trans ?_ (by assumption)))
  have hzl := z1.out.l
  have hal := A1.out.b.l
  repeat any_goals (first | go_skip | go_guarded | go_step | go_upon | (simp only []; done))
  go_loopw [14] (fun i wr => ∃ j : Nat, j ≤ 2 ∧ i = .int .i64 j ∧ (∀ i, i < j → ef i = true) ∧ IBoxF wr w.heap.size (nf j) (Vf j) ∧ ZI wr (w.heap.size + 1) ∧ Below w.heap.size w wr) (fun i _ => 2 - (intOf i).toNat)
  case atStart =>
    exact ⟨0, by omega, rfl, fun i h => absurd h (Nat.not_lt_zero _), by rw [← H0.out.1, ← H0.out.2]; exact A1.out, z1.out, hW1⟩
  case round =>
    obtain ⟨j, hj, rfl, hbef, hA, hZ, hW⟩ := hrel
    have hTw := T0.out.below hW
    have A2 := Lib.hid hA
    have Z2 := Lib.hid hZ
    have T2 := Lib.hid hTw
    have B2 := Lib.hid hbef
    clear hA hZ hTw hbef A1 z1 T1 hb1 hW1
    obtain ⟨x, hx⟩ : ∃ x, x = ef j := ⟨_, rfl⟩
    obtain ⟨nj, hnj⟩ : ∃ x, x = nf j := ⟨_, rfl⟩
    obtain ⟨Vj, hVj⟩ : ∃ x, x = Vf j := ⟨_, rfl⟩
    have E := C.out.c2 j
    have K := C.out.c3 j
    have hr2 := hr.out j hj B2.out
    rw [← hnj, ← hVj] at A2 E K hr2
    rw [← hx] at E K hr2
    have HE := Lib.hid E
    have HX := Lib.hid hx
    clear E hnj hVj hx
    obtain ⟨_, _, _, _, _⟩ := A2.out.all
    obtain ⟨_, _, _, _, _⟩ := Z2.out.all
    by_cases c0 : j < 2
    · cases x with
      | false =>
        obtain ⟨rfl, rfl⟩ := hr2 rfl
        repeat any_goals (first | (go_at_call 78; with_reducible refine (HE.out _ T2.out.t).mono ?_; rintro e w3 ⟨rfl, hb3⟩; (first | have A3 := Lib.hid (A2.out.below hb3) | have A3 := Lib.hid (A2.out.step hb3) | have A3 := Lib.hid (A2.out.step2 hb3)); obtain ⟨_, _, _, _, _⟩ := A3.out.all; (first | have Z3 := Lib.hid (Z2.out.below hb3) | have Z3 := Lib.hid (Z2.out.step hb3) | have Z3 := Lib.hid (Z2.out.step2 hb3)); obtain ⟨_, _, _, _, _⟩ := Z3.out.all) | go_skip | go_guarded | go_step | go_upon | (dsimp only []))
        refine bodyPost_ret (v := .tuple #[.agg #[.bool (s ), .int .u64 (lm ( R) 0 : Nat), .int .u64 (lm ( R) 1 : Nat), .int .u64 (lm ( R) 2 : Nat), .int .u64 (lm ( R) 3 : Nat)], .bool true]) ?_ rfl ⟨rfl, by (repeat first | with_reducible exact Below.refl _ _ | with_reducible assumption | with_reducible refine Below.drew ?_ | with_reducible refine below_alloc ?_ _ | ((with_reducible refine Below.setCell ?_ ?_ _); rotate_left; (focus (first | with_reducible exact Nat.le_refl _ | (simp; done) | (simp; omega) | omega))) | (with_reducible refine below_trans ?_ (by assumption)))⟩
        simp [results, Tryz.results66, go_sem, *]
      | true =>
        have HK := Lib.hid (K rfl)
        clear K hr2
        obtain ⟨nk, hnk⟩ : ∃ x, x = nf (j + 1) := ⟨_, rfl⟩
        obtain ⟨Vk, hVk⟩ : ∃ x, x = Vf (j + 1) := ⟨_, rfl⟩
        rw [← hnk, ← hVk] at HK
        have HN := Lib.hid (And.intro hnk hVk)
        clear hnk hVk
        repeat any_goals (first | (go_at_call 78; with_reducible refine (HE.out _ T2.out.t).mono ?_; rintro e w3 ⟨rfl, hb3⟩; (first | have A3 := Lib.hid (A2.out.below hb3) | have A3 := Lib.hid (A2.out.step hb3) | have A3 := Lib.hid (A2.out.step2 hb3)); obtain ⟨_, _, _, _, _⟩ := A3.out.all; (first | have Z3 := Lib.hid (Z2.out.below hb3) | have Z3 := Lib.hid (Z2.out.step hb3) | have Z3 := Lib.hid (Z2.out.step2 hb3)); obtain ⟨_, _, _, _, _⟩ := Z3.out.all; (first | have T3 := Lib.hid (T2.out.below hb3) | have T3 := Lib.hid (T2.out.step hb3) | have T3 := Lib.hid (T2.out.step2 hb3))) | (go_at_call 63; with_reducible refine (HK.out _).mono ?_; rintro e w4 ⟨rfl, hb4⟩; (first | have A4 := Lib.hid (A3.out.below hb4) | have A4 := Lib.hid (A3.out.step hb4) | have A4 := Lib.hid (A3.out.step2 hb4)); obtain ⟨_, _, _, _, _⟩ := A4.out.all; (first | have Z4 := Lib.hid (Z3.out.below hb4) | have Z4 := Lib.hid (Z3.out.step hb4) | have Z4 := Lib.hid (Z3.out.step2 hb4)); obtain ⟨_, _, _, _, _⟩ := Z4.out.all; (first | have T4 := Lib.hid (T3.out.below hb4) | have T4 := Lib.hid (T3.out.step hb4) | have T4 := Lib.hid (T3.out.step2 hb4))) | go_skip | go_guarded | go_step | go_upon | (dsimp only []))
        go_roundw
        case rel =>
          refine ⟨j + 1, by omega, by go_num, fun i hi => ?_, by rw [← HN.out.1, ← HN.out.2]; exact (A4.out.set (m := nk) (V := Vk)).alloc _, (Z4.out.far5 (by omega)).alloc _, by (repeat first | with_reducible exact Below.refl _ _ | with_reducible assumption | with_reducible refine Below.drew ?_ | with_reducible refine below_alloc ?_ _ | ((with_reducible refine Below.setCell ?_ ?_ _); rotate_left; (focus (first | with_reducible exact Nat.le_refl _ | (simp; done) | (simp; omega) | omega))) | (with_reducible refine below_trans ?_ (by assumption)))⟩
          by_cases h : i = j
          · rw [h, ← HX.out]
          · exact B2.out i (by omega)
        case measure => first | (simp [intOf]; done) | (simp [intOf]; omega)
    · have hj2 : j = 2 := by omega
      subst hj2
      cases x with
      | false =>
        obtain ⟨rfl, rfl⟩ := hr2 rfl
        repeat any_goals (first | (go_at_call 78; with_reducible refine (HE.out _ T2.out.t).mono ?_; rintro e w3 ⟨rfl, hb3⟩; (first | have A3 := Lib.hid (A2.out.below hb3) | have A3 := Lib.hid (A2.out.step hb3) | have A3 := Lib.hid (A2.out.step2 hb3)); obtain ⟨_, _, _, _, _⟩ := A3.out.all; (first | have Z3 := Lib.hid (Z2.out.below hb3) | have Z3 := Lib.hid (Z2.out.step hb3) | have Z3 := Lib.hid (Z2.out.step2 hb3)); obtain ⟨_, _, _, _, _⟩ := Z3.out.all) | go_skip | go_guarded | go_step | go_upon | (dsimp only []))
        refine bodyPost_ret (v := .tuple #[.agg #[.bool (s ), .int .u64 (lm ( R) 0 : Nat), .int .u64 (lm ( R) 1 : Nat), .int .u64 (lm ( R) 2 : Nat), .int .u64 (lm ( R) 3 : Nat)], .bool true]) ?_ rfl ⟨rfl, by (repeat first | with_reducible exact Below.refl _ _ | with_reducible assumption | with_reducible refine Below.drew ?_ | with_reducible refine below_alloc ?_ _ | ((with_reducible refine Below.setCell ?_ ?_ _); rotate_left; (focus (first | with_reducible exact Nat.le_refl _ | (simp; done) | (simp; omega) | omega))) | (with_reducible refine below_trans ?_ (by assumption)))⟩
        simp [results, Tryz.results66, go_sem, *]
      | true =>
        obtain ⟨rfl, rfl⟩ := ha.out (B2.out 0 (by omega)) (B2.out 1 (by omega)) HX.out.symm
        repeat any_goals (first | (go_at_call 78; with_reducible refine (HE.out _ T2.out.t).mono ?_; rintro e w3 ⟨rfl, hb3⟩; (first | have A3 := Lib.hid (A2.out.below hb3) | have A3 := Lib.hid (A2.out.step hb3) | have A3 := Lib.hid (A2.out.step2 hb3)); obtain ⟨_, _, _, _, _⟩ := A3.out.all; (first | have Z3 := Lib.hid (Z2.out.below hb3) | have Z3 := Lib.hid (Z2.out.step hb3) | have Z3 := Lib.hid (Z2.out.step2 hb3)); obtain ⟨_, _, _, _, _⟩ := Z3.out.all) | (go_at_call 79; with_reducible refine (C.out.c4 _).mono ?_; rintro e w4 ⟨rfl, hb4⟩; (first | have Z4 := Lib.hid (Z3.out.below hb4) | have Z4 := Lib.hid (Z3.out.step hb4) | have Z4 := Lib.hid (Z3.out.step2 hb4)); obtain ⟨_, _, _, _, _⟩ := Z4.out.all) | (go_at_call 77; with_reducible refine (C.out.c5 _).mono ?_; rintro e w5 ⟨rfl, hb5⟩; (first | have Z5 := Lib.hid (Z4.out.below hb5) | have Z5 := Lib.hid (Z4.out.step hb5) | have Z5 := Lib.hid (Z4.out.step2 hb5)); obtain ⟨_, _, _, _, _⟩ := Z5.out.all) | go_skip | go_guarded | go_step | go_upon | (dsimp only []))
        refine bodyPost_ret (v := .tuple #[.agg #[.bool (s ), .int .u64 (lm ( R) 0 : Nat), .int .u64 (lm ( R) 1 : Nat), .int .u64 (lm ( R) 2 : Nat), .int .u64 (lm ( R) 3 : Nat)], .bool true]) ?_ rfl ⟨rfl, by (repeat first | with_reducible exact Below.refl _ _ | with_reducible assumption | with_reducible refine Below.drew ?_ | with_reducible refine below_alloc ?_ _ | ((with_reducible refine Below.setCell ?_ ?_ _); rotate_left; (focus (first | with_reducible exact Nat.le_refl _ | (simp; done) | (simp; omega) | omega))) | (with_reducible refine below_trans ?_ (by assumption)))⟩
        simp [results, Tryz.results66, go_sem, *]

/-! ### the numbers on the way -/
def exZ (z : Int) : Bool := decide (exN (ab z))
def zs (d z : Int) : Nat → Int
  | 0 => z
  | j + 1 => if exZ (zs d z j) = true then zs d z j + d else zs d z j
theorem exZ_small {z : Int} (h : ab z ≤ 9007199254740992) : exZ z = true := decide_eq_true (exN_small h)
theorem exZ_even {z : Int} (h : exZ z = true) (h2 : 9007199254740992 < ab z) : ab z % 2 = 0 := exN_even h2 (of_decide_eq_true h)
theorem exZ_max {z : Int} (h : exZ z = true) (h2 : ab z < 2 ^ 256) : ab z + 1 < 2 ^ 256 := by
  by_cases c : 9007199254740992 < ab z
  · have := exZ_even h c
    omega
  · omega
theorem ab_step {z d : Int} (hd : d = 1 ∨ d = -1) : ab (z + d) ≤ ab z + 1 := by unfold ab; omega
theorem zs_lt {d z : Int} (hd : d = 1 ∨ d = -1) (h : ab z < 2 ^ 256) (j : Nat) : ab (zs d z j) < 2 ^ 256 := by
  induction j with
  | zero => exact h
  | succ j ih =>
    show ab (if exZ (zs d z j) = true then zs d z j + d else zs d z j) < 2 ^ 256
    split
    · rename_i hx
      have := exZ_max hx ih
      have := @ab_step (zs d z j) d hd
      omega
    · exact ih
theorem zs_succ {d z : Int} {j : Nat} (h : exZ (zs d z j) = true) : zs d z (j + 1) = zs d z j + d := if_pos h
theorem zs_1 {d z : Int} (h0 : exZ z = true) : zs d z 1 = z + d := zs_succ (j := 0) h0
theorem zs_2 {d z : Int} (h0 : exZ z = true) (h1 : exZ (z + d) = true) : zs d z 2 = z + d + d := by
  have := zs_1 (d := d) h0
  rw [zs_succ (j := 1) (by rw [this]; exact h1), this]
theorem exI_z (z : Int) : exactI (sg z) (ab z) = exZ z := by
  rw [exactI_eq, may_z, Bool.true_and]
  rfl
/-- the next number that is not exact: of one that may be -/
def rgZ (up : Bool) (z : Int) : Int :=
  if exZ z = true then (if up = true then (if -9007199254740992 ≤ z ∧ z < 9007199254740992 then 9007199254740993 else z + 1)
    else (if -9007199254740992 < z ∧ z ≤ 9007199254740992 then -9007199254740993 else z + -1)) else z
theorem rg_z {up n : Bool} {V : Nat} (h : mayI n V = true) : rg up n V = rgZ up (zI n V) := by
  unfold rg rgZ exZ
  rw [if_pos h, ab_zI]
  by_cases c : exN V
  · rw [if_pos c, if_pos (decide_eq_true c)]
  · rw [if_neg c, if_neg (by rw [decide_eq_true_eq]; exact c)]
theorem rg_seq {d z : Int} {up : Bool} (hd : up = true ∧ d = 1 ∨ up = false ∧ d = -1) (j : Nat) (hj : j ≤ 2) (hb : ∀ i, i < j → exZ (zs d z i) = true) (hn : exZ (zs d z j) = false) : rgZ up z = zs d z j := by
  have S : ∀ x : Int, exZ x = false → 9007199254740992 < ab x := fun x h => by
    by_cases c : 9007199254740992 < ab x
    · exact c
    · exact absurd (exZ_small (z := x) (by omega)) (by rw [h]; exact Bool.false_ne_true)
  match j, hj with
  | 0, _ =>
    unfold rgZ
    rw [if_neg (by rw [show exZ z = false from hn]; exact Bool.false_ne_true)]
    rfl
  | 1, _ =>
    have h0 : exZ z = true := hb 0 (by omega)
    rw [zs_1 h0] at hn ⊢
    have hs := S _ hn
    unfold ab at hs
    unfold rgZ
    rw [if_pos h0]
    rcases hd with ⟨rfl, rfl⟩ | ⟨rfl, rfl⟩
    · rw [if_pos rfl, if_neg (by omega)]
    · rw [if_neg Bool.false_ne_true, if_neg (by omega)]
  | 2, _ =>
    have h0 : exZ z = true := hb 0 (by omega)
    have h1 : exZ (zs d z 1) = true := hb 1 (by omega)
    rw [zs_1 h0] at h1
    rw [zs_2 h0 h1] at hn ⊢
    have hs := S _ hn
    have e0 := fun h => exZ_even h0 h
    have e1 := fun h => exZ_even h1 h
    unfold ab at hs e0 e1
    unfold rgZ
    rw [if_pos h0]
    rcases hd with ⟨rfl, rfl⟩ | ⟨rfl, rfl⟩
    · rw [if_pos rfl]
      by_cases c : -9007199254740992 ≤ z ∧ z < 9007199254740992
      · rw [if_pos c]; omega
      · have a0 := e0
        have a1 := e1
        exfalso
        omega
    · rw [if_neg Bool.false_ne_true]
      by_cases c : -9007199254740992 < z ∧ z ≤ 9007199254740992
      · rw [if_pos c]; omega
      · exfalso
        omega
theorem rg_all {d z : Int} {up : Bool} (hd : up = true ∧ d = 1 ∨ up = false ∧ d = -1) (h0 : exZ (zs d z 0) = true) (h1 : exZ (zs d z 1) = true) (h2 : exZ (zs d z 2) = true) : rgZ up z = if up = true then 9007199254740993 else -9007199254740993 := by
  have h0' : exZ z = true := h0
  rw [zs_1 h0'] at h1
  rw [zs_2 h0' h1] at h2
  have e0 := fun h => exZ_even h0' h
  have e1 := fun h => exZ_even h1 h
  unfold ab at e0 e1
  unfold rgZ
  rw [if_pos h0']
  rcases hd with ⟨rfl, rfl⟩ | ⟨rfl, rfl⟩
  · rw [if_pos rfl, if_pos rfl, if_pos (by omega)]
  · rw [if_neg Bool.false_ne_true, if_neg Bool.false_ne_true, if_pos (by omega)]
end Go.Proofs.YtekeedjhaakbhaaGreatDoor

namespace Go.Proofs.YtekeedjhaakbhaaGreatDoor
open Go.RowKit
set_option maxRecDepth 20000 in
set_option maxHeartbeats 1600000 in
theorem RUp_walk (n : Bool) (V R : Nat) (s q : Bool) (w : World) (hT : Tabs w) (C : Hid (∀ w : World, Tabs w → Calls Tryz.prog 66 #[.agg #[.bool (n ), .int .u64 (lm ( V) 0 : Nat), .int .u64 (lm ( V) 1 : Nat), .int .u64 (lm ( V) 2 : Nat), .int .u64 (lm ( V) 3 : Nat)], .func (Fn.func 64) #[] #[], .bool false] w fun e w' => e = .returned (.tuple #[.agg #[.bool (s ), .int .u64 (lm ( R) 0 : Nat), .int .u64 (lm ( R) 1 : Nat), .int .u64 (lm ( R) 2 : Nat), .int .u64 (lm ( R) 3 : Nat)], .bool q]) ∧ Below w.heap.size w w')) :
    Calls Tryz.prog 40 #[.agg #[.bool (n ), .int .u64 (lm ( V) 0 : Nat), .int .u64 (lm ( V) 1 : Nat), .int .u64 (lm ( V) 2 : Nat), .int .u64 (lm ( V) 3 : Nat)]] w fun e w' => e = .returned (.tuple #[.agg #[.bool (s ), .int .u64 (lm ( R) 0 : Nat), .int .u64 (lm ( R) 1 : Nat), .int .u64 (lm ( R) 2 : Nat), .int .u64 (lm ( R) 3 : Nat)], .bool q]) ∧ Below w.heap.size w w' := by
  have T0 := Lib.hid hT
  clear hT
  go_enter Tryz.func40, Tryz.ntmps40
  repeat any_goals (first | (go_at_call 66; with_reducible refine (C.out _ ((T0.out.alloc _).alloc _)).mono ?_; rintro e w2 ⟨rfl, hb2⟩; (first | have z2 := Lib.hid (zi_hb1 hb2) | have z2 := Lib.hid (zi_hb hb2)); obtain ⟨_, _, _, _, _⟩ := z2.out.all) | go_skip | go_guarded | go_step | go_upon | (dsimp only []))
  refine bodyPost_ret (v := .tuple #[.agg #[.bool (s ), .int .u64 (lm ( R) 0 : Nat), .int .u64 (lm ( R) 1 : Nat), .int .u64 (lm ( R) 2 : Nat), .int .u64 (lm ( R) 3 : Nat)], .bool q]) ?_ rfl ⟨rfl, by (repeat first | with_reducible exact Below.refl _ _ | with_reducible assumption | with_reducible refine Below.drew ?_ | with_reducible refine below_alloc ?_ _ | ((with_reducible refine Below.setCell ?_ ?_ _); rotate_left; (focus (first | with_reducible exact Nat.le_refl _ | (simp; done) | (simp; omega) | omega))) | (with_reducible refine below_trans ?_ (by assumption)))⟩
  simp [results, Tryz.results40, go_sem, *]
set_option maxRecDepth 20000 in
set_option maxHeartbeats 1600000 in
theorem RDown_walk (n : Bool) (V R : Nat) (s q : Bool) (w : World) (hT : Tabs w) (C : Hid (∀ w : World, Tabs w → Calls Tryz.prog 66 #[.agg #[.bool (n ), .int .u64 (lm ( V) 0 : Nat), .int .u64 (lm ( V) 1 : Nat), .int .u64 (lm ( V) 2 : Nat), .int .u64 (lm ( V) 3 : Nat)], .func (Fn.func 63) #[] #[], .bool true] w fun e w' => e = .returned (.tuple #[.agg #[.bool (s ), .int .u64 (lm ( R) 0 : Nat), .int .u64 (lm ( R) 1 : Nat), .int .u64 (lm ( R) 2 : Nat), .int .u64 (lm ( R) 3 : Nat)], .bool q]) ∧ Below w.heap.size w w')) :
    Calls Tryz.prog 41 #[.agg #[.bool (n ), .int .u64 (lm ( V) 0 : Nat), .int .u64 (lm ( V) 1 : Nat), .int .u64 (lm ( V) 2 : Nat), .int .u64 (lm ( V) 3 : Nat)]] w fun e w' => e = .returned (.tuple #[.agg #[.bool (s ), .int .u64 (lm ( R) 0 : Nat), .int .u64 (lm ( R) 1 : Nat), .int .u64 (lm ( R) 2 : Nat), .int .u64 (lm ( R) 3 : Nat)], .bool q]) ∧ Below w.heap.size w w' := by
  have T0 := Lib.hid hT
  clear hT
  go_enter Tryz.func41, Tryz.ntmps41
  repeat any_goals (first | (go_at_call 66; with_reducible refine (C.out _ ((T0.out.alloc _).alloc _)).mono ?_; rintro e w2 ⟨rfl, hb2⟩; (first | have z2 := Lib.hid (zi_hb1 hb2) | have z2 := Lib.hid (zi_hb hb2)); obtain ⟨_, _, _, _, _⟩ := z2.out.all) | go_skip | go_guarded | go_step | go_upon | (dsimp only []))
  refine bodyPost_ret (v := .tuple #[.agg #[.bool (s ), .int .u64 (lm ( R) 0 : Nat), .int .u64 (lm ( R) 1 : Nat), .int .u64 (lm ( R) 2 : Nat), .int .u64 (lm ( R) 3 : Nat)], .bool q]) ?_ rfl ⟨rfl, by (repeat first | with_reducible exact Below.refl _ _ | with_reducible assumption | with_reducible refine Below.drew ?_ | with_reducible refine below_alloc ?_ _ | ((with_reducible refine Below.setCell ?_ ?_ _); rotate_left; (focus (first | with_reducible exact Nat.le_refl _ | (simp; done) | (simp; omega) | omega))) | (with_reducible refine below_trans ?_ (by assumption)))⟩
  simp [results, Tryz.results41, go_sem, *]
theorem nx_z {d z : Int} (h : ab (z + d) < 2 ^ 256) : nxOk d (sg z) (ab z) = true ∧ nx d (sg z) (ab z) = z + d := by
  have e : nxOk d (sg z) (ab z) = true := by
    unfold nxOk
    rw [may_z, z_z, decide_eq_true h]
    rfl
  refine ⟨e, ?_⟩
  unfold nx
  rw [if_pos e, z_z]
theorem roC {g : Nat} {d : Int} (hd : d = 1 ∨ d = -1) (z : Int) (hz : ab z < 2 ^ 256) (neg : Bool)
    (K : ∀ (n : Bool) (V : Nat) (_ : V < 2 ^ 256) (w : World), Calls Tryz.prog g #[.agg #[.bool (n ), .int .u64 (lm ( V) 0 : Nat), .int .u64 (lm ( V) 1 : Nat), .int .u64 (lm ( V) 2 : Nat), .int .u64 (lm ( V) 3 : Nat)]] w fun e w' => e = .returned (.tuple #[.agg #[.bool (sg (nx d n V) ), .int .u64 (lm ( ab (nx d n V)) 0 : Nat), .int .u64 (lm ( ab (nx d n V)) 1 : Nat), .int .u64 (lm ( ab (nx d n V)) 2 : Nat), .int .u64 (lm ( ab (nx d n V)) 3 : Nat)], .bool (nxOk d n V)]) ∧ Below w.heap.size w w') :
    RoC g (fun j => sg (zs d z j)) (fun j => ab (zs d z j)) (fun j => exZ (zs d z j)) neg 9007199254740993 := by
  refine ⟨fun w => ?_, fun j w hT => ?_, fun j hx w => ?_, fun w => ?_, fun w => ?_⟩
  · have h := May_any (sg (zs d z 0)) (ab (zs d z 0)) (zs_lt hd hz 0) w
    rw [may_z] at h
    exact h
  · have h := Exact_any (sg (zs d z j)) (ab (zs d z j)) (zs_lt hd hz j) w hT
    rw [exI_z] at h
    exact h
  · have h := K (sg (zs d z j)) (ab (zs d z j)) (zs_lt hd hz j) w
    have e := zs_succ (d := d) (z := z) (j := j) hx
    have hl := zs_lt hd hz (j + 1)
    rw [e] at hl
    rw [(nx_z hl).1, (nx_z hl).2, ← e] at h
    exact h
  · exact OfV_any 9007199254740993 (by decide) w
  · have h := of_any neg 9007199254740993 (by decide) w
    rw [show (neg && (9007199254740993 : Nat) != 0) = neg from by cases neg <;> rfl] at h
    exact h
theorem rg_no {up n : Bool} {V : Nat} (h : mayI n V = false) : rg up n V = 0 := by
  unfold rg
  rw [if_neg (by rw [h]; exact Bool.false_ne_true)]
/-- **RoughUp.** -/
theorem RoughUp_any (n : Bool) (V : Nat) (hV : V < 2 ^ 256) (w : World) (hT : Tabs w) :
    Calls Tryz.prog 40 #[.agg #[.bool (n ), .int .u64 (lm ( V) 0 : Nat), .int .u64 (lm ( V) 1 : Nat), .int .u64 (lm ( V) 2 : Nat), .int .u64 (lm ( V) 3 : Nat)]] w fun e w' => e = .returned (.tuple #[.agg #[.bool (sg (rg true n V) ), .int .u64 (lm ( ab (rg true n V)) 0 : Nat), .int .u64 (lm ( ab (rg true n V)) 1 : Nat), .int .u64 (lm ( ab (rg true n V)) 2 : Nat), .int .u64 (lm ( ab (rg true n V)) 3 : Nat)], .bool (mayI n V)]) ∧ Below w.heap.size w w' := by
  refine RUp_walk n V _ _ _ w hT (Lib.hid fun w hT => ?_)
  cases hm : mayI n V with
  | false =>
    have M := May_any n V hV
    rw [hm] at M
    rw [rg_no hm]
    exact rough_no n V _ false w (Lib.hid M)
  | true =>
    rw [rg_z hm]
    have hz : ab (zI n V) < 2 ^ 256 := by rw [ab_zI]; exact hV
    have R := roC (d := 1) (.inl rfl) (zI n V) hz false Next_any
    have h := rough_next _ _ _ false _ (sg (rgZ true (zI n V))) (ab (rgZ true (zI n V))) w hT (Lib.hid R) (Lib.hid fun j hj hb hn => by
      rw [rg_seq (d := 1) (.inl ⟨rfl, rfl⟩) j hj hb hn]
      exact ⟨rfl, rfl⟩) (Lib.hid fun h0 h1 h2 => by
      rw [rg_all (d := 1) (.inl ⟨rfl, rfl⟩) h0 h1 h2]
      exact ⟨rfl, rfl⟩)
    have e1 : sg (zs 1 (zI n V) 0) = n := sg_zI hm
    have e2 : ab (zs 1 (zI n V) 0) = V := ab_zI n V
    simp only [e1, e2] at h
    exact h
/-- **RoughDown.** -/
theorem RoughDown_any (n : Bool) (V : Nat) (hV : V < 2 ^ 256) (w : World) (hT : Tabs w) :
    Calls Tryz.prog 41 #[.agg #[.bool (n ), .int .u64 (lm ( V) 0 : Nat), .int .u64 (lm ( V) 1 : Nat), .int .u64 (lm ( V) 2 : Nat), .int .u64 (lm ( V) 3 : Nat)]] w fun e w' => e = .returned (.tuple #[.agg #[.bool (sg (rg false n V) ), .int .u64 (lm ( ab (rg false n V)) 0 : Nat), .int .u64 (lm ( ab (rg false n V)) 1 : Nat), .int .u64 (lm ( ab (rg false n V)) 2 : Nat), .int .u64 (lm ( ab (rg false n V)) 3 : Nat)], .bool (mayI n V)]) ∧ Below w.heap.size w w' := by
  refine RDown_walk n V _ _ _ w hT (Lib.hid fun w hT => ?_)
  cases hm : mayI n V with
  | false =>
    have M := May_any n V hV
    rw [hm] at M
    rw [rg_no hm]
    exact rough_no n V _ true w (Lib.hid M)
  | true =>
    rw [rg_z hm]
    have hz : ab (zI n V) < 2 ^ 256 := by rw [ab_zI]; exact hV
    have R := roC (d := -1) (.inr rfl) (zI n V) hz true Prev_any
    have h := rough_prev _ _ _ true _ (sg (rgZ false (zI n V))) (ab (rgZ false (zI n V))) w hT (Lib.hid R) (Lib.hid fun j hj hb hn => by
      rw [rg_seq (d := -1) (.inr ⟨rfl, rfl⟩) j hj hb hn]
      exact ⟨rfl, rfl⟩) (Lib.hid fun h0 h1 h2 => by
      rw [rg_all (d := -1) (.inr ⟨rfl, rfl⟩) h0 h1 h2]
      exact ⟨rfl, rfl⟩)
    have e1 : sg (zs (-1) (zI n V) 0) = n := sg_zI hm
    have e2 : ab (zs (-1) (zI n V) 0) = V := ab_zI n V
    simp only [e1, e2] at h
    exact h
end Go.Proofs.YtekeedjhaakbhaaGreatDoor

namespace Go.Proofs.YtekeedjhaakbhaaGreatDoor
open Go.RowKit
end Go.Proofs.YtekeedjhaakbhaaGreatDoor
