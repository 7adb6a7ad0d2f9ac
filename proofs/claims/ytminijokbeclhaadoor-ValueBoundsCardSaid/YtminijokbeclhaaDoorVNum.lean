/- Contract: Number: a float's value. -/
import Derived.Test.YtminijokbeclhaaDoorVMay
namespace Go.Proofs.YtminijokbeclhaaDoor
open Go.RowKit
/-- what a float's value is -/
def numT (b : Nat) : VT := if whk b = true then .mk 3 (whN b) (whV b) 0 ⟨#[]⟩ none 0 0 (fun _ => .nil) none 0 0 (fun _ => ⟨#[]⟩) else .mk 4 false 0 (canonF b) ⟨#[]⟩ none 0 0 (fun _ => .nil) none 0 0 (fun _ => ⟨#[]⟩)
/-- a value's block of noughts -/
structure ZV (W' : World) (B : Nat) : Prop where
  all : (W'.cell? ⟨B, 0, none⟩ = some (.int .i64 0) ∧ W'.cell? ⟨B, 1, none⟩ = some (.bool false) ∧ W'.cell? ⟨B, 2, none⟩ = some (.int .u64 0) ∧ W'.cell? ⟨B, 3, none⟩ = some (.int .u64 0) ∧ W'.cell? ⟨B, 4, none⟩ = some (.int .u64 0) ∧ W'.cell? ⟨B, 5, none⟩ = some (.int .u64 0) ∧ W'.cell? ⟨B, 6, none⟩ = some (.int .u64 0) ∧ W'.cell? ⟨B, 7, none⟩ = some (.string ⟨#[]⟩) ∧ W'.cell? ⟨B, 8, none⟩ = some (.slice none 0 0) ∧ W'.cell? ⟨B, 9, none⟩ = some (.slice none 0 0)) ∧ (W'.frozen? ⟨B, 0, none⟩ = false ∧ W'.frozen? ⟨B, 1, none⟩ = false ∧ W'.frozen? ⟨B, 2, none⟩ = false ∧ W'.frozen? ⟨B, 3, none⟩ = false ∧ W'.frozen? ⟨B, 4, none⟩ = false ∧ W'.frozen? ⟨B, 5, none⟩ = false ∧ W'.frozen? ⟨B, 6, none⟩ = false ∧ W'.frozen? ⟨B, 7, none⟩ = false ∧ W'.frozen? ⟨B, 8, none⟩ = false ∧ W'.frozen? ⟨B, 9, none⟩ = false) ∧ B < W'.heap.size
theorem zv_new {w : World} : ZV (w.alloc (.cells #[.int .i64 0, .bool false, .int .u64 0, .int .u64 0, .int .u64 0, .int .u64 0, .int .u64 0, .string ⟨#[]⟩, .slice none 0 0, .slice none 0 0] 30)) w.heap.size := ⟨by simp [go_sem]⟩
theorem ZV.below {B : Nat} {w1 w2 : World} (h : ZV w1 B) (hb : Below w1.heap.size w1 w2) : ZV w2 B := by
  obtain ⟨⟨a0, a1, a2, a3, a4, a5, a6, a7, a8, a9⟩, ⟨b0, b1, b2, b3, b4, b5, b6, b7, b8, b9⟩, l⟩ := h.all
  have f : ∀ i, w2.frozen? ⟨B, i, none⟩ = w1.frozen? ⟨B, i, none⟩ := fun i => hb.frozen (p := ⟨B, i, none⟩) l
  exact ⟨⟨keep_cell hb a0, keep_cell hb a1, keep_cell hb a2, keep_cell hb a3, keep_cell hb a4, keep_cell hb a5, keep_cell hb a6, keep_cell hb a7, keep_cell hb a8, keep_cell hb a9⟩,
    ⟨(f 0).trans b0, (f 1).trans b1, (f 2).trans b2, (f 3).trans b3, (f 4).trans b4, (f 5).trans b5, (f 6).trans b6, (f 7).trans b7, (f 8).trans b8, (f 9).trans b9⟩, Nat.lt_of_lt_of_le l hb.size⟩
set_option maxRecDepth 20000 in
set_option maxHeartbeats 1000000 in
theorem Number_walk (b : Nat) (w : World) (n : Bool) (V c : Nat) (k : Bool) (C1 : Hid (∀ wr : World, Below w.heap.size w wr → Calls Tryd.prog 40 #[.int .u64 (b : Nat)] wr fun e w' => e = .returned (.tuple #[.agg #[.bool (n ), .int .u64 (lm ( V) 0 : Nat), .int .u64 (lm ( V) 1 : Nat), .int .u64 (lm ( V) 2 : Nat), .int .u64 (lm ( V) 3 : Nat)], .bool k]) ∧ Below wr.heap.size wr w'))
    (C2 : Hid (∀ wr : World, Below w.heap.size w wr → Calls Tryd.prog 41 #[.int .u64 (b : Nat)] wr fun e w' => e = .returned (.int .u64 (c : Nat)) ∧ Below wr.heap.size wr w')) :
    Calls Tryd.prog 24 #[.int .u64 (b : Nat)] w fun e w' => e = .returned (if k = true then .agg #[.int .i64 3, .bool n, .int .u64 (lm V 0 : Nat), .int .u64 (lm V 1 : Nat), .int .u64 (lm V 2 : Nat), .int .u64 (lm V 3 : Nat), .int .u64 0, .string ⟨#[]⟩, .slice none 0 0, .slice none 0 0] else .agg #[.int .i64 4, .bool false, .int .u64 0, .int .u64 0, .int .u64 0, .int .u64 0, .int .u64 (c : Nat), .string ⟨#[]⟩, .slice none 0 0, .slice none 0 0]) ∧ Below w.heap.size w w' := by
  cases k with
  | true =>
    rw [if_pos rfl]
    go_enter Tryd.func24, Tryd.ntmps24
    repeat any_goals (first | (go_at_call 40; with_reducible refine (C1.out _ (by (repeat first | with_reducible exact Below.refl _ _ | with_reducible assumption | with_reducible refine Below.drew ?_ | with_reducible refine below_alloc ?_ _ | ((with_reducible refine Below.setCell ?_ ?_ _); rotate_left; (focus (first | with_reducible exact Nat.le_refl _ | (simp; done) | (simp; omega) | omega))) | (with_reducible refine below_trans ?_ (by assumption))))).mono ?_; rintro e w1 ⟨rfl, hb1⟩; obtain ⟨⟨_, _, _, _, _, _, _, _, _, _⟩, ⟨_, _, _, _, _, _, _, _, _, _⟩, _⟩ := (zv_new.below hb1).all) | go_skip | go_guarded | go_step | go_upon | (dsimp only []))
    refine bodyPost_ret (v := .agg #[.int .i64 3, .bool n, .int .u64 (lm V 0 : Nat), .int .u64 (lm V 1 : Nat), .int .u64 (lm V 2 : Nat), .int .u64 (lm V 3 : Nat), .int .u64 0, .string ⟨#[]⟩, .slice none 0 0, .slice none 0 0]) ?_ rfl ⟨rfl, by (repeat first | with_reducible exact Below.refl _ _ | with_reducible assumption | with_reducible refine Below.drew ?_ | with_reducible refine below_alloc ?_ _ | ((with_reducible refine Below.setCell ?_ ?_ _); rotate_left; (focus (first | with_reducible exact Nat.le_refl _ | (simp; done) | (simp; omega) | omega))) | (with_reducible refine below_trans ?_ (by assumption)))⟩
    simp [results, Tryd.results24, go_sem, *]
  | false =>
    rw [if_neg Bool.false_ne_true]
    go_enter Tryd.func24, Tryd.ntmps24
    repeat any_goals (first | (go_at_call 40; with_reducible refine (C1.out _ (by (repeat first | with_reducible exact Below.refl _ _ | with_reducible assumption | with_reducible refine Below.drew ?_ | with_reducible refine below_alloc ?_ _ | ((with_reducible refine Below.setCell ?_ ?_ _); rotate_left; (focus (first | with_reducible exact Nat.le_refl _ | (simp; done) | (simp; omega) | omega))) | (with_reducible refine below_trans ?_ (by assumption))))).mono ?_; rintro e w1 ⟨rfl, hb1⟩; have z1 := Lib.hid (zv_new.below hb1); obtain ⟨⟨_, _, _, _, _, _, _, _, _, _⟩, ⟨_, _, _, _, _, _, _, _, _, _⟩, _⟩ := z1.out.all) | (go_at_call 41; with_reducible refine (C2.out _ (by (repeat first | with_reducible exact Below.refl _ _ | with_reducible assumption | with_reducible refine Below.drew ?_ | with_reducible refine below_alloc ?_ _ | ((with_reducible refine Below.setCell ?_ ?_ _); rotate_left; (focus (first | with_reducible exact Nat.le_refl _ | (simp; done) | (simp; omega) | omega))) | (with_reducible refine below_trans ?_ (by assumption))))).mono ?_; rintro e w2 ⟨rfl, hb2⟩; have z2 := Lib.hid (z1.out.below (below_trans (below_alloc (Below.refl _ _) _) hb2)); obtain ⟨⟨_, _, _, _, _, _, _, _, _, _⟩, ⟨_, _, _, _, _, _, _, _, _, _⟩, _⟩ := z2.out.all) | go_skip | go_guarded | go_step | go_upon | (dsimp only []))
    refine bodyPost_ret (v := .agg #[.int .i64 4, .bool false, .int .u64 0, .int .u64 0, .int .u64 0, .int .u64 0, .int .u64 (c : Nat), .string ⟨#[]⟩, .slice none 0 0, .slice none 0 0]) ?_ rfl ⟨rfl, by (repeat first | with_reducible exact Below.refl _ _ | with_reducible assumption | with_reducible refine Below.drew ?_ | with_reducible refine below_alloc ?_ _ | ((with_reducible refine Below.setCell ?_ ?_ _); rotate_left; (focus (first | with_reducible exact Nat.le_refl _ | (simp; done) | (simp; omega) | omega))) | (with_reducible refine below_trans ?_ (by assumption)))⟩
    simp [results, Tryd.results24, go_sem, *]
theorem Number_any (b : Nat) (hb : b < 18446744073709551616) (w : World) (hT : Tab w) : Calls Tryd.prog 24 #[.int .u64 (b : Nat)] w fun e w' => e = .returned (numT b).agg ∧ Below w.heap.size w w' := by
  have h := Number_walk b w (whN b) (whV b) (canonF b) (whk b) (Lib.hid fun wr hbr => Whole_any b hb wr (hT.below hbr)) (Lib.hid fun wr hbr => Canon_any b hb wr (hT.below hbr))
  have e : (numT b).agg = (if whk b = true then .agg #[.int .i64 3, .bool (whN b), .int .u64 (lm (whV b) 0 : Nat), .int .u64 (lm (whV b) 1 : Nat), .int .u64 (lm (whV b) 2 : Nat), .int .u64 (lm (whV b) 3 : Nat), .int .u64 0, .string ⟨#[]⟩, .slice none 0 0, .slice none 0 0] else .agg #[.int .i64 4, .bool false, .int .u64 0, .int .u64 0, .int .u64 0, .int .u64 0, .int .u64 (canonF b : Nat), .string ⟨#[]⟩, .slice none 0 0, .slice none 0 0]) := by
    unfold numT
    split
    · simp [VT.agg, VT.cells]
    · simp [VT.agg, VT.cells, lm_zero]
  rw [e]
  exact h
end Go.Proofs.YtminijokbeclhaaDoor
