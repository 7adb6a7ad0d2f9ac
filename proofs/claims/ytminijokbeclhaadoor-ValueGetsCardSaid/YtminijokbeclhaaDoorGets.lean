/- The law ValueGets: each member of a map is got by its name. -/
import Derived.Test.YtminijokbeclhaaDoorGetM
import Derived.Test.YtminijokbeclhaaDoorOrd
import Derived.LoopN
namespace Go.Proofs.YtminijokbeclhaaDoor
open Go.RowKit
theorem sgnL_less {a b : List UInt8} : Op.bytesLess a b = true ↔ sgnL a b = -1 := by
  unfold sgnL
  split
  · rename_i h; simp [h]
  · rename_i h
    split <;> simp [h]
theorem rise_lt {keys : Nat → ByteArray} {n : Nat} (h : riseB keys n = true) : ∀ (j i : Nat), i < j → j < n → sgnS (keys i) (keys j) = -1 := by
  intro j
  induction j with
  | zero => intro i hi; omega
  | succ j ih =>
    intro i hi hj
    have h0 : anyN (badKey keys) n = false := by
      unfold riseB at h
      simpa using h
    have h1 := anyN_no h0 hj
    unfold badKey at h1
    simp only [Nat.add_sub_cancel, Bool.or_eq_false_iff, Bool.and_eq_false_iff, Bool.not_eq_false'] at h1
    have h2 : sgnS (keys j) (keys (j + 1)) = -1 := by
      rcases h1.2 with h2 | h2
      · simp at h2
      · exact sgnL_less.1 h2
    by_cases c : i = j
    · subst c
      exact h2
    · have h3 := ih i (by omega) (by omega)
      have h4 := sgnL_tr (keys i).toList (keys j).toList (keys (j + 1)).toList
      have h5 := sgnL_fl (keys i).toList (keys (j + 1)).toList
      unfold sgnS at h2 h3 ⊢
      unfold Tr at h4
      unfold Fl at h5
      omega
theorem fstN_none {p : Nat → Bool} {n : Nat} (h : ∀ i, i < n → p i = false) : fstN p n = -1 := by
  induction n with
  | zero => rfl
  | succ k ih =>
    simp only [fstN]
    rw [if_pos (ih fun i hi => h i (by omega)), h k (by omega)]
    rfl
theorem keyAt_self {keys : Nat → ByteArray} {n i : Nat} (h : riseB keys n = true) (hi : i < n) : keyAt keys (keys i) n = (i : Int) := by
  have h1 : keyAt keys (keys i) (i + 1) = (i : Int) := by
    unfold keyAt
    simp only [fstN]
    have h0 : fstN (fun k => decide (keys k = keys i)) i = -1 := fstN_none fun j hj => decide_eq_false fun e => by
      have h2 := rise_lt h i j hj hi
      rw [e, sgnS_zero.2 rfl] at h2
      omega
    rw [if_pos h0, if_pos (by simp)]
  unfold keyAt at h1 ⊢
  rw [fstN_keep (k := i + 1) (by rw [h1]; omega) (by omega), h1]
theorem VT.map_rise {neg : Bool} {V bits : Nat} {text : ByteArray} {aL : Option Addr} {nL cL : Nat} {kids : Nat → VT} {aK : Option Addr} {nK cK : Nat} {keys : Nat → ByteArray} (h : (VT.mk 8 neg V bits text aL nL cL kids aK nK cK keys).right = true) : nK = nL ∧ riseB keys nK = true := by
  simp only [VT.right, Bool.and_eq_true] at h
  have h1 := h.1.1
  unfold midB at h1
  simp at h1
  exact h1
theorem getI_iff {neg : Bool} {V bits : Nat} {text : ByteArray} {aL : Option Addr} {nL cL : Nat} {kids : Nat → VT} {aK : Option Addr} {cK : Nat} {keys : Nat → ByteArray} (name : ByteArray) : decide (0 ≤ (VT.mk 8 neg V bits text aL nL cL kids aK nL cK keys).getI name) = anyN (fun i => decide (keys i = name)) nL := by
  rw [← fstN_any]
  have h : (VT.mk 8 neg V bits text aL nL cL kids aK nL cK keys).getI name = keyAt keys name nL := by
    simp only [VT.getI]
    rw [if_pos ⟨trivial, fstN_lt nL⟩]
  rw [h]
  rfl

theorem zv_hb {w w1 : World} (hb : Below (w.alloc (.cells #[.int .i64 0, .bool false, .int .u64 0, .int .u64 0, .int .u64 0, .int .u64 0, .int .u64 0, .string ⟨#[]⟩, .slice none 0 0, .slice none 0 0] 30)).drew.heap.size (w.alloc (.cells #[.int .i64 0, .bool false, .int .u64 0, .int .u64 0, .int .u64 0, .int .u64 0, .int .u64 0, .string ⟨#[]⟩, .slice none 0 0, .slice none 0 0] 30)).drew w1) : ZV w1 w.heap.size :=
  zv_new.below (below_trans (Below.refl _ _).drew hb)
theorem vbx_new {w : World} (kind : Int) (neg : Bool) (V bits : Nat) (text : ByteArray) (aL : Option Addr) (nL cL : Nat) (aK : Option Addr) (nK cK : Nat) : VBx (w.alloc (.cells #[.int .i64 kind, .bool neg, .int .u64 (lm V 0 : Nat), .int .u64 (lm V 1 : Nat), .int .u64 (lm V 2 : Nat), .int .u64 (lm V 3 : Nat), .int .u64 (bits : Nat), .string text, .slice aL nL cL, .slice aK nK cK] 30)) w.heap.size kind neg V bits text aL nL cL aK nK cK := ⟨by simp [go_sem]⟩
theorem ZV.set {w : World} {B : Nat} (h : ZV w B) (kind : Int) (neg : Bool) (V bits : Nat) (text : ByteArray) (aL : Option Addr) (nL cL : Nat) (aK : Option Addr) (nK cK : Nat) : VBx ((((((((((w.setCell ⟨B, 0, none⟩ (.int .i64 kind)).setCell ⟨B, 1, none⟩ (.bool neg)).setCell ⟨B, 2, none⟩ (.int .u64 (lm V 0 : Nat))).setCell ⟨B, 3, none⟩ (.int .u64 (lm V 1 : Nat))).setCell ⟨B, 4, none⟩ (.int .u64 (lm V 2 : Nat))).setCell ⟨B, 5, none⟩ (.int .u64 (lm V 3 : Nat))).setCell ⟨B, 6, none⟩ (.int .u64 (bits : Nat))).setCell ⟨B, 7, none⟩ (.string text)).setCell ⟨B, 8, none⟩ (.slice aL nL cL)).setCell ⟨B, 9, none⟩ (.slice aK nK cK)) B kind neg V bits text aL nL cL aK nK cK := by
  obtain ⟨⟨a0, a1, a2, a3, a4, a5, a6, a7, a8, a9⟩, ⟨b0, b1, b2, b3, b4, b5, b6, b7, b8, b9⟩, l⟩ := h.all
  exact ⟨by simp [go_sem, *]⟩
/-- what a round that gets a member reads -/
theorem gs {wr w' : World} {B : Nat} {kind : Int} {neg : Bool} {V bits : Nat} {text : ByteArray} {aL : Option Addr} {nL cL : Nat} {aK : Option Addr} {nK cK : Nat} {p : Addr} {s : ByteArray} (hV : VBx wr B kind neg V bits text aL nL cL aK nK cK) (hK : SKx wr p p s s) (hb : Below wr.heap.size wr w') : w'.cell? ⟨B, 0, none⟩ = some (.int .i64 kind) ∧ w'.cell? ⟨B, 1, none⟩ = some (.bool neg) ∧ w'.cell? ⟨B, 2, none⟩ = some (.int .u64 (lm V 0 : Nat)) ∧ w'.cell? ⟨B, 3, none⟩ = some (.int .u64 (lm V 1 : Nat)) ∧ w'.cell? ⟨B, 4, none⟩ = some (.int .u64 (lm V 2 : Nat)) ∧ w'.cell? ⟨B, 5, none⟩ = some (.int .u64 (lm V 3 : Nat)) ∧ w'.cell? ⟨B, 6, none⟩ = some (.int .u64 (bits : Nat)) ∧ w'.cell? ⟨B, 7, none⟩ = some (.string text) ∧ w'.cell? ⟨B, 8, none⟩ = some (.slice aL nL cL) ∧ w'.cell? ⟨B, 9, none⟩ = some (.slice aK nK cK) ∧ w'.cell? p = some (.string s) ∧ Below wr.heap.size wr w' := by
  obtain ⟨h0, h1, h2, h3, h4, h5, h6, h7, h8, h9⟩ := (hV.below hb).all
  exact ⟨h0, h1, h2, h3, h4, h5, h6, h7, h8, h9, (hK.below hb).all.1, hb⟩

structure GetsC (w : World) (v : Value) (nK : Nat) (keys : Nat → ByteArray) (kids : Nat → VT) (name : ByteArray) (g : Value) : Prop where
  c1 : ∀ wr : World, Below w.heap.size w wr → Calls Tryd.prog 12 #[v] wr fun e w' => e = .returned (.bool true) ∧ Below wr.heap.size wr w'
  c2 : ∀ wr : World, Below w.heap.size w wr → Calls Tryd.prog 13 #[] wr fun e w' => e = .returned (.bool true) ∧ Below wr.heap.size wr w'
  c3 : ∀ wr : World, Below w.heap.size w wr → Calls Tryd.prog 16 #[v] wr fun e w' => e = .returned (.int .i64 0) ∧ Below wr.heap.size wr w'
  c4 : ∀ i, i < nK → ∀ wr : World, Below w.heap.size w wr → Calls Tryd.prog 22 #[v, .string (keys i)] wr fun e w' => e = .returned (.tuple #[(kids i).agg, .bool true]) ∧ Below wr.heap.size wr w'
  c5 : ∀ i, i < nK → ∀ wr : World, Below w.heap.size w wr → Calls Tryd.prog 25 #[(kids i).agg, (kids i).agg] wr fun e w' => e = .returned (.bool true) ∧ Below wr.heap.size wr w'
  c6 : ∀ wr : World, Below w.heap.size w wr → Calls Tryd.prog 22 #[v, .string name] wr fun e w' => e = .returned (.tuple #[g, .bool (anyN (fun i => decide (keys i = name)) nK)]) ∧ Below wr.heap.size wr w'

set_option maxRecDepth 20000 in
set_option maxHeartbeats 4000000 in
theorem Gets_few (kind : Int) (neg : Bool) (V bits : Nat) (text : ByteArray) (aL : Option Addr) (nL cL : Nat) (aK : Option Addr) (nK cK : Nat) (name : ByteArray) (w : World) (C1 : Hid (∀ wr : World, Below w.heap.size w wr → Calls Tryd.prog 12 #[.agg #[.int .i64 kind, .bool neg, .int .u64 (lm V 0 : Nat), .int .u64 (lm V 1 : Nat), .int .u64 (lm V 2 : Nat), .int .u64 (lm V 3 : Nat), .int .u64 (bits : Nat), .string text, .slice aL nL cL, .slice aK nK cK]] wr fun e w' => e = .returned (.bool false) ∧ Below wr.heap.size wr w')) (C2 : Hid (∀ wr : World, Below w.heap.size w wr → Calls Tryd.prog 13 #[] wr fun e w' => e = .returned (.bool true) ∧ Below wr.heap.size wr w')) :
    Calls Tryd.prog 8 #[.agg #[.int .i64 kind, .bool neg, .int .u64 (lm V 0 : Nat), .int .u64 (lm V 1 : Nat), .int .u64 (lm V 2 : Nat), .int .u64 (lm V 3 : Nat), .int .u64 (bits : Nat), .string text, .slice aL nL cL, .slice aK nK cK], .string name] w fun e w' => e = .returned (.bool true) ∧ Below w.heap.size w w' := by
  go_enter Tryd.func8, Tryd.ntmps8
  repeat any_goals (first | (go_at_call 12; refine (C1.out _ (by (repeat first | with_reducible exact Below.refl _ _ | with_reducible assumption | with_reducible refine Below.drew ?_ | with_reducible refine below_alloc ?_ _ | ((with_reducible refine Below.setCell ?_ ?_ _); rotate_left; (focus (first | with_reducible exact Nat.le_refl _ | (simp; done) | (simp; omega) | omega))) | (with_reducible refine below_trans ?_ (by assumption))))).mono ?_; rintro e w1 ⟨rfl, hb1⟩) | (go_at_call 13; refine (C2.out _ (by (repeat first | with_reducible exact Below.refl _ _ | with_reducible assumption | with_reducible refine Below.drew ?_ | with_reducible refine below_alloc ?_ _ | ((with_reducible refine Below.setCell ?_ ?_ _); rotate_left; (focus (first | with_reducible exact Nat.le_refl _ | (simp; done) | (simp; omega) | omega))) | (with_reducible refine below_trans ?_ (by assumption))))).mono ?_; rintro e w2 ⟨rfl, hb2⟩) | go_skip | go_guarded | go_step | go_upon | (dsimp only []))
  exact bodyPost_ret (v := .bool true) (by simp [results, Tryd.results8, go_sem]) rfl ⟨rfl, by (repeat first | with_reducible exact Below.refl _ _ | with_reducible assumption | with_reducible refine Below.drew ?_ | with_reducible refine below_alloc ?_ _ | ((with_reducible refine Below.setCell ?_ ?_ _); rotate_left; (focus (first | with_reducible exact Nat.le_refl _ | (simp; done) | (simp; omega) | omega))) | (with_reducible refine below_trans ?_ (by assumption)))⟩
set_option maxRecDepth 20000 in
set_option maxHeartbeats 4000000 in
theorem Gets_not (kind : Int) (neg : Bool) (V bits : Nat) (text : ByteArray) (aL : Option Addr) (nL cL : Nat) (aK : Option Addr) (nK cK : Nat) (name : ByteArray) (w : World) (hk : ¬ kind = 8) (C1 : Hid (∀ wr : World, Below w.heap.size w wr → Calls Tryd.prog 12 #[.agg #[.int .i64 kind, .bool neg, .int .u64 (lm V 0 : Nat), .int .u64 (lm V 1 : Nat), .int .u64 (lm V 2 : Nat), .int .u64 (lm V 3 : Nat), .int .u64 (bits : Nat), .string text, .slice aL nL cL, .slice aK nK cK]] wr fun e w' => e = .returned (.bool true) ∧ Below wr.heap.size wr w')) (C2 : Hid (∀ wr : World, Below w.heap.size w wr → Calls Tryd.prog 13 #[] wr fun e w' => e = .returned (.bool true) ∧ Below wr.heap.size wr w')) :
    Calls Tryd.prog 8 #[.agg #[.int .i64 kind, .bool neg, .int .u64 (lm V 0 : Nat), .int .u64 (lm V 1 : Nat), .int .u64 (lm V 2 : Nat), .int .u64 (lm V 3 : Nat), .int .u64 (bits : Nat), .string text, .slice aL nL cL, .slice aK nK cK], .string name] w fun e w' => e = .returned (.bool true) ∧ Below w.heap.size w w' := by
  have V0 := Lib.hid (show VBx (w.alloc (.cells #[.int .i64 kind, .bool neg, .int .u64 (lm V 0 : Nat), .int .u64 (lm V 1 : Nat), .int .u64 (lm V 2 : Nat), .int .u64 (lm V 3 : Nat), .int .u64 (bits : Nat), .string text, .slice aL nL cL, .slice aK nK cK] 30)) w.heap.size kind neg V bits text aL nL cL aK nK cK from ⟨by simp [go_sem]⟩)
  go_enter Tryd.func8, Tryd.ntmps8
  repeat any_goals (first | (go_at_call 12; with_reducible refine (C1.out _ (by (repeat first | with_reducible exact Below.refl _ _ | with_reducible assumption | with_reducible refine Below.drew ?_ | with_reducible refine below_alloc ?_ _ | ((with_reducible refine Below.setCell ?_ ?_ _); rotate_left; (focus (first | with_reducible exact Nat.le_refl _ | (simp; done) | (simp; omega) | omega))) | (with_reducible refine below_trans ?_ (by assumption))))).mono ?_; rintro e w1 ⟨rfl, hb1⟩; (first | have V1 := Lib.hid (V0.out.below hb1) | have V1 := Lib.hid (V0.out.step hb1)); obtain ⟨_, _, _, _, _, _, _, _, _, _⟩ := V1.out.all) | (go_at_call 13; refine (C2.out _ (by (repeat first | with_reducible exact Below.refl _ _ | with_reducible assumption | with_reducible refine Below.drew ?_ | with_reducible refine below_alloc ?_ _ | ((with_reducible refine Below.setCell ?_ ?_ _); rotate_left; (focus (first | with_reducible exact Nat.le_refl _ | (simp; done) | (simp; omega) | omega))) | (with_reducible refine below_trans ?_ (by assumption))))).mono ?_; rintro e w2 ⟨rfl, hb2⟩) | go_skip | go_guarded | go_step | go_upon | (dsimp only []))
  exact bodyPost_ret (v := .bool true) (by simp [results, Tryd.results8, go_sem]) rfl ⟨rfl, by (repeat first | with_reducible exact Below.refl _ _ | with_reducible assumption | with_reducible refine Below.drew ?_ | with_reducible refine below_alloc ?_ _ | ((with_reducible refine Below.setCell ?_ ?_ _); rotate_left; (focus (first | with_reducible exact Nat.le_refl _ | (simp; done) | (simp; omega) | omega))) | (with_reducible refine below_trans ?_ (by assumption)))⟩
set_option maxRecDepth 20000 in
set_option maxHeartbeats 4000000 in
theorem Gets_may (neg : Bool) (V bits : Nat) (text : ByteArray) (aL : Option Addr) (nL cL : Nat) (aK : Option Addr) (nK cK : Nat) (m : Int) (hm : ¬ m = 0) (name : ByteArray) (w : World) (C1 : Hid (∀ wr : World, Below w.heap.size w wr → Calls Tryd.prog 12 #[.agg #[.int .i64 8, .bool neg, .int .u64 (lm V 0 : Nat), .int .u64 (lm V 1 : Nat), .int .u64 (lm V 2 : Nat), .int .u64 (lm V 3 : Nat), .int .u64 (bits : Nat), .string text, .slice aL nL cL, .slice aK nK cK]] wr fun e w' => e = .returned (.bool true) ∧ Below wr.heap.size wr w')) (C2 : Hid (∀ wr : World, Below w.heap.size w wr → Calls Tryd.prog 13 #[] wr fun e w' => e = .returned (.bool true) ∧ Below wr.heap.size wr w')) (C3 : Hid (∀ wr : World, Below w.heap.size w wr → Calls Tryd.prog 16 #[.agg #[.int .i64 8, .bool neg, .int .u64 (lm V 0 : Nat), .int .u64 (lm V 1 : Nat), .int .u64 (lm V 2 : Nat), .int .u64 (lm V 3 : Nat), .int .u64 (bits : Nat), .string text, .slice aL nL cL, .slice aK nK cK]] wr fun e w' => e = .returned (.int .i64 m) ∧ Below wr.heap.size wr w')) :
    Calls Tryd.prog 8 #[.agg #[.int .i64 8, .bool neg, .int .u64 (lm V 0 : Nat), .int .u64 (lm V 1 : Nat), .int .u64 (lm V 2 : Nat), .int .u64 (lm V 3 : Nat), .int .u64 (bits : Nat), .string text, .slice aL nL cL, .slice aK nK cK], .string name] w fun e w' => e = .returned (.bool true) ∧ Below w.heap.size w w' := by
  have V0 := Lib.hid (show VBx (w.alloc (.cells #[.int .i64 8, .bool neg, .int .u64 (lm V 0 : Nat), .int .u64 (lm V 1 : Nat), .int .u64 (lm V 2 : Nat), .int .u64 (lm V 3 : Nat), .int .u64 (bits : Nat), .string text, .slice aL nL cL, .slice aK nK cK] 30)) w.heap.size 8 neg V bits text aL nL cL aK nK cK from ⟨by simp [go_sem]⟩)
  go_enter Tryd.func8, Tryd.ntmps8
  repeat any_goals (first | (go_at_call 12; with_reducible refine (C1.out _ (by (repeat first | with_reducible exact Below.refl _ _ | with_reducible assumption | with_reducible refine Below.drew ?_ | with_reducible refine below_alloc ?_ _ | ((with_reducible refine Below.setCell ?_ ?_ _); rotate_left; (focus (first | with_reducible exact Nat.le_refl _ | (simp; done) | (simp; omega) | omega))) | (with_reducible refine below_trans ?_ (by assumption))))).mono ?_; rintro e w1 ⟨rfl, hb1⟩; (first | have V1 := Lib.hid (V0.out.below hb1) | have V1 := Lib.hid (V0.out.step hb1)); obtain ⟨_, _, _, _, _, _, _, _, _, _⟩ := V1.out.all) | (go_at_call 16; with_reducible refine (C3.out _ (by (repeat first | with_reducible exact Below.refl _ _ | with_reducible assumption | with_reducible refine Below.drew ?_ | with_reducible refine below_alloc ?_ _ | ((with_reducible refine Below.setCell ?_ ?_ _); rotate_left; (focus (first | with_reducible exact Nat.le_refl _ | (simp; done) | (simp; omega) | omega))) | (with_reducible refine below_trans ?_ (by assumption))))).mono ?_; rintro e w3 ⟨rfl, hb3⟩; (first | have V2 := Lib.hid (V1.out.below hb3) | have V2 := Lib.hid (V1.out.step hb3)); obtain ⟨_, _, _, _, _, _, _, _, _, _⟩ := V2.out.all) | (go_at_call 13; refine (C2.out _ (by (repeat first | with_reducible exact Below.refl _ _ | with_reducible assumption | with_reducible refine Below.drew ?_ | with_reducible refine below_alloc ?_ _ | ((with_reducible refine Below.setCell ?_ ?_ _); rotate_left; (focus (first | with_reducible exact Nat.le_refl _ | (simp; done) | (simp; omega) | omega))) | (with_reducible refine below_trans ?_ (by assumption))))).mono ?_; rintro e w2 ⟨rfl, hb2⟩) | go_skip | go_guarded | go_step | go_upon | (dsimp only []))
  exact bodyPost_ret (v := .bool true) (by simp [results, Tryd.results8, go_sem]) rfl ⟨rfl, by (repeat first | with_reducible exact Below.refl _ _ | with_reducible assumption | with_reducible refine Below.drew ?_ | with_reducible refine below_alloc ?_ _ | ((with_reducible refine Below.setCell ?_ ?_ _); rotate_left; (focus (first | with_reducible exact Nat.le_refl _ | (simp; done) | (simp; omega) | omega))) | (with_reducible refine below_trans ?_ (by assumption)))⟩
set_option maxRecDepth 20000 in
set_option maxHeartbeats 4000000 in
theorem Gets_walk (neg : Bool) (V bits : Nat) (text : ByteArray) (aL : Option Addr) (nL cL : Nat) (aK : Option Addr) (cK : Nat) (keys : Nat → ByteArray) (kids : Nat → VT) (g : Value) (name : ByteArray) (w : World) (hlK : nL ≤ cL) (hcK : cL ≤ 9223372036854775807) (hg : ∃ kind' neg' V' bits' text' aL' nL' cL' aK' nK' cK', g = .agg #[.int .i64 kind', .bool neg', .int .u64 (lm V' 0 : Nat), .int .u64 (lm V' 1 : Nat), .int .u64 (lm V' 2 : Nat), .int .u64 (lm V' 3 : Nat), .int .u64 (bits' : Nat), .string text', .slice aL' nL' cL', .slice aK' nK' cK'])
    (HL : Hid (nL = 0 ∨ ∃ b off, aL = some ⟨b, off, none⟩ ∧ b < w.heap.size ∧ ∀ i, i < nL → ∀ j, j < 10 → w.cell? ⟨b, off + i * 10 + j, none⟩ = (kids i).cells[j]?)) (HI : Hid (∀ i, i < nL → (kids i).In w))
    (HK : Hid (nL = 0 ∨ ∃ b off, aK = some ⟨b, off, none⟩ ∧ b < w.heap.size ∧ ∀ i, i < nL → w.cell? ⟨b, off + i, none⟩ = some (.string (keys i)) ∧ (keys i).size ≤ maxLen))
    (C : Hid (GetsC w (.agg #[.int .i64 8, .bool neg, .int .u64 (lm V 0 : Nat), .int .u64 (lm V 1 : Nat), .int .u64 (lm V 2 : Nat), .int .u64 (lm V 3 : Nat), .int .u64 (bits : Nat), .string text, .slice aL nL cL, .slice aK nL cK]) nL keys kids name g)) :
    Calls Tryd.prog 8 #[.agg #[.int .i64 8, .bool neg, .int .u64 (lm V 0 : Nat), .int .u64 (lm V 1 : Nat), .int .u64 (lm V 2 : Nat), .int .u64 (lm V 3 : Nat), .int .u64 (bits : Nat), .string text, .slice aL nL cL, .slice aK nL cK], .string name] w fun e w' => e = .returned (.bool true) ∧ Below w.heap.size w w' := by
  have V0 := Lib.hid (show VBx (w.alloc (.cells #[.int .i64 8, .bool neg, .int .u64 (lm V 0 : Nat), .int .u64 (lm V 1 : Nat), .int .u64 (lm V 2 : Nat), .int .u64 (lm V 3 : Nat), .int .u64 (bits : Nat), .string text, .slice aL nL cL, .slice aK nL cK] 30)) w.heap.size 8 neg V bits text aL nL cL aK nL cK from ⟨by simp [go_sem]⟩)
  go_enter Tryd.func8, Tryd.ntmps8
  repeat any_goals (first | (go_at_call 12; with_reducible refine (C.out.c1 _ (by (repeat first | with_reducible exact Below.refl _ _ | with_reducible assumption | with_reducible refine Below.drew ?_ | with_reducible refine below_alloc ?_ _ | ((with_reducible refine Below.setCell ?_ ?_ _); rotate_left; (focus (first | with_reducible exact Nat.le_refl _ | (simp; done) | (simp; omega) | omega))) | (with_reducible refine below_trans ?_ (by assumption))))).mono ?_; rintro e w1 ⟨rfl, hb1⟩; (first | have V1 := Lib.hid (V0.out.below hb1) | have V1 := Lib.hid (V0.out.step hb1)); obtain ⟨_, _, _, _, _, _, _, _, _, _⟩ := V1.out.all) | (go_at_call 16; with_reducible refine (C.out.c3 _ (by (repeat first | with_reducible exact Below.refl _ _ | with_reducible assumption | with_reducible refine Below.drew ?_ | with_reducible refine below_alloc ?_ _ | ((with_reducible refine Below.setCell ?_ ?_ _); rotate_left; (focus (first | with_reducible exact Nat.le_refl _ | (simp; done) | (simp; omega) | omega))) | (with_reducible refine below_trans ?_ (by assumption))))).mono ?_; rintro e w2 ⟨rfl, hb2⟩; (first | have V2 := Lib.hid (V1.out.below hb2) | have V2 := Lib.hid (V1.out.step hb2)); obtain ⟨_, _, _, _, _, _, _, _, _, _⟩ := V2.out.all) | go_skip | go_guarded | go_step | go_upon | (dsimp only []))
  go_loopw [5, 6] (fun x i wr => ∃ k : Nat, k ≤ nL ∧ i = .int .i64 k ∧ x = .bool (anyN (fun i => decide (keys i = name)) k) ∧ VBx wr w.heap.size 8 neg V bits text aL nL cL aK nL cK ∧ Below w.heap.size w wr) (fun _ i _ => nL - (intOf i).toNat)
  case atStart => exact ⟨0, Nat.zero_le _, rfl, rfl, V2.out, by (repeat first | with_reducible exact Below.refl _ _ | with_reducible assumption | with_reducible refine Below.drew ?_ | with_reducible refine below_alloc ?_ _ | ((with_reducible refine Below.setCell ?_ ?_ _); rotate_left; (focus (first | with_reducible exact Nat.le_refl _ | (simp; done) | (simp; omega) | omega))) | (with_reducible refine below_trans ?_ (by assumption)))⟩
  case round =>
    clear V2
    obtain ⟨k, hk, rfl, rfl, hV, hW⟩ := hrel
    have V3 := Lib.hid hV
    obtain ⟨_, _, _, _, _, _, _, _, _, _⟩ := hV.all
    clear hV
    obtain ⟨x, hx⟩ : ∃ x, x = anyN (fun i => decide (keys i = name)) k := ⟨_, rfl⟩
    rw [← hx]
    have HX := Lib.hid hx
    clear hx
    by_cases hkn : k < nL
    · obtain ⟨b, off, rfl, hb, hc, -⟩ := key_lit HK.out hkn hW
      obtain ⟨b2, off2, kind', neg', V', bits', text', aL', nL', cL', kids', aK', nK', cK', keys', rfl, hb2, hkid, hc2, -⟩ := kid_lit HL.out HI.out hkn hW
      have K0 := Lib.hid (show SKx wr ⟨b, off + k, none⟩ ⟨b, off + k, none⟩ (keys k) (keys k) from ⟨hc, hc, trivial, trivial, trivial⟩)
      have K1 := Lib.hid (show KBx wr b2 (off2 + k * 10) kind' neg' V' bits' text' aL' nL' cL' aK' nK' cK' from ⟨hc2⟩)
      have i1 : (k : Int) < (nL : Int) := by omega
      have i2 : (0 : Int) ≤ (k : Int) := by omega
      have i5 : (k : Int).toNat = k := rfl
      have C4 := Lib.hid (C.out.c4 k hkn)
      have C5 := Lib.hid (C.out.c5 k hkn)
      rw [hkid] at C4 C5
      simp only [VT.agg, VT.cells] at C4 C5
      clear hc2 hkid
      go_upto_region 7 with fail
      go_cut [7, 8] (fun s7 s8 wx => ∃ B : Nat, s7 = .pointer (some ⟨B, 0, none⟩) ∧ s8 = .bool true ∧ VBx wx B kind' neg' V' bits' text' aL' nL' cL' aK' nK' cK' ∧ Below wr.heap.size wr wx)
      case first =>
        have hW0 : Below wr.heap.size wr wr := Below.refl _ _
        go_region_held3 (fun w' => w'.cell? ⟨w.heap.size, 0, none⟩ = some (.int .i64 8) ∧ w'.cell? ⟨w.heap.size, 1, none⟩ = some (.bool neg) ∧ w'.cell? ⟨w.heap.size, 2, none⟩ = some (.int .u64 (lm V 0 : Nat)) ∧ w'.cell? ⟨w.heap.size, 3, none⟩ = some (.int .u64 (lm V 1 : Nat)) ∧ w'.cell? ⟨w.heap.size, 4, none⟩ = some (.int .u64 (lm V 2 : Nat)) ∧ w'.cell? ⟨w.heap.size, 5, none⟩ = some (.int .u64 (lm V 3 : Nat)) ∧ w'.cell? ⟨w.heap.size, 6, none⟩ = some (.int .u64 (bits : Nat)) ∧ w'.cell? ⟨w.heap.size, 7, none⟩ = some (.string text) ∧ w'.cell? ⟨w.heap.size, 8, none⟩ = some (.slice (some ⟨b2, off2, none⟩) nL cL) ∧ w'.cell? ⟨w.heap.size, 9, none⟩ = some (.slice (some ⟨b, off, none⟩) nL cK) ∧ w'.cell? ⟨b, off + k, none⟩ = some (.string (keys k)) ∧ Below wr.heap.size wr w') (first | with_reducible assumption | with_reducible exact gs V3.out K0.out (by (repeat first | with_reducible exact Below.refl _ _ | with_reducible assumption | with_reducible refine Below.drew ?_ | with_reducible refine below_alloc ?_ _ | ((with_reducible refine Below.setCell ?_ ?_ _); rotate_left; (focus (first | with_reducible exact Nat.le_refl _ | (simp; done) | (simp; omega) | omega))) | (with_reducible refine below_trans ?_ (by assumption))))) (first | (go_at_call 22; with_reducible refine (C4.out _ (by (repeat first | with_reducible exact Below.refl _ _ | with_reducible assumption | with_reducible refine Below.drew ?_ | with_reducible refine below_alloc ?_ _ | ((with_reducible refine Below.setCell ?_ ?_ _); rotate_left; (focus (first | with_reducible exact Nat.le_refl _ | (simp; done) | (simp; omega) | omega))) | (with_reducible refine below_trans ?_ (by assumption))))).mono ?_; rintro e w5 ⟨rfl, hb5⟩; (first | (have Z5 := zv_hb hb5; obtain ⟨⟨_, _, _, _, _, _, _, _, _, _⟩, ⟨_, _, _, _, _, _, _, _, _, _⟩, _⟩ := Z5.all) | skip)))
        all_goals ((repeat any_goals (first | go_skip | go_guarded | go_step | go_upon | (simp only []; done))); go_meet; case rel => first | with_reducible exact ⟨_, rfl, rfl, vbx_new _ _ _ _ _ _ _ _ _ _ _, by (repeat first | with_reducible exact Below.refl _ _ | with_reducible assumption | with_reducible refine Below.drew ?_ | with_reducible refine below_alloc ?_ _ | ((with_reducible refine Below.setCell ?_ ?_ _); rotate_left; (focus (first | with_reducible exact Nat.le_refl _ | (simp; done) | (simp; omega) | omega))) | (with_reducible refine below_trans ?_ (by assumption)))⟩ | with_reducible exact ⟨_, rfl, rfl, Z5.set _ _ _ _ _ _ _ _ _ _ _, by (repeat first | with_reducible exact Below.refl _ _ | with_reducible assumption | with_reducible refine Below.drew ?_ | with_reducible refine below_alloc ?_ _ | ((with_reducible refine Below.setCell ?_ ?_ _); rotate_left; (focus (first | with_reducible exact Nat.le_refl _ | (simp; done) | (simp; omega) | omega))) | (with_reducible refine below_trans ?_ (by assumption)))⟩)
      case rest =>
        obtain ⟨B, rfl, rfl, hV6, hb6⟩ := hcut
        have V4 := Lib.hid (V3.out.below hb6)
        have K2 := Lib.hid (K0.out.below hb6)
        have K3 := Lib.hid (K1.out.below hb6)
        have V6 := Lib.hid hV6
        have hW4 := below_trans hW hb6
        clear V3 K0 K1 hV6 hb6 hW
        go_upto_region 8 with fail
        (obtain ⟨C_, hC⟩ : ∃ C : World → Prop, C = fun w' => Below (wc).heap.size (wc) w' := ⟨_, rfl⟩; have HC := Lib.hid hC; have hne : ∀ p : Prop, (∀ w1 : World, C_ w1 → p) = p := fun p => propext ⟨fun h => h (wc) (by rw [hC]; exact Below.refl _ _), fun h _ _ => h⟩; clear hC; refine wp_region_quiet_cls (C := C_) (by kernel_rfl) (by kernel_rfl) (by rw [HC.out]; exact (Below.refl _ _).drew) ?_)
        (go_big_quiet_want; go_big_quiet_op; go_big_quiet_on)
        (go_big_quiet_want; go_big_quiet_op; go_big_quiet_on)
        (go_big_quiet_want; go_big_quiet_op; go_big_quiet_on)
        (go_big_quiet_want; refine ⟨.agg #[.int .i64 kind', .bool neg', .int .u64 (lm V' 0 : Nat), .int .u64 (lm V' 1 : Nat), .int .u64 (lm V' 2 : Nat), .int .u64 (lm V' 3 : Nat), .int .u64 (bits' : Nat), .string text', .slice aL' nL' cL', .slice aK' nK' cK'], fun w1 hw1 => ?_, ?_⟩; (rw [HC.out] at hw1; obtain ⟨_, _, _, _, _⟩ := (V6.out.below hw1).all; simp [Oper.quietAt, go_sem, *]); (try simp only [Act.put, List.setIfInBounds_toArray, List.set_cons_zero, List.set_cons_succ]); go_big_quiet_on)
        (go_big_quiet_want; go_big_quiet_op; go_big_quiet_on)
        (go_big_quiet_want; refine ⟨.slice (some ⟨b2, off2, none⟩) nL cL, fun w1 hw1 => ?_, ?_⟩; (rw [HC.out] at hw1; obtain ⟨_, _, _, _, _⟩ := (V4.out.below hw1).all; simp [Oper.quietAt, go_sem, *]); (try simp only [Act.put, List.setIfInBounds_toArray, List.set_cons_zero, List.set_cons_succ]); go_big_quiet_on)
        (go_big_quiet_want; go_big_quiet_op; go_big_quiet_on)
        (go_big_quiet_want; go_big_quiet_op; go_big_quiet_on)
        (go_big_quiet_want; refine ⟨.agg #[.int .i64 kind', .bool neg', .int .u64 (lm V' 0 : Nat), .int .u64 (lm V' 1 : Nat), .int .u64 (lm V' 2 : Nat), .int .u64 (lm V' 3 : Nat), .int .u64 (bits' : Nat), .string text', .slice aL' nL' cL', .slice aK' nK' cK'], fun w1 hw1 => ?_, ?_⟩; (rw [HC.out] at hw1; obtain ⟨_, _, _, _, _⟩ := (K3.out.below hw1).all; simp [Oper.quietAt, go_sem, *]); (try simp only [Act.put, List.setIfInBounds_toArray, List.set_cons_zero, List.set_cons_succ]); go_big_quiet_on)
        (go_big_quiet_want; go_big_quiet_op; refine ⟨.bool true, fun w1 hw1 => ?_, ?_⟩; (rw [HC.out] at hw1 ⊢; with_reducible refine (C5.out _ (below_trans hW4 hw1)).mono ?_; rintro e w4 ⟨rfl, hb4⟩; exact ⟨rfl, below_trans hw1 hb4⟩); go_big_quiet_on)
        (go_big_quiet_want; go_big_quiet_op; go_big_quiet_on)
        (go_big_quiet_want; go_big_quiet_op; go_big_quiet_on)
        (refine wpQuiet_nil ?_; intro w2 hw2; rw [HC.out] at hw2)
        have V5 := Lib.hid (V4.out.below hw2)
        obtain ⟨_, _, _, _, _, _, _, _, _, _⟩ := V5.out.all
        obtain ⟨_, _, _, _, _⟩ := (K2.out.below hw2).all
        have hW5 := below_trans hW4 hw2
        clear V4 K2 K3 V6
        cases x with
        | true =>
          repeat any_goals (first | go_skip | go_guarded | go_step | go_upon | (simp only []; done))
          go_roundw
          case rel => exact ⟨k + 1, by omega, rfl, by simp only [anyN]; rw [← HX.out]; rfl, V5.out, hW5⟩
          case measure => simp [intOf]; omega
        | false =>
          by_cases he : keys k = name
          · have he2 : (keys k).toList = name.toList := by rw [he]
            have HE := Lib.hid he
            clear he
            repeat any_goals (first | go_skip | go_guarded | go_step | go_upon | (simp only []; done))
            go_roundw
            case rel => exact ⟨k + 1, by omega, rfl, by simp only [anyN]; rw [← HX.out, HE.out]; simp, V5.out, hW5⟩
            case measure => simp [intOf]; omega
          · have he2 : ((keys k).toList == name.toList) = false := beq_false_of_ne fun h => he (toList_inj h)
            have HE := Lib.hid he
            clear he
            repeat any_goals (first | go_skip | go_guarded | go_step | go_upon | (simp only []; done))
            go_roundw
            case rel => exact ⟨k + 1, by omega, rfl, by simp only [anyN]; rw [← HX.out, decide_eq_false HE.out]; rfl, V5.out, hW5⟩
            case measure => simp [intOf]; omega
    · have hk' : k = nL := by omega
      subst hk'
      have i1 : ¬ (k : Int) < (k : Int) := by omega
      obtain ⟨kind', neg', V', bits', text', aL', nL', cL', aK', nK', cK', rfl⟩ := hg
      have C6 := C.out.c6
      rw [← HX.out] at C6
      have C6 := Lib.hid C6
      repeat any_goals (first | (go_at_call 22; with_reducible refine (C6.out _ (by (repeat first | with_reducible exact Below.refl _ _ | with_reducible assumption | with_reducible refine Below.drew ?_ | with_reducible refine below_alloc ?_ _ | ((with_reducible refine Below.setCell ?_ ?_ _); rotate_left; (focus (first | with_reducible exact Nat.le_refl _ | (simp; done) | (simp; omega) | omega))) | (with_reducible refine below_trans ?_ (by assumption))))).mono ?_; rintro e w7 ⟨rfl, hb7⟩) | (go_at_call 13; refine (C.out.c2 _ (by (repeat first | with_reducible exact Below.refl _ _ | with_reducible assumption | with_reducible refine Below.drew ?_ | with_reducible refine below_alloc ?_ _ | ((with_reducible refine Below.setCell ?_ ?_ _); rotate_left; (focus (first | with_reducible exact Nat.le_refl _ | (simp; done) | (simp; omega) | omega))) | (with_reducible refine below_trans ?_ (by assumption))))).mono ?_; rintro e w8 ⟨rfl, hb8⟩) | go_skip | go_guarded | go_step | go_upon | (dsimp only []))
      exact bodyPost_ret (v := .bool true) (by simp [results, Tryd.results8, go_sem]) rfl ⟨rfl, by (repeat first | with_reducible exact Below.refl _ _ | with_reducible assumption | with_reducible refine Below.drew ?_ | with_reducible refine below_alloc ?_ _ | ((with_reducible refine Below.setCell ?_ ?_ _); rotate_left; (focus (first | with_reducible exact Nat.le_refl _ | (simp; done) | (simp; omega) | omega))) | (with_reducible refine below_trans ?_ (by assumption)))⟩

theorem VT.in_lit {T : VT} {w : World} (h : T.In w) : ∃ kind neg V bits text aL nL cL kids aK nK cK keys, T = .mk kind neg V bits text aL nL cL kids aK nK cK keys := by
  cases T with
  | nil => exact h.elim
  | mk kind neg V bits text aL nL cL kids aK nK cK keys => exact ⟨kind, neg, V, bits, text, aL, nL, cL, kids, aK, nK, cK, keys, rfl⟩
theorem ValueGets_any (T : VT) (name : ByteArray) (w : World) (hin : T.In w) (_hs : name.size ≤ maxLen) (hU : U8T w) (hT : Tab w) :
    Calls Tryd.prog 8 #[T.agg, .string name] w fun e w' => e = .returned (.bool true) ∧ Below w.heap.size w w' := by
  have CT : ∀ wr : World, Below w.heap.size w wr → Calls Tryd.prog 13 #[] wr fun e w' => e = .returned (.bool true) ∧ Below wr.heap.size wr w' := fun wr hb => told_any wr (Utf8Tabs_below hU hb) (hT.below hb)
  have CF : ∀ wr : World, Below w.heap.size w wr → Calls Tryd.prog 12 #[T.agg] wr fun e w' => e = .returned (.bool (decide (T.few 40 ≤ 400))) ∧ Below wr.heap.size wr w' := fun wr hb => Few_any T wr (hin.below hb)
  cases T with
  | nil => exact hin.elim
  | mk kind neg V bits text aL nL cL kids aK nK cK keys =>
    by_cases hf : (VT.mk kind neg V bits text aL nL cL kids aK nK cK keys).few 40 ≤ 400
    · rw [decide_eq_true hf] at CF
      have hn : (VT.mk kind neg V bits text aL nL cL kids aK nK cK keys).nodes < 4611686018427387904 := by
        have := (VT.few_nodes _ 40 hf).1
        omega
      by_cases h8 : kind = 8
      · subst h8
        have CM : ∀ wr : World, Below w.heap.size w wr → Calls Tryd.prog 16 #[(VT.mk 8 neg V bits text aL nL cL kids aK nK cK keys).agg] wr fun e w' => e = .returned (.int .i64 (VT.mk 8 neg V bits text aL nL cL kids aK nK cK keys).may) ∧ Below wr.heap.size wr w' := fun wr hb => MayV_any _ wr (hin.below hb) (Utf8Tabs_below hU hb) (hT.below hb) hn
        by_cases hm : (VT.mk 8 neg V bits text aL nL cL kids aK nK cK keys).may = 0
        · rw [hm] at CM
          obtain ⟨hnk, hr⟩ := VT.map_rise (VT.may_zero.1 hm).2.2.2
          subst hnk
          have hin' := hin
          obtain ⟨o, hL, hk, hK⟩ := hin
          have hl := o.l
          have hlc := o.lc
          simp only [maxLen] at hlc
          obtain ⟨k', neg', V', bits', text', aL', nL', cL', kids', aK', nK', cK', keys', hg⟩ := VT.in_lit (VT.getT_in (name := name) hin')
          refine Gets_walk neg V bits text aL nK cL aK cK keys kids _ name w hl (by omega) ⟨k', neg', V', bits', text', aL', nL', cL', aK', nK', cK', rfl⟩ (Lib.hid hL) (Lib.hid hk) (Lib.hid hK) (Lib.hid ⟨CF, CT, CM, fun i hi wr hb => ?_, fun i hi wr hb => ?_, fun wr hb => ?_⟩)
          · have h := Get_any _ (keys i) wr (hin'.below hb)
            have e0 : (VT.mk 8 neg V bits text aL nK cL kids aK nK cK keys).getI (keys i) = (i : Int) := by
              simp only [VT.getI]
              rw [keyAt_self hr hi, if_pos ⟨trivial, by omega⟩]
            have e1 : (VT.mk 8 neg V bits text aL nK cL kids aK nK cK keys).getT (keys i) = kids i := by
              unfold VT.getT
              rw [e0, if_pos (by omega)]
              rfl
            rw [e0, e1, decide_eq_true (by omega)] at h
            exact h
          · have h := RSame_any _ _ wr ((hk i hi).below hb) ((hk i hi).below hb)
            rwa [VT.sameB_self _ wr ((hk i hi).below hb)] at h
          · have h := Get_any _ name wr (hin'.below hb)
            rw [getI_iff, hg] at h
            exact h
        · exact Gets_may neg V bits text aL nL cL aK nK cK _ hm name w (Lib.hid CF) (Lib.hid CT) (Lib.hid CM)
      · exact Gets_not kind neg V bits text aL nL cL aK nK cK name w h8 (Lib.hid CF) (Lib.hid CT)
    · rw [decide_eq_false hf] at CF
      exact Gets_few kind neg V bits text aL nL cL aK nK cK name w (Lib.hid CF) (Lib.hid CT)
end Go.Proofs.YtminijokbeclhaaDoor
