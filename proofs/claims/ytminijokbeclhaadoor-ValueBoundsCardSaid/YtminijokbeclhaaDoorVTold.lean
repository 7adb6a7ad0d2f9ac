/- Contracts: In of the program; cmp.Compare of ints; Cmp of two kinds; told of the law. -/
import Derived.Test.YtminijokbeclhaaDoorVNum
import Derived.Test.YtminijokbeclhaaDoorVIn
namespace Go.Proofs.YtminijokbeclhaaDoor
open Go.RowKit
def VT.kindOf : VT → Int
  | .nil => 0
  | .mk kind _ _ _ _ _ _ _ _ _ _ _ _ => kind
def VT.inB (T : VT) (lang : Int) : Bool := if T.may = 0 then (if lang = 1 then T.jsonB else if lang = 2 then true else if lang = 3 then decide (T.kindOf = 8) && T.protoB true else false) else false
structure InC (w : World) (v : Value) (m : Int) (j p : Bool) : Prop where
  c1 : ∀ wr : World, Below w.heap.size w wr → Calls Tryd.prog 16 #[v] wr fun e w' => e = .returned (.int .i64 m) ∧ Below wr.heap.size wr w'
  c2 : ∀ wr : World, Below w.heap.size w wr → Calls Tryd.prog 32 #[v] wr fun e w' => e = .returned (.bool j) ∧ Below wr.heap.size wr w'
  c3 : ∀ wr : World, Below w.heap.size w wr → Calls Tryd.prog 33 #[v, .bool true] wr fun e w' => e = .returned (.bool p) ∧ Below wr.heap.size wr w'
set_option maxRecDepth 20000 in
set_option maxHeartbeats 4000000 in
theorem In_walk (kind : Int) (neg : Bool) (V bits : Nat) (text : ByteArray) (aL : Option Addr) (nL cL : Nat) (aK : Option Addr) (nK cK : Nat) (w : World) (lang m : Int) (j p : Bool) (C : Hid (InC w (.agg #[.int .i64 kind, .bool neg, .int .u64 (lm V 0 : Nat), .int .u64 (lm V 1 : Nat), .int .u64 (lm V 2 : Nat), .int .u64 (lm V 3 : Nat), .int .u64 (bits : Nat), .string text, .slice aL nL cL, .slice aK nK cK]) m j p)) :
    Calls Tryd.prog 14 #[.agg #[.int .i64 kind, .bool neg, .int .u64 (lm V 0 : Nat), .int .u64 (lm V 1 : Nat), .int .u64 (lm V 2 : Nat), .int .u64 (lm V 3 : Nat), .int .u64 (bits : Nat), .string text, .slice aL nL cL, .slice aK nK cK], .int .i64 lang] w
      fun e w' => e = .returned (.bool (if m = 0 then (if lang = 1 then j else if lang = 2 then true else if lang = 3 then decide (kind = 8) && p else false) else false)) ∧ Below w.heap.size w w' := by
  have V0 := Lib.hid (show VBx (w.alloc (.cells #[.int .i64 kind, .bool neg, .int .u64 (lm V 0 : Nat), .int .u64 (lm V 1 : Nat), .int .u64 (lm V 2 : Nat), .int .u64 (lm V 3 : Nat), .int .u64 (bits : Nat), .string text, .slice aL nL cL, .slice aK nK cK] 30)) w.heap.size kind neg V bits text aL nL cL aK nK cK from ⟨by simp [go_sem]⟩)
  by_cases h0 : m = 0
  · rw [if_pos h0]
    subst h0
    by_cases h1 : lang = 1
    · rw [if_pos h1]
      subst h1
      go_enter Tryd.func14, Tryd.ntmps14
      repeat any_goals (first | (go_at_call 16; with_reducible refine (C.out.c1 _ (by (repeat first | with_reducible exact Below.refl _ _ | with_reducible assumption | with_reducible refine Below.drew ?_ | with_reducible refine below_alloc ?_ _ | ((with_reducible refine Below.setCell ?_ ?_ _); rotate_left; (focus (first | with_reducible exact Nat.le_refl _ | (simp; done) | (simp; omega) | omega))) | (with_reducible refine below_trans ?_ (by assumption))))).mono ?_; rintro e w1 ⟨rfl, hb1⟩; (first | have V1 := Lib.hid (V0.out.below hb1) | have V1 := Lib.hid (V0.out.step hb1)); obtain ⟨_, _, _, _, _, _, _, _, _, _⟩ := V1.out.all) | (go_at_call 32; refine (C.out.c2 _ (by (repeat first | with_reducible exact Below.refl _ _ | with_reducible assumption | with_reducible refine Below.drew ?_ | with_reducible refine below_alloc ?_ _ | ((with_reducible refine Below.setCell ?_ ?_ _); rotate_left; (focus (first | with_reducible exact Nat.le_refl _ | (simp; done) | (simp; omega) | omega))) | (with_reducible refine below_trans ?_ (by assumption))))).mono ?_; rintro e w2 ⟨rfl, hb2⟩) | go_skip | go_guarded | go_step | go_upon | (dsimp only []))
      exact bodyPost_ret (v := .bool j) (by simp [results, Tryd.results14, go_sem]) rfl ⟨rfl, by (repeat first | with_reducible exact Below.refl _ _ | with_reducible assumption | with_reducible refine Below.drew ?_ | with_reducible refine below_alloc ?_ _ | ((with_reducible refine Below.setCell ?_ ?_ _); rotate_left; (focus (first | with_reducible exact Nat.le_refl _ | (simp; done) | (simp; omega) | omega))) | (with_reducible refine below_trans ?_ (by assumption)))⟩
    rw [if_neg h1]
    by_cases h2 : lang = 2
    · rw [if_pos h2]
      subst h2
      go_enter Tryd.func14, Tryd.ntmps14
      repeat any_goals (first | (go_at_call 16; with_reducible refine (C.out.c1 _ (by (repeat first | with_reducible exact Below.refl _ _ | with_reducible assumption | with_reducible refine Below.drew ?_ | with_reducible refine below_alloc ?_ _ | ((with_reducible refine Below.setCell ?_ ?_ _); rotate_left; (focus (first | with_reducible exact Nat.le_refl _ | (simp; done) | (simp; omega) | omega))) | (with_reducible refine below_trans ?_ (by assumption))))).mono ?_; rintro e w1 ⟨rfl, hb1⟩; (first | have V1 := Lib.hid (V0.out.below hb1) | have V1 := Lib.hid (V0.out.step hb1)); obtain ⟨_, _, _, _, _, _, _, _, _, _⟩ := V1.out.all) | go_skip | go_guarded | go_step | go_upon | (dsimp only []))
      exact bodyPost_ret (v := .bool true) (by simp [results, Tryd.results14, go_sem]) rfl ⟨rfl, by (repeat first | with_reducible exact Below.refl _ _ | with_reducible assumption | with_reducible refine Below.drew ?_ | with_reducible refine below_alloc ?_ _ | ((with_reducible refine Below.setCell ?_ ?_ _); rotate_left; (focus (first | with_reducible exact Nat.le_refl _ | (simp; done) | (simp; omega) | omega))) | (with_reducible refine below_trans ?_ (by assumption)))⟩
    rw [if_neg h2]
    by_cases h3 : lang = 3
    · rw [if_pos h3]
      subst h3
      by_cases k8 : kind = 8
      · subst k8
        rw [decide_eq_true rfl, Bool.true_and]
        go_enter Tryd.func14, Tryd.ntmps14
        repeat any_goals (first | (go_at_call 16; with_reducible refine (C.out.c1 _ (by (repeat first | with_reducible exact Below.refl _ _ | with_reducible assumption | with_reducible refine Below.drew ?_ | with_reducible refine below_alloc ?_ _ | ((with_reducible refine Below.setCell ?_ ?_ _); rotate_left; (focus (first | with_reducible exact Nat.le_refl _ | (simp; done) | (simp; omega) | omega))) | (with_reducible refine below_trans ?_ (by assumption))))).mono ?_; rintro e w1 ⟨rfl, hb1⟩; (first | have V1 := Lib.hid (V0.out.below hb1) | have V1 := Lib.hid (V0.out.step hb1)); obtain ⟨_, _, _, _, _, _, _, _, _, _⟩ := V1.out.all) | (go_at_call 33; refine (C.out.c3 _ (by (repeat first | with_reducible exact Below.refl _ _ | with_reducible assumption | with_reducible refine Below.drew ?_ | with_reducible refine below_alloc ?_ _ | ((with_reducible refine Below.setCell ?_ ?_ _); rotate_left; (focus (first | with_reducible exact Nat.le_refl _ | (simp; done) | (simp; omega) | omega))) | (with_reducible refine below_trans ?_ (by assumption))))).mono ?_; rintro e w2 ⟨rfl, hb2⟩) | go_skip | go_guarded | go_step | go_upon | (dsimp only []))
        exact bodyPost_ret (v := .bool p) (by simp [results, Tryd.results14, go_sem]) rfl ⟨rfl, by (repeat first | with_reducible exact Below.refl _ _ | with_reducible assumption | with_reducible refine Below.drew ?_ | with_reducible refine below_alloc ?_ _ | ((with_reducible refine Below.setCell ?_ ?_ _); rotate_left; (focus (first | with_reducible exact Nat.le_refl _ | (simp; done) | (simp; omega) | omega))) | (with_reducible refine below_trans ?_ (by assumption)))⟩
      · rw [decide_eq_false k8, Bool.false_and]
        have k8i : (kind == 8) = false := by simpa using k8
        go_enter Tryd.func14, Tryd.ntmps14
        repeat any_goals (first | (go_at_call 16; with_reducible refine (C.out.c1 _ (by (repeat first | with_reducible exact Below.refl _ _ | with_reducible assumption | with_reducible refine Below.drew ?_ | with_reducible refine below_alloc ?_ _ | ((with_reducible refine Below.setCell ?_ ?_ _); rotate_left; (focus (first | with_reducible exact Nat.le_refl _ | (simp; done) | (simp; omega) | omega))) | (with_reducible refine below_trans ?_ (by assumption))))).mono ?_; rintro e w1 ⟨rfl, hb1⟩; (first | have V1 := Lib.hid (V0.out.below hb1) | have V1 := Lib.hid (V0.out.step hb1)); obtain ⟨_, _, _, _, _, _, _, _, _, _⟩ := V1.out.all) | go_skip | go_guarded | go_step | go_upon | (dsimp only []))
        exact bodyPost_ret (v := .bool false) (by simp [results, Tryd.results14, go_sem]) rfl ⟨rfl, by (repeat first | with_reducible exact Below.refl _ _ | with_reducible assumption | with_reducible refine Below.drew ?_ | with_reducible refine below_alloc ?_ _ | ((with_reducible refine Below.setCell ?_ ?_ _); rotate_left; (focus (first | with_reducible exact Nat.le_refl _ | (simp; done) | (simp; omega) | omega))) | (with_reducible refine below_trans ?_ (by assumption)))⟩
    rw [if_neg h3]
    have h1i : (lang == 1) = false := by simpa using h1
    have h2i : (lang == 2) = false := by simpa using h2
    have h3i : (lang == 3) = false := by simpa using h3
    go_enter Tryd.func14, Tryd.ntmps14
    repeat any_goals (first | (go_at_call 16; with_reducible refine (C.out.c1 _ (by (repeat first | with_reducible exact Below.refl _ _ | with_reducible assumption | with_reducible refine Below.drew ?_ | with_reducible refine below_alloc ?_ _ | ((with_reducible refine Below.setCell ?_ ?_ _); rotate_left; (focus (first | with_reducible exact Nat.le_refl _ | (simp; done) | (simp; omega) | omega))) | (with_reducible refine below_trans ?_ (by assumption))))).mono ?_; rintro e w1 ⟨rfl, hb1⟩; (first | have V1 := Lib.hid (V0.out.below hb1) | have V1 := Lib.hid (V0.out.step hb1)); obtain ⟨_, _, _, _, _, _, _, _, _, _⟩ := V1.out.all) | go_skip | go_guarded | go_step | go_upon | (dsimp only []))
    exact bodyPost_ret (v := .bool false) (by simp [results, Tryd.results14, go_sem]) rfl ⟨rfl, by (repeat first | with_reducible exact Below.refl _ _ | with_reducible assumption | with_reducible refine Below.drew ?_ | with_reducible refine below_alloc ?_ _ | ((with_reducible refine Below.setCell ?_ ?_ _); rotate_left; (focus (first | with_reducible exact Nat.le_refl _ | (simp; done) | (simp; omega) | omega))) | (with_reducible refine below_trans ?_ (by assumption)))⟩
  · rw [if_neg h0]
    have h0i : (m == 0) = false := by simpa using h0
    go_enter Tryd.func14, Tryd.ntmps14
    repeat any_goals (first | (go_at_call 16; with_reducible refine (C.out.c1 _ (by (repeat first | with_reducible exact Below.refl _ _ | with_reducible assumption | with_reducible refine Below.drew ?_ | with_reducible refine below_alloc ?_ _ | ((with_reducible refine Below.setCell ?_ ?_ _); rotate_left; (focus (first | with_reducible exact Nat.le_refl _ | (simp; done) | (simp; omega) | omega))) | (with_reducible refine below_trans ?_ (by assumption))))).mono ?_; rintro e w1 ⟨rfl, hb1⟩; (first | have V1 := Lib.hid (V0.out.below hb1) | have V1 := Lib.hid (V0.out.step hb1)); obtain ⟨_, _, _, _, _, _, _, _, _, _⟩ := V1.out.all) | go_skip | go_guarded | go_step | go_upon | (dsimp only []))
    exact bodyPost_ret (v := .bool false) (by simp [results, Tryd.results14, go_sem]) rfl ⟨rfl, by (repeat first | with_reducible exact Below.refl _ _ | with_reducible assumption | with_reducible refine Below.drew ?_ | with_reducible refine below_alloc ?_ _ | ((with_reducible refine Below.setCell ?_ ?_ _); rotate_left; (focus (first | with_reducible exact Nat.le_refl _ | (simp; done) | (simp; omega) | omega))) | (with_reducible refine below_trans ?_ (by assumption)))⟩
theorem In_any (T : VT) (lang : Int) (w : World) (hin : T.In w) (hU : U8T w) (hT : Tab w) (hN : T.nodes < 4611686018427387904) :
    Calls Tryd.prog 14 #[T.agg, .int .i64 lang] w fun e w' => e = .returned (.bool (T.inB lang)) ∧ Below w.heap.size w w' := by
  have C : Hid (InC w T.agg T.may T.jsonB (T.protoB true)) := Lib.hid ⟨fun wr hb => MayV_any T wr (hin.below hb) (Utf8Tabs_below hU hb) (hT.below hb) hN, fun wr hb => json_any T wr (hin.below hb) (hT.below hb), fun wr hb => proto_any T wr true (hin.below hb) (hT.below hb)⟩
  unfold VT.inB
  cases T with
  | nil => exact hin.elim
  | mk kind neg V bits text aL nL cL kids aK nK cK keys => exact In_walk kind neg V bits text aL nL cL aK nK cK w lang _ _ _ C
/-- how two whole numbers lie -/
def cmpZZ (x y : Int) : Int := if x < y then -1 else if y < x then 1 else 0
theorem isNaNI_any (x : Int) (w : World) : Calls Tryd.prog 84 #[.int .i64 x] w fun e w' => e = .returned (.bool false) ∧ w' = w := by
  go_enter Tryd.func84, Tryd.ntmps84
  repeat any_goals (first | go_skip | go_guarded | go_step | go_upon | (simp only []; done))
  exact bodyPost_ret (v := .bool false) (by simp [results, Tryd.results84, go_sem]) rfl ⟨rfl, rfl⟩
theorem CmpInt_any (x y : Int) (w : World) : Calls Tryd.prog 47 #[.int .i64 x, .int .i64 y] w fun e w' => e = .returned (.int .i64 (cmpZZ x y)) ∧ w' = w := by
  unfold cmpZZ
  by_cases h1 : x < y
  · rw [if_pos h1]
    go_enter Tryd.func47, Tryd.ntmps47
    repeat any_goals (first | (go_at_call 84; refine (isNaNI_any _ _).mono ?_; rintro e w' ⟨rfl, rfl⟩) | go_skip | go_guarded | go_step | go_upon | (dsimp only []))
    exact bodyPost_ret (v := .int .i64 (-1)) (by simp [results, Tryd.results47, go_sem]) rfl ⟨rfl, rfl⟩
  · rw [if_neg h1]
    by_cases h2 : y < x
    · rw [if_pos h2]
      go_enter Tryd.func47, Tryd.ntmps47
      repeat any_goals (first | (go_at_call 84; refine (isNaNI_any _ _).mono ?_; rintro e w' ⟨rfl, rfl⟩) | go_skip | go_guarded | go_step | go_upon | (dsimp only []))
      exact bodyPost_ret (v := .int .i64 1) (by simp [results, Tryd.results47, go_sem]) rfl ⟨rfl, rfl⟩
    · rw [if_neg h2]
      go_enter Tryd.func47, Tryd.ntmps47
      repeat any_goals (first | (go_at_call 84; refine (isNaNI_any _ _).mono ?_; rintro e w' ⟨rfl, rfl⟩) | go_skip | go_guarded | go_step | go_upon | (dsimp only []))
      exact bodyPost_ret (v := .int .i64 0) (by simp [results, Tryd.results47, go_sem]) rfl ⟨rfl, rfl⟩
set_option maxRecDepth 20000 in
set_option maxHeartbeats 1000000 in
/-- two values of two kinds -/
theorem Cmp_kinds (kind : Int) (neg : Bool) (V bits : Nat) (text : ByteArray) (aL : Option Addr) (nL cL : Nat) (aK : Option Addr) (nK cK : Nat) (kind' : Int) (neg' : Bool) (V' bits' : Nat) (text' : ByteArray) (aL' : Option Addr) (nL' cL' : Nat) (aK' : Option Addr) (nK' cK' : Nat) (w : World) (h : (kind == kind') = false) :
    Calls Tryd.prog 28 #[.agg #[.int .i64 kind, .bool neg, .int .u64 (lm V 0 : Nat), .int .u64 (lm V 1 : Nat), .int .u64 (lm V 2 : Nat), .int .u64 (lm V 3 : Nat), .int .u64 (bits : Nat), .string text, .slice aL nL cL, .slice aK nK cK], .agg #[.int .i64 kind', .bool neg', .int .u64 (lm V' 0 : Nat), .int .u64 (lm V' 1 : Nat), .int .u64 (lm V' 2 : Nat), .int .u64 (lm V' 3 : Nat), .int .u64 (bits' : Nat), .string text', .slice aL' nL' cL', .slice aK' nK' cK']] w
      fun e w' => e = .returned (.int .i64 (cmpZZ kind kind')) ∧ Below w.heap.size w w' := by
  go_enter Tryd.func28, Tryd.ntmps28
  repeat any_goals (first | (go_at_call 47; refine (CmpInt_any _ _ _).mono ?_; rintro e w' ⟨rfl, rfl⟩) | go_skip | go_guarded | go_step | go_upon | (dsimp only []))
  exact bodyPost_ret (v := .int .i64 (cmpZZ kind kind')) (by simp [results, Tryd.results28, go_sem]) rfl ⟨rfl, by (repeat first | with_reducible exact Below.refl _ _ | with_reducible assumption | with_reducible refine Below.drew ?_ | with_reducible refine below_alloc ?_ _ | ((with_reducible refine Below.setCell ?_ ?_ _); rotate_left; (focus (first | with_reducible exact Nat.le_refl _ | (simp; done) | (simp; omega) | omega))) | (with_reducible refine below_trans ?_ (by assumption)))⟩
/-- a value without parts -/
def leafT (kind : Int) (neg : Bool) (V bits : Nat) (text : ByteArray) : VT := .mk kind neg V bits text none 0 0 (fun _ => .nil) none 0 0 (fun _ => ⟨#[]⟩)
theorem leaf_in {kind : Int} {neg : Bool} {V bits : Nat} {text : ByteArray} (w : World) (h0 : -9223372036854775808 ≤ kind) (h1 : kind < 9223372036854775808) (hV : V < 2 ^ 256) (hb : bits < 18446744073709551616) (ht : text.size ≤ maxLen) : (leafT kind neg V bits text).In w :=
  ⟨⟨h0, h1, hV, hb, ht, Nat.le_refl _, Nat.zero_le _, Nat.le_refl _, Nat.zero_le _⟩, .inl rfl, fun i hi => by omega, .inl rfl⟩
theorem leaf_depth (kind : Int) (neg : Bool) (V bits : Nat) (text : ByteArray) : (leafT kind neg V bits text).depth = 1 := rfl
theorem leaf_nodes (kind : Int) (neg : Bool) (V bits : Nat) (text : ByteArray) : (leafT kind neg V bits text).nodes = 1 := rfl
theorem leaf_may {kind : Int} {neg : Bool} {V bits : Nat} {text : ByteArray} (ht : text.size ≤ 4096) : (leafT kind neg V bits text).may = if (midB kind neg V bits text 0 0 (fun _ => ⟨#[]⟩) && eqB kind neg V bits text) = true then 0 else 1 := by
  unfold VT.may
  rw [leaf_depth, leaf_nodes, if_neg (by decide)]
  have hl : (leafT kind neg V bits text).long = false := by
    simp only [leafT, VT.long, anyN]
    rw [if_neg (by omega)]
    rfl
  have hr : (leafT kind neg V bits text).right = (midB kind neg V bits text 0 0 (fun _ => ⟨#[]⟩) && eqB kind neg V bits text) := by
    simp only [leafT, VT.right, anyN]
    simp
  rw [hl, hr, if_neg (by simp)]
theorem null_may : (leafT 1 false 0 0 ⟨#[]⟩).may = 0 := by
  rw [leaf_may (by decide)]
  rfl
theorem zero_may : (leafT 0 false 0 0 ⟨#[]⟩).may = 1 := by
  rw [leaf_may (by decide)]
  rfl
theorem one_may : (leafT 3 false 1 0 ⟨#[]⟩).may = 0 := by
  rw [leaf_may (by decide)]
  rfl
theorem null_agg : (leafT 1 false 0 0 ⟨#[]⟩).agg = .agg #[.int .i64 1, .bool false, .int .u64 0, .int .u64 0, .int .u64 0, .int .u64 0, .int .u64 0, .string ⟨#[]⟩, .slice none 0 0, .slice none 0 0] := by simp [leafT, VT.agg, VT.cells, lm_zero]
theorem zero_agg : (leafT 0 false 0 0 ⟨#[]⟩).agg = .agg #[.int .i64 0, .bool false, .int .u64 0, .int .u64 0, .int .u64 0, .int .u64 0, .int .u64 0, .string ⟨#[]⟩, .slice none 0 0, .slice none 0 0] := by simp [leafT, VT.agg, VT.cells, lm_zero]
theorem one_agg : (leafT 3 false 1 0 ⟨#[]⟩).agg = .agg #[.int .i64 3, .bool false, .int .u64 1, .int .u64 0, .int .u64 0, .int .u64 0, .int .u64 0, .string ⟨#[]⟩, .slice none 0 0, .slice none 0 0] := by
  have h := lm_small (d := 1) (by decide)
  simp [leafT, VT.agg, VT.cells, h.1, h.2.1, h.2.2.1, h.2.2.2]
theorem num_one : numT 4607182418800017408 = leafT 3 false 1 0 ⟨#[]⟩ := by
  unfold numT
  rw [if_pos (by decide +kernel), show whN 4607182418800017408 = false from by decide +kernel, show whV 4607182418800017408 = 1 from by decide +kernel]
  rfl
/-- what told asks -/
structure ToldC (w : World) : Prop where
  c1 : ∀ wr : World, Below w.heap.size w wr → Calls Tryd.prog 24 #[.int .u64 4607182418800017408] wr fun e w' => e = .returned (.agg #[.int .i64 3, .bool false, .int .u64 1, .int .u64 0, .int .u64 0, .int .u64 0, .int .u64 0, .string ⟨#[]⟩, .slice none 0 0, .slice none 0 0]) ∧ Below wr.heap.size wr w'
  c2 : ∀ wr : World, Below w.heap.size w wr → Calls Tryd.prog 16 #[.agg #[.int .i64 1, .bool false, .int .u64 0, .int .u64 0, .int .u64 0, .int .u64 0, .int .u64 0, .string ⟨#[]⟩, .slice none 0 0, .slice none 0 0]] wr fun e w' => e = .returned (.int .i64 0) ∧ Below wr.heap.size wr w'
  c3 : ∀ wr : World, Below w.heap.size w wr → Calls Tryd.prog 16 #[.agg #[.int .i64 0, .bool false, .int .u64 0, .int .u64 0, .int .u64 0, .int .u64 0, .int .u64 0, .string ⟨#[]⟩, .slice none 0 0, .slice none 0 0]] wr fun e w' => e = .returned (.int .i64 1) ∧ Below wr.heap.size wr w'
  c4 : ∀ wr : World, Below w.heap.size w wr → Calls Tryd.prog 14 #[.agg #[.int .i64 1, .bool false, .int .u64 0, .int .u64 0, .int .u64 0, .int .u64 0, .int .u64 0, .string ⟨#[]⟩, .slice none 0 0, .slice none 0 0], .int .i64 3] wr fun e w' => e = .returned (.bool false) ∧ Below wr.heap.size wr w'
  c5 : ∀ wr : World, Below w.heap.size w wr → Calls Tryd.prog 14 #[.agg #[.int .i64 3, .bool false, .int .u64 1, .int .u64 0, .int .u64 0, .int .u64 0, .int .u64 0, .string ⟨#[]⟩, .slice none 0 0, .slice none 0 0], .int .i64 1] wr fun e w' => e = .returned (.bool true) ∧ Below wr.heap.size wr w'
  c6 : ∀ wr : World, Below w.heap.size w wr → Calls Tryd.prog 18 #[.agg #[.int .i64 3, .bool false, .int .u64 1, .int .u64 0, .int .u64 0, .int .u64 0, .int .u64 0, .string ⟨#[]⟩, .slice none 0 0, .slice none 0 0]] wr fun e w' => e = .returned (.int .i64 1) ∧ Below wr.heap.size wr w'
  c7 : ∀ wr : World, Below w.heap.size w wr → Calls Tryd.prog 28 #[.agg #[.int .i64 1, .bool false, .int .u64 0, .int .u64 0, .int .u64 0, .int .u64 0, .int .u64 0, .string ⟨#[]⟩, .slice none 0 0, .slice none 0 0], .agg #[.int .i64 3, .bool false, .int .u64 1, .int .u64 0, .int .u64 0, .int .u64 0, .int .u64 0, .string ⟨#[]⟩, .slice none 0 0, .slice none 0 0]] wr fun e w' => e = .returned (.int .i64 (-1)) ∧ Below wr.heap.size wr w'
theorem toldC_any (w : World) (hU : U8T w) (hT : Tab w) : ToldC w := by
  have i0 : ∀ wr : World, (leafT 0 false 0 0 ⟨#[]⟩).In wr := fun wr => leaf_in wr (by decide) (by decide) (by decide) (by decide) (by decide)
  have i1 : ∀ wr : World, (leafT 1 false 0 0 ⟨#[]⟩).In wr := fun wr => leaf_in wr (by decide) (by decide) (by decide) (by decide) (by decide)
  have i3 : ∀ wr : World, (leafT 3 false 1 0 ⟨#[]⟩).In wr := fun wr => leaf_in wr (by decide) (by decide) (by decide) (by decide) (by decide)
  refine ⟨fun wr hb => ?_, fun wr hb => ?_, fun wr hb => ?_, fun wr hb => ?_, fun wr hb => ?_, fun wr hb => ?_, fun wr hb => ?_⟩
  · have h := Number_any 4607182418800017408 (by decide) wr (hT.below hb)
    rw [num_one, one_agg] at h
    exact h
  · have h := MayV_any _ wr (i1 wr) (Utf8Tabs_below hU hb) (hT.below hb) (by rw [leaf_nodes]; decide)
    rw [null_may, null_agg] at h
    exact h
  · have h := MayV_any _ wr (i0 wr) (Utf8Tabs_below hU hb) (hT.below hb) (by rw [leaf_nodes]; decide)
    rw [zero_may, zero_agg] at h
    exact h
  · have h := In_any _ 3 wr (i1 wr) (Utf8Tabs_below hU hb) (hT.below hb) (by rw [leaf_nodes]; decide)
    rw [show (leafT 1 false 0 0 ⟨#[]⟩).inB 3 = false from by unfold VT.inB; rw [null_may]; rfl, null_agg] at h
    exact h
  · have h := In_any _ 1 wr (i3 wr) (Utf8Tabs_below hU hb) (hT.below hb) (by rw [leaf_nodes]; decide)
    rw [show (leafT 3 false 1 0 ⟨#[]⟩).inB 1 = true from by unfold VT.inB; rw [one_may]; rfl, one_agg] at h
    exact h
  · have h := Depth_any _ wr (i3 wr) (by rw [leaf_nodes]; decide)
    rw [leaf_depth, one_agg] at h
    exact h
  · have h := Cmp_kinds 1 false 0 0 ⟨#[]⟩ none 0 0 none 0 0 3 false 1 0 ⟨#[]⟩ none 0 0 none 0 0 wr (by decide)
    have hl := lm_small (d := 1) (by decide)
    simp only [lm_zero, hl.1, hl.2.1, hl.2.2.1, hl.2.2.2] at h
    exact h
structure VB1 (W' : World) (B : Nat) : Prop where
  all : W'.cell? ⟨B, 0, none⟩ = some (.int .i64 3) ∧ W'.cell? ⟨B, 1, none⟩ = some (.bool false) ∧ W'.cell? ⟨B, 2, none⟩ = some (.int .u64 1) ∧ W'.cell? ⟨B, 3, none⟩ = some (.int .u64 0) ∧ W'.cell? ⟨B, 4, none⟩ = some (.int .u64 0) ∧ W'.cell? ⟨B, 5, none⟩ = some (.int .u64 0) ∧ W'.cell? ⟨B, 6, none⟩ = some (.int .u64 0) ∧ W'.cell? ⟨B, 7, none⟩ = some (.string ⟨#[]⟩) ∧ W'.cell? ⟨B, 8, none⟩ = some (.slice none 0 0) ∧ W'.cell? ⟨B, 9, none⟩ = some (.slice none 0 0)
theorem VB1.below {B : Nat} {w1 w2 : World} (h : VB1 w1 B) (hb : Below w1.heap.size w1 w2) : VB1 w2 B := by
  obtain ⟨h0, h1, h2, h3, h4, h5, h6, h7, h8, h9⟩ := h.all
  exact ⟨keep_cell hb h0, keep_cell hb h1, keep_cell hb h2, keep_cell hb h3, keep_cell hb h4, keep_cell hb h5, keep_cell hb h6, keep_cell hb h7, keep_cell hb h8, keep_cell hb h9⟩
theorem vb1_new {w : World} : VB1 (w.alloc (.cells #[.int .i64 3, .bool false, .int .u64 1, .int .u64 0, .int .u64 0, .int .u64 0, .int .u64 0, .string ⟨#[]⟩, .slice none 0 0, .slice none 0 0] 30)) w.heap.size := ⟨by simp [go_sem]⟩
theorem vb1_hb {w w1 : World} (hb : Below (w.alloc (.cells #[.int .i64 3, .bool false, .int .u64 1, .int .u64 0, .int .u64 0, .int .u64 0, .int .u64 0, .string ⟨#[]⟩, .slice none 0 0, .slice none 0 0] 30)).heap.size (w.alloc (.cells #[.int .i64 3, .bool false, .int .u64 1, .int .u64 0, .int .u64 0, .int .u64 0, .int .u64 0, .string ⟨#[]⟩, .slice none 0 0, .slice none 0 0] 30)) w1) : VB1 w1 w.heap.size := vb1_new.below hb
set_option maxRecDepth 20000 in
set_option maxHeartbeats 4000000 in
/-- **told.** -/
theorem told_any (w : World) (hU : U8T w) (hT : Tab w) : Calls Tryd.prog 13 #[] w fun e w' => e = .returned (.bool true) ∧ Below w.heap.size w w' := by
  have C := Lib.hid (toldC_any w hU hT)
  clear hU hT
  go_enter Tryd.func13, Tryd.ntmps13
  repeat any_goals (first | (go_at_call 24; refine (C.out.c1 _ (by (repeat first | with_reducible exact Below.refl _ _ | with_reducible assumption | with_reducible refine Below.drew ?_ | with_reducible refine below_alloc ?_ _ | ((with_reducible refine Below.setCell ?_ ?_ _); rotate_left; (focus (first | with_reducible exact Nat.le_refl _ | (simp; done) | (simp; omega) | omega))) | (with_reducible refine below_trans ?_ (by assumption))))).mono ?_; rintro e w1 ⟨rfl, hb1⟩) | (go_at_call 16; with_reducible refine (C.out.c2 _ (by (repeat first | with_reducible exact Below.refl _ _ | with_reducible assumption | with_reducible refine Below.drew ?_ | with_reducible refine below_alloc ?_ _ | ((with_reducible refine Below.setCell ?_ ?_ _); rotate_left; (focus (first | with_reducible exact Nat.le_refl _ | (simp; done) | (simp; omega) | omega))) | (with_reducible refine below_trans ?_ (by assumption))))).mono ?_; rintro e w2 ⟨rfl, hb2⟩; have V2 := Lib.hid (vb1_hb hb2); obtain ⟨_, _, _, _, _, _, _, _, _, _⟩ := V2.out.all) | (go_at_call 16; with_reducible refine (C.out.c3 _ (by (repeat first | with_reducible exact Below.refl _ _ | with_reducible assumption | with_reducible refine Below.drew ?_ | with_reducible refine below_alloc ?_ _ | ((with_reducible refine Below.setCell ?_ ?_ _); rotate_left; (focus (first | with_reducible exact Nat.le_refl _ | (simp; done) | (simp; omega) | omega))) | (with_reducible refine below_trans ?_ (by assumption))))).mono ?_; rintro e w3 ⟨rfl, hb3⟩; have V3 := Lib.hid (V2.out.below hb3); obtain ⟨_, _, _, _, _, _, _, _, _, _⟩ := V3.out.all) | (go_at_call 14; with_reducible refine (C.out.c4 _ (by (repeat first | with_reducible exact Below.refl _ _ | with_reducible assumption | with_reducible refine Below.drew ?_ | with_reducible refine below_alloc ?_ _ | ((with_reducible refine Below.setCell ?_ ?_ _); rotate_left; (focus (first | with_reducible exact Nat.le_refl _ | (simp; done) | (simp; omega) | omega))) | (with_reducible refine below_trans ?_ (by assumption))))).mono ?_; rintro e w4 ⟨rfl, hb4⟩; have V4 := Lib.hid (V3.out.below hb4); obtain ⟨_, _, _, _, _, _, _, _, _, _⟩ := V4.out.all) | (go_at_call 14; with_reducible refine (C.out.c5 _ (by (repeat first | with_reducible exact Below.refl _ _ | with_reducible assumption | with_reducible refine Below.drew ?_ | with_reducible refine below_alloc ?_ _ | ((with_reducible refine Below.setCell ?_ ?_ _); rotate_left; (focus (first | with_reducible exact Nat.le_refl _ | (simp; done) | (simp; omega) | omega))) | (with_reducible refine below_trans ?_ (by assumption))))).mono ?_; rintro e w5 ⟨rfl, hb5⟩; have V5 := Lib.hid (V4.out.below hb5); obtain ⟨_, _, _, _, _, _, _, _, _, _⟩ := V5.out.all) | (go_at_call 18; with_reducible refine (C.out.c6 _ (by (repeat first | with_reducible exact Below.refl _ _ | with_reducible assumption | with_reducible refine Below.drew ?_ | with_reducible refine below_alloc ?_ _ | ((with_reducible refine Below.setCell ?_ ?_ _); rotate_left; (focus (first | with_reducible exact Nat.le_refl _ | (simp; done) | (simp; omega) | omega))) | (with_reducible refine below_trans ?_ (by assumption))))).mono ?_; rintro e w6 ⟨rfl, hb6⟩; (first | have V6 := Lib.hid (V5.out.below hb6) | have V6 := Lib.hid (V5.out.step hb6)); obtain ⟨_, _, _, _, _, _, _, _, _, _⟩ := V6.out.all) | (go_at_call 28; refine (C.out.c7 _ (by (repeat first | with_reducible exact Below.refl _ _ | with_reducible assumption | with_reducible refine Below.drew ?_ | with_reducible refine below_alloc ?_ _ | ((with_reducible refine Below.setCell ?_ ?_ _); rotate_left; (focus (first | with_reducible exact Nat.le_refl _ | (simp; done) | (simp; omega) | omega))) | (with_reducible refine below_trans ?_ (by assumption))))).mono ?_; rintro e w7 ⟨rfl, hb7⟩) | go_skip | go_guarded | go_step | go_upon | (dsimp only []))
  exact bodyPost_ret (v := .bool true) (by simp [results, Tryd.results13, go_sem]) rfl ⟨rfl, by (repeat first | with_reducible exact Below.refl _ _ | with_reducible assumption | with_reducible refine Below.drew ?_ | with_reducible refine below_alloc ?_ _ | ((with_reducible refine Below.setCell ?_ ?_ _); rotate_left; (focus (first | with_reducible exact Nat.le_refl _ | (simp; done) | (simp; omega) | omega))) | (with_reducible refine below_trans ?_ (by assumption)))⟩
end Go.Proofs.YtminijokbeclhaaDoor
