/- Contract of the law ValueCounts. -/
import Derived.Test.YtminijokbeclhaaDoorVTold
import Derived.LoopN
namespace Go.Proofs.YtminijokbeclhaaDoor
open Go.RowKit
set_option maxRecDepth 20000 in
theorem Few_walk (kind : Int) (neg : Bool) (V bits : Nat) (text : ByteArray) (aL : Option Addr) (nL cL : Nat) (aK : Option Addr) (nK cK : Nat) (w : World) (x : Nat)
    (C : Hid (∀ wr : World, Below w.heap.size w wr → Calls Tryd.prog 31 #[.agg #[.int .i64 kind, .bool neg, .int .u64 (lm V 0 : Nat), .int .u64 (lm V 1 : Nat), .int .u64 (lm V 2 : Nat), .int .u64 (lm V 3 : Nat), .int .u64 (bits : Nat), .string text, .slice aL nL cL, .slice aK nK cK], .int .i64 40] wr fun e w' => e = .returned (.int .i64 (x : Nat)) ∧ Below wr.heap.size wr w')) :
    Calls Tryd.prog 12 #[.agg #[.int .i64 kind, .bool neg, .int .u64 (lm V 0 : Nat), .int .u64 (lm V 1 : Nat), .int .u64 (lm V 2 : Nat), .int .u64 (lm V 3 : Nat), .int .u64 (bits : Nat), .string text, .slice aL nL cL, .slice aK nK cK]] w fun e w' => e = .returned (.bool (decide (x ≤ 400))) ∧ Below w.heap.size w w' := by
  by_cases h : x ≤ 400
  · rw [decide_eq_true h]
    have hi : (x : Int) ≤ 400 := by omega
    go_enter Tryd.func12, Tryd.ntmps12
    repeat any_goals (first | (go_at_call 31; refine (C.out _ (by (repeat first | with_reducible exact Below.refl _ _ | with_reducible assumption | with_reducible refine Below.drew ?_ | with_reducible refine below_alloc ?_ _ | ((with_reducible refine Below.setCell ?_ ?_ _); rotate_left; (focus (first | with_reducible exact Nat.le_refl _ | (simp; done) | (simp; omega) | omega))) | (with_reducible refine below_trans ?_ (by assumption))))).mono ?_; rintro e w1 ⟨rfl, hb1⟩) | go_skip | go_guarded | go_step | go_upon | (dsimp only []))
    exact bodyPost_ret (v := .bool true) (by simp [results, Tryd.results12, go_sem]) rfl ⟨rfl, by (repeat first | with_reducible exact Below.refl _ _ | with_reducible assumption | with_reducible refine Below.drew ?_ | with_reducible refine below_alloc ?_ _ | ((with_reducible refine Below.setCell ?_ ?_ _); rotate_left; (focus (first | with_reducible exact Nat.le_refl _ | (simp; done) | (simp; omega) | omega))) | (with_reducible refine below_trans ?_ (by assumption)))⟩
  · rw [decide_eq_false h]
    have hi : ¬ (x : Int) ≤ 400 := by omega
    go_enter Tryd.func12, Tryd.ntmps12
    repeat any_goals (first | (go_at_call 31; refine (C.out _ (by (repeat first | with_reducible exact Below.refl _ _ | with_reducible assumption | with_reducible refine Below.drew ?_ | with_reducible refine below_alloc ?_ _ | ((with_reducible refine Below.setCell ?_ ?_ _); rotate_left; (focus (first | with_reducible exact Nat.le_refl _ | (simp; done) | (simp; omega) | omega))) | (with_reducible refine below_trans ?_ (by assumption))))).mono ?_; rintro e w1 ⟨rfl, hb1⟩) | go_skip | go_guarded | go_step | go_upon | (dsimp only []))
    exact bodyPost_ret (v := .bool false) (by simp [results, Tryd.results12, go_sem]) rfl ⟨rfl, by (repeat first | with_reducible exact Below.refl _ _ | with_reducible assumption | with_reducible refine Below.drew ?_ | with_reducible refine below_alloc ?_ _ | ((with_reducible refine Below.setCell ?_ ?_ _); rotate_left; (focus (first | with_reducible exact Nat.le_refl _ | (simp; done) | (simp; omega) | omega))) | (with_reducible refine below_trans ?_ (by assumption)))⟩
theorem Few_any (T : VT) (w : World) (hin : T.In w) : Calls Tryd.prog 12 #[T.agg] w fun e w' => e = .returned (.bool (decide (T.few 40 ≤ 400))) ∧ Below w.heap.size w w' := by
  have C : Hid (∀ wr : World, Below w.heap.size w wr → Calls Tryd.prog 31 #[T.agg, .int .i64 40] wr fun e w' => e = .returned (.int .i64 (T.few 40 : Nat)) ∧ Below wr.heap.size wr w') := Lib.hid fun wr hb => few_any T wr 40 (hin.below hb) (by decide)
  generalize T.few 40 = x at *
  cases T with
  | nil => exact hin.elim
  | mk kind neg V bits text aL nL cL kids aK nK cK keys => exact Few_walk kind neg V bits text aL nL cL aK nK cK w x C
/-- a value in a row of values -/
structure KBx (w' : World) (B o : Nat) (kind : Int) (neg : Bool) (V bits : Nat) (text : ByteArray) (aL : Option Addr) (nL cL : Nat) (aK : Option Addr) (nK cK : Nat) : Prop where
  all : w'.cell? ⟨B, o, none⟩ = some (.int .i64 kind) ∧ w'.cell? ⟨B, o + 1, none⟩ = some (.bool neg) ∧ w'.cell? ⟨B, o + 2, none⟩ = some (.int .u64 (lm V 0 : Nat)) ∧ w'.cell? ⟨B, o + 3, none⟩ = some (.int .u64 (lm V 1 : Nat)) ∧ w'.cell? ⟨B, o + 4, none⟩ = some (.int .u64 (lm V 2 : Nat)) ∧
    w'.cell? ⟨B, o + 5, none⟩ = some (.int .u64 (lm V 3 : Nat)) ∧ w'.cell? ⟨B, o + 6, none⟩ = some (.int .u64 (bits : Nat)) ∧ w'.cell? ⟨B, o + 7, none⟩ = some (.string text) ∧ w'.cell? ⟨B, o + 8, none⟩ = some (.slice aL nL cL) ∧ w'.cell? ⟨B, o + 9, none⟩ = some (.slice aK nK cK)
theorem KBx.below {w1 w2 : World} {B o : Nat} {kind : Int} {neg : Bool} {V bits : Nat} {text : ByteArray} {aL : Option Addr} {nL cL : Nat} {aK : Option Addr} {nK cK : Nat} (h : KBx w1 B o kind neg V bits text aL nL cL aK nK cK) (hb : Below w1.heap.size w1 w2) : KBx w2 B o kind neg V bits text aL nL cL aK nK cK := by
  obtain ⟨h0, h1, h2, h3, h4, h5, h6, h7, h8, h9⟩ := h.all
  exact ⟨keep_cell hb h0, keep_cell hb h1, keep_cell hb h2, keep_cell hb h3, keep_cell hb h4, keep_cell hb h5, keep_cell hb h6, keep_cell hb h7, keep_cell hb h8, keep_cell hb h9⟩
/-- ten cells of a block -/
structure RBx (w' : World) (B : Nat) (a0 a1 a2 a3 a4 a5 a6 a7 a8 a9 : Value) : Prop where
  all : w'.cell? ⟨B, 0, none⟩ = some a0 ∧ w'.cell? ⟨B, 1, none⟩ = some a1 ∧ w'.cell? ⟨B, 2, none⟩ = some a2 ∧ w'.cell? ⟨B, 3, none⟩ = some a3 ∧ w'.cell? ⟨B, 4, none⟩ = some a4 ∧ w'.cell? ⟨B, 5, none⟩ = some a5 ∧ w'.cell? ⟨B, 6, none⟩ = some a6 ∧ w'.cell? ⟨B, 7, none⟩ = some a7 ∧ w'.cell? ⟨B, 8, none⟩ = some a8 ∧ w'.cell? ⟨B, 9, none⟩ = some a9
theorem RBx.below {w1 w2 : World} {B : Nat} {a0 a1 a2 a3 a4 a5 a6 a7 a8 a9 : Value} (h : RBx w1 B a0 a1 a2 a3 a4 a5 a6 a7 a8 a9) (hb : Below w1.heap.size w1 w2) : RBx w2 B a0 a1 a2 a3 a4 a5 a6 a7 a8 a9 := by
  obtain ⟨h0, h1, h2, h3, h4, h5, h6, h7, h8, h9⟩ := h.all
  exact ⟨keep_cell hb h0, keep_cell hb h1, keep_cell hb h2, keep_cell hb h3, keep_cell hb h4, keep_cell hb h5, keep_cell hb h6, keep_cell hb h7, keep_cell hb h8, keep_cell hb h9⟩
/-- values in a row, in the world -/
structure LIn (w : World) (aL : Option Addr) (nL cL : Nat) (kids : Nat → VT) : Prop where
  l : nL ≤ cL
  lc : cL ≤ maxLen
  c : nL = 0 ∨ ∃ b off, aL = some ⟨b, off, none⟩ ∧ b < w.heap.size ∧ ∀ i, i < nL → ∀ j, j < 10 → w.cell? ⟨b, off + i * 10 + j, none⟩ = (kids i).cells[j]?
  k : ∀ i, i < nL → (kids i).In w
theorem VT.In.ofList {w : World} {aL : Option Addr} {nL cL : Nat} {kids : Nat → VT} (h : LIn w aL nL cL kids) : (VT.mk 7 false 0 0 ⟨#[]⟩ aL nL cL kids none 0 0 (fun _ => ⟨#[]⟩)).In w :=
  ⟨⟨by decide, by decide, by decide, by decide, by decide, h.l, h.lc, Nat.le_refl _, Nat.zero_le _⟩, h.c, h.k, .inl rfl⟩
set_option maxRecDepth 20000 in
set_option maxHeartbeats 4000000 in
theorem ValueCounts_any (aL : Option Addr) (nL cL : Nat) (kids : Nat → VT) (w : World) (h : LIn w aL nL cL kids) (hU : U8T w) (hT : Tab w) :
    Calls Tryd.prog 6 #[.slice aL nL cL] w fun e w' => e = .returned (.bool true) ∧ Below w.heap.size w w' := by
  have H := Lib.hid h
  have CT : Hid (∀ wr : World, Below w.heap.size w wr → Calls Tryd.prog 13 #[] wr fun e w' => e = .returned (.bool true) ∧ Below wr.heap.size wr w') := Lib.hid fun wr hb => told_any wr (Utf8Tabs_below hU hb) (hT.below hb)
  have hlL := h.l
  have hcL := h.lc
  clear h hU hT
  simp only [maxLen] at hcL
  by_cases h6 : 6 < nL
  · have h6i : (6 : Int) < (nL : Int) := by omega
    go_enter Tryd.func6, Tryd.ntmps6
    repeat any_goals (first | (go_at_call 13; refine (CT.out _ (by (repeat first | with_reducible exact Below.refl _ _ | with_reducible assumption | with_reducible refine Below.drew ?_ | with_reducible refine below_alloc ?_ _ | ((with_reducible refine Below.setCell ?_ ?_ _); rotate_left; (focus (first | with_reducible exact Nat.le_refl _ | (simp; done) | (simp; omega) | omega))) | (with_reducible refine below_trans ?_ (by assumption))))).mono ?_; rintro e w1 ⟨rfl, hb1⟩) | go_skip | go_guarded | go_step | go_upon | (dsimp only []))
    exact bodyPost_ret (v := .bool true) (by simp [results, Tryd.results6, go_sem]) rfl ⟨rfl, by (repeat first | with_reducible exact Below.refl _ _ | with_reducible assumption | with_reducible refine Below.drew ?_ | with_reducible refine below_alloc ?_ _ | ((with_reducible refine Below.setCell ?_ ?_ _); rotate_left; (focus (first | with_reducible exact Nat.le_refl _ | (simp; done) | (simp; omega) | omega))) | (with_reducible refine below_trans ?_ (by assumption)))⟩
  have h6i : ¬ (6 : Int) < (nL : Int) := by omega
  obtain ⟨D, hD⟩ : ∃ D : Nat → Nat, D = fun n => maxN (fun i => (kids i).depth) n := ⟨_, rfl⟩
  obtain ⟨N, hN⟩ : ∃ N : Nat → Nat, N = fun n => sumN (fun i => (kids i).nodes) n := ⟨_, rfl⟩
  have HD := Lib.hid hD
  have HN := Lib.hid hN
  clear hD hN
  go_enter Tryd.func6, Tryd.ntmps6
  repeat any_goals (first | go_skip | go_guarded | go_step | go_upon | (simp only []; done))
  go_loopw [3, 4, 5] (fun d n i wr => ∃ k : Nat, k ≤ nL ∧ i = .int .i64 k ∧ d = .int .i64 (D k : Nat) ∧ n = .int .i64 ((N k + 1 : Nat) : Int) ∧ N k ≤ 400 * k ∧ D k ≤ N k ∧ Below w.heap.size w wr) (fun _ _ i _ => nL - (intOf i).toNat)
  case atStart =>
    refine ⟨0, Nat.zero_le _, rfl, by rw [HD.out]; rfl, by rw [HN.out]; rfl, by rw [HN.out]; exact Nat.le_refl _, by rw [HD.out]; exact Nat.zero_le _, by (repeat first | with_reducible exact Below.refl _ _ | with_reducible assumption | with_reducible refine Below.drew ?_ | with_reducible refine below_alloc ?_ _ | ((with_reducible refine Below.setCell ?_ ?_ _); rotate_left; (focus (first | with_reducible exact Nat.le_refl _ | (simp; done) | (simp; omega) | omega))) | (with_reducible refine below_trans ?_ (by assumption)))⟩
  case round =>
    obtain ⟨k, hk, rfl, rfl, rfl, hNk, hDk, hW⟩ := hrel
    by_cases hkn : k < nL
    · obtain ⟨b, off, kind', neg', V', bits', text', aL', nL', cL', kids', aK', nK', cK', keys', rfl, hb, hkid, ⟨c0, c1, c2, c3, c4, c5, c6, c7, c8, c9⟩, hin'⟩ := kid_lit H.out.c H.out.k hkn hW
      have i1 : (k : Int) < (nL : Int) := by omega
      have i2 : (0 : Int) ≤ (k : Int) := by omega
      have i5 : (k : Int).toNat = k := rfl
      obtain ⟨f, hf⟩ : ∃ f : Nat, f = (kids k).few 40 := ⟨_, rfl⟩
      obtain ⟨x, hx⟩ : ∃ x : Nat, x = (kids k).depth := ⟨_, rfl⟩
      obtain ⟨y, hy⟩ : ∃ y : Nat, y = (kids k).nodes := ⟨_, rfl⟩
      have hfn : f ≤ 400 → f = y ∧ x ≤ 40 := fun h => by
        have := VT.few_nodes (kids k) 40 (by rw [← hf]; exact h)
        rw [← hf, ← hy, ← hx] at this
        exact this
      have hxy : x ≤ y := by rw [hx, hy]; exact VT.depth_nodes _
      have CF : ∀ w'' : World, Below wr.heap.size wr w'' → Calls Tryd.prog 12 #[(kids k).agg] w'' fun e w' => e = .returned (.bool (decide (f ≤ 400))) ∧ Below w''.heap.size w'' w' := fun w'' hb => by
        rw [hf]
        exact Few_any _ w'' (hin'.below hb)
      have CD : f ≤ 400 → ∀ w'' : World, Below wr.heap.size wr w'' → Calls Tryd.prog 18 #[(kids k).agg] w'' fun e w' => e = .returned (.int .i64 (x : Nat)) ∧ Below w''.heap.size w'' w' := fun h w'' hb => by
        rw [hx]
        exact Depth_any _ w'' (hin'.below hb) (by rw [← hy]; have := (hfn h).1; omega)
      have CN : f ≤ 400 → ∀ w'' : World, Below wr.heap.size wr w'' → Calls Tryd.prog 20 #[(kids k).agg] w'' fun e w' => e = .returned (.int .i64 (y : Nat)) ∧ Below w''.heap.size w'' w' := fun h w'' hb => by
        rw [hy]
        exact Nodes_any _ w'' (hin'.below hb) (by rw [← hy]; have := (hfn h).1; omega)
      rw [hkid] at CF CD CN
      simp only [VT.agg, VT.cells] at CF CD CN
      have CF := Lib.hid CF
      have CD := Lib.hid CD
      have CN := Lib.hid CN
      have HX := Lib.hid hx
      have HY := Lib.hid hy
      have K0 := Lib.hid (show KBx wr b (off + k * 10) kind' neg' V' bits' text' aL' nL' cL' aK' nK' cK' from ⟨⟨c0, c1, c2, c3, c4, c5, c6, c7, c8, c9⟩⟩)
      clear hin' hkid hx hy hf
      by_cases hf4 : f ≤ 400
      · have hy4 := hfn hf4
        have CD1 := Lib.hid (CD.out hf4)
        have CN1 := Lib.hid (CN.out hf4)
        have hdec : decide (f ≤ 400) = true := decide_eq_true hf4
        rw [hdec] at CF
        clear CD CN hfn
        go_upto_region 9 with (go_at_call 12; with_reducible refine (CF.out _ (by (repeat first | with_reducible exact Below.refl _ _ | with_reducible assumption | with_reducible refine Below.drew ?_ | with_reducible refine below_alloc ?_ _ | ((with_reducible refine Below.setCell ?_ ?_ _); rotate_left; (focus (first | with_reducible exact Nat.le_refl _ | (simp; done) | (simp; omega) | omega))) | (with_reducible refine below_trans ?_ (by assumption))))).mono ?_; rintro e w1 ⟨rfl, hb1⟩)
        have K1 := Lib.hid (K0.out.below hb1)
        have hW1 := below_trans hW hb1
        (obtain ⟨C_, hC⟩ : ∃ C : World → Prop, C = fun w' => Below (w1).heap.size (w1) w' := ⟨_, rfl⟩; have HC := Lib.hid hC; have hne : ∀ p : Prop, (∀ w1 : World, C_ w1 → p) = p := fun p => propext ⟨fun h => h (w1) (by rw [hC]; exact Below.refl _ _), fun h _ _ => h⟩; clear hC; refine wp_region_quiet_cls (C := C_) (by kernel_rfl) (by kernel_rfl) (by rw [HC.out]; exact (Below.refl _ _).drew) ?_)
        (go_big_quiet_want; go_big_quiet_op; go_big_quiet_on)
        (go_big_quiet_want; go_big_quiet_op; go_big_quiet_on)
        (go_big_quiet_want; go_big_quiet_op; go_big_quiet_on)
        (go_big_quiet_want; go_big_quiet_op; go_big_quiet_on)
        (go_big_quiet_want; refine ⟨.agg #[.int .i64 kind', .bool neg', .int .u64 (lm V' 0 : Nat), .int .u64 (lm V' 1 : Nat), .int .u64 (lm V' 2 : Nat), .int .u64 (lm V' 3 : Nat), .int .u64 (bits' : Nat), .string text', .slice aL' nL' cL', .slice aK' nK' cK'], fun w1 hw1 => ?_, ?_⟩; (rw [HC.out] at hw1; obtain ⟨_, _, _, _, _⟩ := (K1.out.below hw1).all; simp [Oper.quietAt, go_sem, *]); (try simp only [Act.put, List.setIfInBounds_toArray, List.set_cons_zero, List.set_cons_succ]); go_big_quiet_on)
        (go_big_quiet_want; go_big_quiet_op; refine ⟨.int .i64 (x : Nat), fun w1 hw1 => ?_, ?_⟩; (rw [HC.out] at hw1 ⊢; with_reducible refine (CD1.out _ (below_trans hb1 hw1)).mono ?_; rintro e w4 ⟨rfl, hb4⟩; exact ⟨rfl, below_trans hw1 hb4⟩); go_big_quiet_on)
        (go_big_quiet_want; go_big_quiet_op; go_big_quiet_on)
        (go_big_quiet_want; go_big_quiet_op; go_big_quiet_on)
        (go_big_quiet_want; go_big_quiet_op; go_big_quiet_on)
        (go_big_quiet_want; go_big_quiet_op; go_big_quiet_on)
        (go_big_quiet_want; go_big_quiet_op; go_big_quiet_on)
        (go_big_quiet_want; refine ⟨.agg #[.int .i64 kind', .bool neg', .int .u64 (lm V' 0 : Nat), .int .u64 (lm V' 1 : Nat), .int .u64 (lm V' 2 : Nat), .int .u64 (lm V' 3 : Nat), .int .u64 (bits' : Nat), .string text', .slice aL' nL' cL', .slice aK' nK' cK'], fun w1 hw1 => ?_, ?_⟩; (rw [HC.out] at hw1; obtain ⟨_, _, _, _, _⟩ := (K1.out.below hw1).all; simp [Oper.quietAt, go_sem, *]); (try simp only [Act.put, List.setIfInBounds_toArray, List.set_cons_zero, List.set_cons_succ]); go_big_quiet_on)
        (go_big_quiet_want; go_big_quiet_op; refine ⟨.int .i64 (y : Nat), fun w1 hw1 => ?_, ?_⟩; (rw [HC.out] at hw1 ⊢; with_reducible refine (CN1.out _ (below_trans hb1 hw1)).mono ?_; rintro e w4 ⟨rfl, hb4⟩; exact ⟨rfl, below_trans hw1 hb4⟩); go_big_quiet_on)
        (go_big_quiet_want; go_big_quiet_op; go_big_quiet_on)
        (go_big_quiet_want; go_big_quiet_op; go_big_quiet_on)
        (go_big_quiet_want; go_big_quiet_op; go_big_quiet_on)
        (refine wpQuiet_nil ?_; intro w2 hw2; rw [HC.out] at hw2)
        repeat any_goals (first | go_skip | go_guarded | go_step | go_upon | (simp only []; done))
        go_roundw
        case rel =>
          have eN : N (k + 1) = N k + y := by rw [HN.out, HY.out]; rfl
          have eD : D (k + 1) = max (D k) x := by rw [HD.out, HX.out]; rfl
          have hy2 := hy4.1
          exact ⟨k + 1, by omega, rfl, by rw [eD]; congr 1; omega, by rw [eN]; congr 1; omega, by rw [eN]; omega, by rw [eN, eD]; omega, below_trans hW1 hw2⟩
        case measure => simp [intOf]; omega
      · have hdec : decide (f ≤ 400) = false := decide_eq_false hf4
        rw [hdec] at CF
        clear CD CN hfn
        repeat any_goals (first | (go_at_call 12; refine (CF.out _ (by (repeat first | with_reducible exact Below.refl _ _ | with_reducible assumption | with_reducible refine Below.drew ?_ | with_reducible refine below_alloc ?_ _ | ((with_reducible refine Below.setCell ?_ ?_ _); rotate_left; (focus (first | with_reducible exact Nat.le_refl _ | (simp; done) | (simp; omega) | omega))) | (with_reducible refine below_trans ?_ (by assumption))))).mono ?_; rintro e w1 ⟨rfl, hb1⟩) | (go_at_call 13; refine (CT.out _ (by (repeat first | with_reducible exact Below.refl _ _ | with_reducible assumption | with_reducible refine Below.drew ?_ | with_reducible refine below_alloc ?_ _ | ((with_reducible refine Below.setCell ?_ ?_ _); rotate_left; (focus (first | with_reducible exact Nat.le_refl _ | (simp; done) | (simp; omega) | omega))) | (with_reducible refine below_trans ?_ (by assumption))))).mono ?_; rintro e w2 ⟨rfl, hb2⟩) | go_skip | go_guarded | go_step | go_upon | (dsimp only []))
        exact bodyPost_ret (v := .bool true) (by simp [results, Tryd.results6, go_sem]) rfl ⟨rfl, by (repeat first | with_reducible exact Below.refl _ _ | with_reducible assumption | with_reducible refine Below.drew ?_ | with_reducible refine below_alloc ?_ _ | ((with_reducible refine Below.setCell ?_ ?_ _); rotate_left; (focus (first | with_reducible exact Nat.le_refl _ | (simp; done) | (simp; omega) | omega))) | (with_reducible refine below_trans ?_ (by assumption)))⟩
    · have hk' : k = nL := by omega
      subst hk'
      have i1 : ¬ (k : Int) < (k : Int) := by omega
      have hd : (VT.mk 7 false 0 0 ⟨#[]⟩ aL k cL kids none 0 0 (fun _ => ⟨#[]⟩)).depth = D k + 1 := by rw [HD.out]; rfl
      have hn : (VT.mk 7 false 0 0 ⟨#[]⟩ aL k cL kids none 0 0 (fun _ => ⟨#[]⟩)).nodes = N k + 1 := by rw [HN.out]; rfl
      have hin := VT.In.ofList H.out
      have CD : ∀ w'' : World, Below w.heap.size w w'' → Calls Tryd.prog 18 #[.agg #[.int .i64 7, .bool false, .int .u64 0, .int .u64 0, .int .u64 0, .int .u64 0, .int .u64 0, .string ⟨#[]⟩, .slice aL k cL, .slice none 0 0]] w'' fun e w' => e = .returned (.int .i64 ((D k + 1 : Nat) : Int)) ∧ Below w''.heap.size w'' w' := fun w'' hb => by
        have h := Depth_any _ w'' (hin.below hb) (by rw [hn]; omega)
        rw [hd] at h
        simp only [VT.agg, VT.cells, lm_zero] at h
        exact h
      have CN : ∀ w'' : World, Below w.heap.size w w'' → Calls Tryd.prog 20 #[.agg #[.int .i64 7, .bool false, .int .u64 0, .int .u64 0, .int .u64 0, .int .u64 0, .int .u64 0, .string ⟨#[]⟩, .slice aL k cL, .slice none 0 0]] w'' fun e w' => e = .returned (.int .i64 ((N k + 1 : Nat) : Int)) ∧ Below w''.heap.size w'' w' := fun w'' hb => by
        have h := Nodes_any _ w'' (hin.below hb) (by rw [hn]; omega)
        rw [hn] at h
        simp only [VT.agg, VT.cells, lm_zero] at h
        exact h
      have CD := Lib.hid CD
      have CN := Lib.hid CN
      clear hd hn hin
      have V0 := Lib.hid (show RBx (wr.alloc (.cells #[.int .i64 7, .bool false, .int .u64 0, .int .u64 0, .int .u64 0, .int .u64 0, .int .u64 0, .string ⟨#[]⟩, .slice aL k cL, .slice none 0 0] 30)) wr.heap.size (.int .i64 7) (.bool false) (.int .u64 0) (.int .u64 0) (.int .u64 0) (.int .u64 0) (.int .u64 0) (.string ⟨#[]⟩) (.slice aL k cL) (.slice none 0 0) from ⟨by simp [go_sem]⟩)
      repeat any_goals (first | (go_at_call 13; with_reducible refine (CT.out _ (by (repeat first | with_reducible exact Below.refl _ _ | with_reducible assumption | with_reducible refine Below.drew ?_ | with_reducible refine below_alloc ?_ _ | ((with_reducible refine Below.setCell ?_ ?_ _); rotate_left; (focus (first | with_reducible exact Nat.le_refl _ | (simp; done) | (simp; omega) | omega))) | (with_reducible refine below_trans ?_ (by assumption))))).mono ?_; rintro e w1 ⟨rfl, hb1⟩; (first | have V1 := Lib.hid (V0.out.below hb1) | have V1 := Lib.hid (V0.out.step hb1)); obtain ⟨_, _, _, _, _, _, _, _, _, _⟩ := V1.out.all) | (go_at_call 18; with_reducible refine (CD.out _ (by (repeat first | with_reducible exact Below.refl _ _ | with_reducible assumption | with_reducible refine Below.drew ?_ | with_reducible refine below_alloc ?_ _ | ((with_reducible refine Below.setCell ?_ ?_ _); rotate_left; (focus (first | with_reducible exact Nat.le_refl _ | (simp; done) | (simp; omega) | omega))) | (with_reducible refine below_trans ?_ (by assumption))))).mono ?_; rintro e w2 ⟨rfl, hb2⟩; (first | have V2 := Lib.hid (V1.out.below hb2) | have V2 := Lib.hid (V1.out.step hb2)); obtain ⟨_, _, _, _, _, _, _, _, _, _⟩ := V2.out.all) | (go_at_call 20; refine (CN.out _ (by (repeat first | with_reducible exact Below.refl _ _ | with_reducible assumption | with_reducible refine Below.drew ?_ | with_reducible refine below_alloc ?_ _ | ((with_reducible refine Below.setCell ?_ ?_ _); rotate_left; (focus (first | with_reducible exact Nat.le_refl _ | (simp; done) | (simp; omega) | omega))) | (with_reducible refine below_trans ?_ (by assumption))))).mono ?_; rintro e w3 ⟨rfl, hb3⟩) | go_skip | go_guarded | go_step | go_upon | (dsimp only []))
      exact bodyPost_ret (v := .bool true) (by simp [results, Tryd.results6, go_sem]) rfl ⟨rfl, by (repeat first | with_reducible exact Below.refl _ _ | with_reducible assumption | with_reducible refine Below.drew ?_ | with_reducible refine below_alloc ?_ _ | ((with_reducible refine Below.setCell ?_ ?_ _); rotate_left; (focus (first | with_reducible exact Nat.le_refl _ | (simp; done) | (simp; omega) | omega))) | (with_reducible refine below_trans ?_ (by assumption)))⟩
end Go.Proofs.YtminijokbeclhaaDoor
