/- The law SpanSets. -/
import Derived.Test.YtekeedjhaakbhaaDoorRAll9
namespace Go.Proofs.YtekeedjhaakbhaaDoor
open Go Go.RowKit
theorem sets_same {wx wy : World} {a b : Option Addr} {n c m d i j : Nat} {la lb : List Cl} {S T : Nat → Sp} {M N : Nat} {q r : Bool}
    (A : ResP wx a n c la (fun z => mayR S i = true ∧ InS S i z) M) (B : ResP wy b m d lb (fun z => mayR T j = true ∧ InS T j z) N) (h1 : true = mayR S i) (h2 : true = mayR T j)
    (hq : SameO (nthS (la.map opS)) n (nthS (lb.map opS)) m q) (hr : SameS S i T j r) : r = q := by
  obtain ⟨rfl⟩ := A.e
  obtain ⟨rfl⟩ := B.e
  unfold SameS at hr
  unfold SameO at hq
  rw [Bool.eq_iff_iff, hr, hq]
  constructor
  · rintro ⟨-, -, h⟩
    have e := A.f.unique B.f (fun z => ⟨fun x => ⟨h2.symm, (h z).1 x.2⟩, fun x => ⟨h1.symm, (h z).2 x.2⟩⟩)
    subst e
    exact ⟨rfl, fun _ _ => rfl⟩
  · intro h
    have e := rows_same h
    subst e
    refine ⟨h1.symm, h2.symm, fun z => ?_⟩
    have x := (A.f.mem z).symm.trans (B.f.mem z)
    exact ⟨fun y => (x.1 ⟨h1.symm, y⟩).2, fun y => (x.2 ⟨h2.symm, y⟩).2⟩
theorem one_same {q : Bool} (h : SameO (fun _ => allS) 1 (nthS [allS]) 1 q) : q = true := by
  unfold SameO at h
  rw [h]
  refine ⟨rfl, fun i hi => ?_⟩
  obtain rfl : i = 0 := by omega
  rfl
/-- all numbers, as the law has them -/
theorem all_lit (w : World) : SRow (w.alloc (.cells #[.bool false, .bool false, .bool false, .int .u64 0, .int .u64 0, .int .u64 0, .int .u64 0, .bool false, .int .u64 0, .int .u64 0, .int .u64 0, .int .u64 0] 33)) (some ⟨w.heap.size, 0, none⟩) 1 1 (nthS [allS]) := by
  have h := row_x (base := w.heap.size) (W := w) (.bool false) (.bool false) (.bool false) (.int .u64 0) (.int .u64 0) (.int .u64 0) (.int .u64 0) (.bool false) (.int .u64 0) (.int .u64 0) (.int .u64 0) (.int .u64 0) (Nat.le_refl _)
  have e : encS [allS] = [.bool false, .bool false, .bool false, .int .u64 0, .int .u64 0, .int .u64 0, .int .u64 0, .bool false, .int .u64 0, .int .u64 0, .int .u64 0, .int .u64 0] := by
    unfold encS allS Sp.cells
    simp [lm_zero]
  rw [← e] at h
  obtain ⟨a, c, e2, hr⟩ := own_row (l := [allS]) h (fun s hs => by
    rw [List.mem_singleton.1 hs]
    exact ⟨Nat.two_pow_pos _, Nat.two_pow_pos _⟩)
  injection e2 with e3 _ e4
  subst e3 e4
  exact hr
set_option maxRecDepth 20000 in
set_option maxHeartbeats 8000000 in
theorem SpanSets_any (a : Option Addr) (n c : Nat) (S : Nat → Sp) (b : Option Addr) (m d : Nat) (T : Nat → Sp) (w : World) (h1 : SRow w a n c S) (h2 : SRow w b m d T) (hT : Tabs w) :
    Calls Tryd.prog 5 #[.slice a n c, .slice b m d] w fun e w' => e = .returned (.bool true) ∧ Below w.heap.size w w' := by
  have H1 := Lib.hid h1
  have H2 := Lib.hid h2
  have HT := Lib.hid hT
  have q1 := h1.l
  have q2 := h1.lc
  have q3 := h2.l
  have q4 := h2.lc
  simp only [maxLen] at q2 q4
  obtain ⟨R1, hR1⟩ : ∃ R, R = mayR S n := ⟨_, rfl⟩
  obtain ⟨R2, hR2⟩ : ∃ R, R = mayR T m := ⟨_, rfl⟩
  have FW := Lib.hid fun wx => few_any a b n c m d wx (by omega) (by omega)
  have P1 := Lib.hid fun wx (hx : SRow wx a n c S) => PMayS_any a n c S wx hx
  have M1 := Lib.hid fun wx (hx : SRow wx a n c S) => RMayS_any a n c S wx hx
  have M2 := Lib.hid fun wx (hx : SRow wx b m d T) => RMayS_any b m d T wx hx
  rw [← hR1] at M1 P1
  rw [← hR2] at M2
  have HR := Lib.hid (And.intro hR1 hR2)
  have TL := Lib.hid fun wx (hb : Below w.heap.size w wx) => told_any wx (HT.out.below hb)
  clear h1 h2 hT hR1 hR2
  obtain ⟨fw, hfw⟩ : ∃ f, f = (decide (n ≤ 12) && decide (m ≤ 12)) := ⟨_, rfl⟩
  rw [← hfw] at FW
  have HF := Lib.hid hfw
  clear hfw q1 q2 q3 q4
  cases fw with
  | false =>
    go_enter Tryd.func5, Tryd.ntmps5
    repeat any_goals (first | (go_at_call 8; with_reducible refine (FW.out _).mono ?_; rintro e w1 ⟨rfl, hb1⟩) | (go_at_call 10; with_reducible refine (TL.out _ (by (repeat first | with_reducible exact Below.refl _ _ | with_reducible assumption | with_reducible refine Below.drew ?_ | with_reducible refine below_alloc ?_ _ | ((with_reducible refine Below.setCell ?_ ?_ _); rotate_left; (focus (first | with_reducible exact Nat.le_refl _ | (simp; done) | (simp; omega) | omega))) | (with_reducible refine below_trans ?_ (by assumption))))).mono ?_; rintro e w9 ⟨rfl, hb9⟩) | go_skip | go_guarded | go_step | go_upon | (dsimp only []))
    exact bodyPost_ret (v := .bool true) (by simp [results, Tryd.results5, go_sem]) rfl ⟨rfl, by (repeat first | with_reducible exact Below.refl _ _ | with_reducible assumption | with_reducible refine Below.drew ?_ | with_reducible refine below_alloc ?_ _ | ((with_reducible refine Below.setCell ?_ ?_ _); rotate_left; (focus (first | with_reducible exact Nat.le_refl _ | (simp; done) | (simp; omega) | omega))) | (with_reducible refine below_trans ?_ (by assumption)))⟩
  | true =>
    have hn12 : n ≤ 12 := by have := HF.out.symm; simp only [Bool.and_eq_true, decide_eq_true_eq] at this; exact this.1
    have hm12 : m ≤ 12 := by have := HF.out.symm; simp only [Bool.and_eq_true, decide_eq_true_eq] at this; exact this.2
    clear HF
    cases R1 with
    | false =>
      cases R2 with
      | false =>
        go_enter Tryd.func5, Tryd.ntmps5
        repeat any_goals (first | (go_at_call 8; with_reducible refine (FW.out _).mono ?_; rintro e w1 ⟨rfl, hb1⟩; have hq : Below w.heap.size w w1 := hb1) | (go_at_call 18; with_reducible refine (P1.out _ (H1.out.below hq)).mono ?_; rintro e w2 ⟨rfl, hb2⟩; have hq := hq.trans (below_weak hb2 hq.size)) | (go_at_call 9; with_reducible refine (M1.out _ (H1.out.below hq)).mono ?_; rintro e w3 ⟨rfl, hb3⟩; have hq := hq.trans (below_weak hb3 hq.size)) | go_skip | go_guarded | go_step | go_upon | (dsimp only []))
        refine (Norm_any a n c S _ (H1.out.below hq) (by omega)).mono ?_
        rintro e y1 ⟨v1, rfl, hg1⟩
        obtain ⟨a1, n1, c1, l1, rfl, hr1, hb1⟩ := out_res hg1
        have X := Lib.hid hr1
        have hq := hq.trans (below_weak hb1 hq.size)
        clear hb1 hr1 hg1
        dsimp only []
        repeat any_goals (first | go_skip | go_guarded | go_step | go_upon | (simp only []; done))
        refine (RNorm_any a n c S _ (H1.out.below hq) (by omega)).mono ?_
        rintro e y2 ⟨v2, rfl, hg2⟩
        obtain ⟨a2, n2, c2, l2, rfl, hr2, hb2⟩ := out_res hg2
        have Y := Lib.hid hr2
        have X := Lib.hid (X.out.below hb2)
        have hq := hq.trans (below_weak hb2 hq.size)
        clear hb2 hr2 hg2
        dsimp only []
        repeat any_goals (first | go_skip | go_guarded | go_step | go_upon | (simp only []; done))
        refine (same_res X.out Y.out (fun z => Iff.rfl)).mono ?_
        rintro e y3 ⟨rfl, hb3⟩
        have hq := hq.trans (below_weak hb3 hq.size)
        clear hb3 X Y
        dsimp only []
        repeat any_goals (first | go_skip | go_guarded | go_step | go_upon | (simp only []; done))
        refine (Not_any a n c S _ (H1.out.below hq) (by omega)).mono ?_
        rintro e y4 ⟨v4, rfl, hg4⟩
        obtain ⟨a4, n4, c4, l4, rfl, hr4, hb4⟩ := out_res hg4
        have X := Lib.hid hr4
        have hq := hq.trans (below_weak hb4 hq.size)
        clear hb4 hr4 hg4
        dsimp only []
        repeat any_goals (first | go_skip | go_guarded | go_step | go_upon | (simp only []; done))
        refine (RNot_any a n c S _ (H1.out.below hq) (by omega)).mono ?_
        rintro e y5 ⟨v5, rfl, hg5⟩
        obtain ⟨a5, n5, c5, l5, rfl, hr5, hb5⟩ := out_res hg5
        have Y := Lib.hid hr5
        have X := Lib.hid (X.out.below hb5)
        have hq := hq.trans (below_weak hb5 hq.size)
        clear hb5 hr5 hg5
        dsimp only []
        repeat any_goals (first | go_skip | go_guarded | go_step | go_upon | (simp only []; done))
        refine (same_res X.out Y.out (fun z => Iff.rfl)).mono ?_
        rintro e y6 ⟨rfl, hb6⟩
        have hq := hq.trans (below_weak hb6 hq.size)
        clear hb6 X Y
        dsimp only []
        repeat any_goals (first | go_skip | go_guarded | go_step | go_upon | (simp only []; done))
        refine (Or_any a n c S b m d T _ (H1.out.below hq) (H2.out.below hq) (by omega) (by omega)).mono ?_
        rintro e y7 ⟨v7, rfl, hg7⟩
        obtain ⟨a7, n7, c7, l7, rfl, hr7, hb7⟩ := out_res hg7
        have X := Lib.hid hr7
        have hq := hq.trans (below_weak hb7 hq.size)
        clear hb7 hr7 hg7
        dsimp only []
        repeat any_goals (first | go_skip | go_guarded | go_step | go_upon | (simp only []; done))
        refine (ROr_any a n c S b m d T _ (H1.out.below hq) (H2.out.below hq) (by omega) (by omega)).mono ?_
        rintro e y8 ⟨v8, rfl, hg8⟩
        obtain ⟨a8, n8, c8, l8, rfl, hr8, hb8⟩ := out_res hg8
        have Y := Lib.hid hr8
        have X := Lib.hid (X.out.below hb8)
        have hq := hq.trans (below_weak hb8 hq.size)
        clear hb8 hr8 hg8
        dsimp only []
        repeat any_goals (first | go_skip | go_guarded | go_step | go_upon | (simp only []; done))
        refine (same_res X.out Y.out (fun z => Iff.rfl)).mono ?_
        rintro e y9 ⟨rfl, hb9⟩
        have hq := hq.trans (below_weak hb9 hq.size)
        clear hb9 X Y
        dsimp only []
        repeat any_goals (first | go_skip | go_guarded | go_step | go_upon | (simp only []; done))
        refine (And_any a n c S b m d T _ (H1.out.below hq) (H2.out.below hq) (by omega) (by omega)).mono ?_
        rintro e y10 ⟨v10, rfl, hg10⟩
        obtain ⟨a10, n10, c10, l10, rfl, hr10, hb10⟩ := out_res hg10
        have X := Lib.hid hr10
        have hq := hq.trans (below_weak hb10 hq.size)
        clear hb10 hr10 hg10
        dsimp only []
        repeat any_goals (first | go_skip | go_guarded | go_step | go_upon | (simp only []; done))
        refine (RAnd_any a n c S b m d T _ (H1.out.below hq) (H2.out.below hq) (by omega) (by omega)).mono ?_
        rintro e y11 ⟨v11, rfl, hg11⟩
        obtain ⟨a11, n11, c11, l11, rfl, hr11, hb11⟩ := out_res hg11
        have Y := Lib.hid hr11
        have X := Lib.hid (X.out.below hb11)
        have hq := hq.trans (below_weak hb11 hq.size)
        clear hb11 hr11 hg11
        dsimp only []
        repeat any_goals (first | go_skip | go_guarded | go_step | go_upon | (simp only []; done))
        refine (same_res X.out Y.out (fun z => Iff.rfl)).mono ?_
        rintro e y12 ⟨rfl, hb12⟩
        have hq := hq.trans (below_weak hb12 hq.size)
        clear hb12 X Y
        dsimp only []
        repeat any_goals (first | (go_at_call 9; with_reducible refine (M1.out _ (H1.out.below hq)).mono ?_; rintro e w3 ⟨rfl, hb3⟩; have hq := hq.trans (below_weak hb3 hq.size)) | (go_at_call 9; with_reducible refine (M2.out _ (H2.out.below hq)).mono ?_; rintro e w8 ⟨rfl, hb8⟩; have hq := hq.trans (below_weak hb8 hq.size)) | (go_at_call 10; with_reducible refine (TL.out _ hq).mono ?_; rintro e z2 ⟨rfl, hb2⟩; have hq := hq.trans (below_weak hb2 hq.size)) | go_skip | go_guarded | go_step | go_upon | (dsimp only []))
        refine (Same_any a n c S b m d T _ (H1.out.below hq) (H2.out.below hq)).mono ?_
        rintro e z3 ⟨r, rfl, hr, hb3⟩
        obtain rfl : r = false := by
          unfold SameS at hr
          rw [← Bool.not_eq_true, hr]
          exact fun h => by rw [← HR.out.1] at h; cases h.1
        have hq := hq.trans (below_weak hb3 hq.size)
        clear hb3 hr
        dsimp only []
        repeat any_goals (first | go_skip | go_guarded | go_step | go_upon | (simp only []; done))
        refine (All_any _).mono ?_
        rintro e z4 ⟨rfl, hr4, hb4⟩
        have hq := hq.trans (below_weak hb4 hq.size)
        have X4 := Lib.hid hr4
        clear hb4 hr4
        dsimp only []
        repeat any_goals (first | go_skip | go_guarded | go_step | go_upon | (simp only []; done))
        refine (RSameS_any _ _ _ _ _ _ _ _ _ (X4.out.below (below_alloc (Below.refl _ _) _)) (all_lit _)).mono ?_
        rintro e z5 ⟨q5, rfl, hq5, hb5⟩
        obtain rfl : q5 = true := one_same hq5
        have hq := below_trans (below_alloc hq _) hb5
        clear hb5 hq5
        dsimp only []
        repeat any_goals (first | go_skip | go_guarded | go_step | go_upon | (simp only []; done))
        exact bodyPost_ret (v := .bool true) (by simp [results, Tryd.results5, go_sem]) rfl ⟨rfl, hq⟩
      | true =>
        go_enter Tryd.func5, Tryd.ntmps5
        repeat any_goals (first | (go_at_call 8; with_reducible refine (FW.out _).mono ?_; rintro e w1 ⟨rfl, hb1⟩; have hq : Below w.heap.size w w1 := hb1) | (go_at_call 18; with_reducible refine (P1.out _ (H1.out.below hq)).mono ?_; rintro e w2 ⟨rfl, hb2⟩; have hq := hq.trans (below_weak hb2 hq.size)) | (go_at_call 9; with_reducible refine (M1.out _ (H1.out.below hq)).mono ?_; rintro e w3 ⟨rfl, hb3⟩; have hq := hq.trans (below_weak hb3 hq.size)) | go_skip | go_guarded | go_step | go_upon | (dsimp only []))
        refine (Norm_any a n c S _ (H1.out.below hq) (by omega)).mono ?_
        rintro e y13 ⟨v13, rfl, hg13⟩
        obtain ⟨a13, n13, c13, l13, rfl, hr13, hb13⟩ := out_res hg13
        have X := Lib.hid hr13
        have hq := hq.trans (below_weak hb13 hq.size)
        clear hb13 hr13 hg13
        dsimp only []
        repeat any_goals (first | go_skip | go_guarded | go_step | go_upon | (simp only []; done))
        refine (RNorm_any a n c S _ (H1.out.below hq) (by omega)).mono ?_
        rintro e y14 ⟨v14, rfl, hg14⟩
        obtain ⟨a14, n14, c14, l14, rfl, hr14, hb14⟩ := out_res hg14
        have Y := Lib.hid hr14
        have X := Lib.hid (X.out.below hb14)
        have hq := hq.trans (below_weak hb14 hq.size)
        clear hb14 hr14 hg14
        dsimp only []
        repeat any_goals (first | go_skip | go_guarded | go_step | go_upon | (simp only []; done))
        refine (same_res X.out Y.out (fun z => Iff.rfl)).mono ?_
        rintro e y15 ⟨rfl, hb15⟩
        have hq := hq.trans (below_weak hb15 hq.size)
        clear hb15 X Y
        dsimp only []
        repeat any_goals (first | go_skip | go_guarded | go_step | go_upon | (simp only []; done))
        refine (Not_any a n c S _ (H1.out.below hq) (by omega)).mono ?_
        rintro e y16 ⟨v16, rfl, hg16⟩
        obtain ⟨a16, n16, c16, l16, rfl, hr16, hb16⟩ := out_res hg16
        have X := Lib.hid hr16
        have hq := hq.trans (below_weak hb16 hq.size)
        clear hb16 hr16 hg16
        dsimp only []
        repeat any_goals (first | go_skip | go_guarded | go_step | go_upon | (simp only []; done))
        refine (RNot_any a n c S _ (H1.out.below hq) (by omega)).mono ?_
        rintro e y17 ⟨v17, rfl, hg17⟩
        obtain ⟨a17, n17, c17, l17, rfl, hr17, hb17⟩ := out_res hg17
        have Y := Lib.hid hr17
        have X := Lib.hid (X.out.below hb17)
        have hq := hq.trans (below_weak hb17 hq.size)
        clear hb17 hr17 hg17
        dsimp only []
        repeat any_goals (first | go_skip | go_guarded | go_step | go_upon | (simp only []; done))
        refine (same_res X.out Y.out (fun z => Iff.rfl)).mono ?_
        rintro e y18 ⟨rfl, hb18⟩
        have hq := hq.trans (below_weak hb18 hq.size)
        clear hb18 X Y
        dsimp only []
        repeat any_goals (first | go_skip | go_guarded | go_step | go_upon | (simp only []; done))
        refine (Or_any a n c S b m d T _ (H1.out.below hq) (H2.out.below hq) (by omega) (by omega)).mono ?_
        rintro e y19 ⟨v19, rfl, hg19⟩
        obtain ⟨a19, n19, c19, l19, rfl, hr19, hb19⟩ := out_res hg19
        have X := Lib.hid hr19
        have hq := hq.trans (below_weak hb19 hq.size)
        clear hb19 hr19 hg19
        dsimp only []
        repeat any_goals (first | go_skip | go_guarded | go_step | go_upon | (simp only []; done))
        refine (ROr_any a n c S b m d T _ (H1.out.below hq) (H2.out.below hq) (by omega) (by omega)).mono ?_
        rintro e y20 ⟨v20, rfl, hg20⟩
        obtain ⟨a20, n20, c20, l20, rfl, hr20, hb20⟩ := out_res hg20
        have Y := Lib.hid hr20
        have X := Lib.hid (X.out.below hb20)
        have hq := hq.trans (below_weak hb20 hq.size)
        clear hb20 hr20 hg20
        dsimp only []
        repeat any_goals (first | go_skip | go_guarded | go_step | go_upon | (simp only []; done))
        refine (same_res X.out Y.out (fun z => Iff.rfl)).mono ?_
        rintro e y21 ⟨rfl, hb21⟩
        have hq := hq.trans (below_weak hb21 hq.size)
        clear hb21 X Y
        dsimp only []
        repeat any_goals (first | go_skip | go_guarded | go_step | go_upon | (simp only []; done))
        refine (And_any a n c S b m d T _ (H1.out.below hq) (H2.out.below hq) (by omega) (by omega)).mono ?_
        rintro e y22 ⟨v22, rfl, hg22⟩
        obtain ⟨a22, n22, c22, l22, rfl, hr22, hb22⟩ := out_res hg22
        have X := Lib.hid hr22
        have hq := hq.trans (below_weak hb22 hq.size)
        clear hb22 hr22 hg22
        dsimp only []
        repeat any_goals (first | go_skip | go_guarded | go_step | go_upon | (simp only []; done))
        refine (RAnd_any a n c S b m d T _ (H1.out.below hq) (H2.out.below hq) (by omega) (by omega)).mono ?_
        rintro e y23 ⟨v23, rfl, hg23⟩
        obtain ⟨a23, n23, c23, l23, rfl, hr23, hb23⟩ := out_res hg23
        have Y := Lib.hid hr23
        have X := Lib.hid (X.out.below hb23)
        have hq := hq.trans (below_weak hb23 hq.size)
        clear hb23 hr23 hg23
        dsimp only []
        repeat any_goals (first | go_skip | go_guarded | go_step | go_upon | (simp only []; done))
        refine (same_res X.out Y.out (fun z => Iff.rfl)).mono ?_
        rintro e y24 ⟨rfl, hb24⟩
        have hq := hq.trans (below_weak hb24 hq.size)
        clear hb24 X Y
        dsimp only []
        repeat any_goals (first | (go_at_call 9; with_reducible refine (M1.out _ (H1.out.below hq)).mono ?_; rintro e w3 ⟨rfl, hb3⟩; have hq := hq.trans (below_weak hb3 hq.size)) | (go_at_call 9; with_reducible refine (M2.out _ (H2.out.below hq)).mono ?_; rintro e w8 ⟨rfl, hb8⟩; have hq := hq.trans (below_weak hb8 hq.size)) | (go_at_call 10; with_reducible refine (TL.out _ hq).mono ?_; rintro e z2 ⟨rfl, hb2⟩; have hq := hq.trans (below_weak hb2 hq.size)) | go_skip | go_guarded | go_step | go_upon | (dsimp only []))
        refine (Same_any a n c S b m d T _ (H1.out.below hq) (H2.out.below hq)).mono ?_
        rintro e z3 ⟨r, rfl, hr, hb3⟩
        obtain rfl : r = false := by
          unfold SameS at hr
          rw [← Bool.not_eq_true, hr]
          exact fun h => by rw [← HR.out.1] at h; cases h.1
        have hq := hq.trans (below_weak hb3 hq.size)
        clear hb3 hr
        dsimp only []
        repeat any_goals (first | go_skip | go_guarded | go_step | go_upon | (simp only []; done))
        refine (All_any _).mono ?_
        rintro e z4 ⟨rfl, hr4, hb4⟩
        have hq := hq.trans (below_weak hb4 hq.size)
        have X4 := Lib.hid hr4
        clear hb4 hr4
        dsimp only []
        repeat any_goals (first | go_skip | go_guarded | go_step | go_upon | (simp only []; done))
        refine (RSameS_any _ _ _ _ _ _ _ _ _ (X4.out.below (below_alloc (Below.refl _ _) _)) (all_lit _)).mono ?_
        rintro e z5 ⟨q5, rfl, hq5, hb5⟩
        obtain rfl : q5 = true := one_same hq5
        have hq := below_trans (below_alloc hq _) hb5
        clear hb5 hq5
        dsimp only []
        repeat any_goals (first | go_skip | go_guarded | go_step | go_upon | (simp only []; done))
        exact bodyPost_ret (v := .bool true) (by simp [results, Tryd.results5, go_sem]) rfl ⟨rfl, hq⟩
    | true =>
      cases R2 with
      | false =>
        go_enter Tryd.func5, Tryd.ntmps5
        repeat any_goals (first | (go_at_call 8; with_reducible refine (FW.out _).mono ?_; rintro e w1 ⟨rfl, hb1⟩; have hq : Below w.heap.size w w1 := hb1) | (go_at_call 18; with_reducible refine (P1.out _ (H1.out.below hq)).mono ?_; rintro e w2 ⟨rfl, hb2⟩; have hq := hq.trans (below_weak hb2 hq.size)) | (go_at_call 9; with_reducible refine (M1.out _ (H1.out.below hq)).mono ?_; rintro e w3 ⟨rfl, hb3⟩; have hq := hq.trans (below_weak hb3 hq.size)) | go_skip | go_guarded | go_step | go_upon | (dsimp only []))
        refine (Norm_any a n c S _ (H1.out.below hq) (by omega)).mono ?_
        rintro e y25 ⟨v25, rfl, hg25⟩
        obtain ⟨a25, n25, c25, l25, rfl, hr25, hb25⟩ := out_res hg25
        have X := Lib.hid hr25
        have hq := hq.trans (below_weak hb25 hq.size)
        clear hb25 hr25 hg25
        dsimp only []
        repeat any_goals (first | go_skip | go_guarded | go_step | go_upon | (simp only []; done))
        refine (RNorm_any a n c S _ (H1.out.below hq) (by omega)).mono ?_
        rintro e y26 ⟨v26, rfl, hg26⟩
        obtain ⟨a26, n26, c26, l26, rfl, hr26, hb26⟩ := out_res hg26
        have Y := Lib.hid hr26
        have X := Lib.hid (X.out.below hb26)
        have hq := hq.trans (below_weak hb26 hq.size)
        clear hb26 hr26 hg26
        dsimp only []
        repeat any_goals (first | go_skip | go_guarded | go_step | go_upon | (simp only []; done))
        refine (same_res X.out Y.out (fun z => Iff.rfl)).mono ?_
        rintro e y27 ⟨rfl, hb27⟩
        have hq := hq.trans (below_weak hb27 hq.size)
        clear hb27 X Y
        dsimp only []
        repeat any_goals (first | go_skip | go_guarded | go_step | go_upon | (simp only []; done))
        refine (Not_any a n c S _ (H1.out.below hq) (by omega)).mono ?_
        rintro e y28 ⟨v28, rfl, hg28⟩
        obtain ⟨a28, n28, c28, l28, rfl, hr28, hb28⟩ := out_res hg28
        have X := Lib.hid hr28
        have hq := hq.trans (below_weak hb28 hq.size)
        clear hb28 hr28 hg28
        dsimp only []
        repeat any_goals (first | go_skip | go_guarded | go_step | go_upon | (simp only []; done))
        refine (RNot_any a n c S _ (H1.out.below hq) (by omega)).mono ?_
        rintro e y29 ⟨v29, rfl, hg29⟩
        obtain ⟨a29, n29, c29, l29, rfl, hr29, hb29⟩ := out_res hg29
        have Y := Lib.hid hr29
        have X := Lib.hid (X.out.below hb29)
        have hq := hq.trans (below_weak hb29 hq.size)
        clear hb29 hr29 hg29
        dsimp only []
        repeat any_goals (first | go_skip | go_guarded | go_step | go_upon | (simp only []; done))
        refine (same_res X.out Y.out (fun z => Iff.rfl)).mono ?_
        rintro e y30 ⟨rfl, hb30⟩
        have hq := hq.trans (below_weak hb30 hq.size)
        clear hb30 X Y
        dsimp only []
        repeat any_goals (first | go_skip | go_guarded | go_step | go_upon | (simp only []; done))
        refine (Or_any a n c S b m d T _ (H1.out.below hq) (H2.out.below hq) (by omega) (by omega)).mono ?_
        rintro e y31 ⟨v31, rfl, hg31⟩
        obtain ⟨a31, n31, c31, l31, rfl, hr31, hb31⟩ := out_res hg31
        have X := Lib.hid hr31
        have hq := hq.trans (below_weak hb31 hq.size)
        clear hb31 hr31 hg31
        dsimp only []
        repeat any_goals (first | go_skip | go_guarded | go_step | go_upon | (simp only []; done))
        refine (ROr_any a n c S b m d T _ (H1.out.below hq) (H2.out.below hq) (by omega) (by omega)).mono ?_
        rintro e y32 ⟨v32, rfl, hg32⟩
        obtain ⟨a32, n32, c32, l32, rfl, hr32, hb32⟩ := out_res hg32
        have Y := Lib.hid hr32
        have X := Lib.hid (X.out.below hb32)
        have hq := hq.trans (below_weak hb32 hq.size)
        clear hb32 hr32 hg32
        dsimp only []
        repeat any_goals (first | go_skip | go_guarded | go_step | go_upon | (simp only []; done))
        refine (same_res X.out Y.out (fun z => Iff.rfl)).mono ?_
        rintro e y33 ⟨rfl, hb33⟩
        have hq := hq.trans (below_weak hb33 hq.size)
        clear hb33 X Y
        dsimp only []
        repeat any_goals (first | go_skip | go_guarded | go_step | go_upon | (simp only []; done))
        refine (And_any a n c S b m d T _ (H1.out.below hq) (H2.out.below hq) (by omega) (by omega)).mono ?_
        rintro e y34 ⟨v34, rfl, hg34⟩
        obtain ⟨a34, n34, c34, l34, rfl, hr34, hb34⟩ := out_res hg34
        have X := Lib.hid hr34
        have hq := hq.trans (below_weak hb34 hq.size)
        clear hb34 hr34 hg34
        dsimp only []
        repeat any_goals (first | go_skip | go_guarded | go_step | go_upon | (simp only []; done))
        refine (RAnd_any a n c S b m d T _ (H1.out.below hq) (H2.out.below hq) (by omega) (by omega)).mono ?_
        rintro e y35 ⟨v35, rfl, hg35⟩
        obtain ⟨a35, n35, c35, l35, rfl, hr35, hb35⟩ := out_res hg35
        have Y := Lib.hid hr35
        have X := Lib.hid (X.out.below hb35)
        have hq := hq.trans (below_weak hb35 hq.size)
        clear hb35 hr35 hg35
        dsimp only []
        repeat any_goals (first | go_skip | go_guarded | go_step | go_upon | (simp only []; done))
        refine (same_res X.out Y.out (fun z => Iff.rfl)).mono ?_
        rintro e y36 ⟨rfl, hb36⟩
        have hq := hq.trans (below_weak hb36 hq.size)
        clear hb36 X Y
        dsimp only []
        repeat any_goals (first | (go_at_call 9; with_reducible refine (M1.out _ (H1.out.below hq)).mono ?_; rintro e w3 ⟨rfl, hb3⟩; have hq := hq.trans (below_weak hb3 hq.size)) | (go_at_call 9; with_reducible refine (M2.out _ (H2.out.below hq)).mono ?_; rintro e w8 ⟨rfl, hb8⟩; have hq := hq.trans (below_weak hb8 hq.size)) | (go_at_call 10; with_reducible refine (TL.out _ hq).mono ?_; rintro e z2 ⟨rfl, hb2⟩; have hq := hq.trans (below_weak hb2 hq.size)) | go_skip | go_guarded | go_step | go_upon | (dsimp only []))
        refine (Same_any a n c S b m d T _ (H1.out.below hq) (H2.out.below hq)).mono ?_
        rintro e z3 ⟨r, rfl, hr, hb3⟩
        obtain rfl : r = false := by
          unfold SameS at hr
          rw [← Bool.not_eq_true, hr]
          exact fun h => by rw [← HR.out.2] at h; cases h.2.1
        have hq := hq.trans (below_weak hb3 hq.size)
        clear hb3 hr
        dsimp only []
        repeat any_goals (first | go_skip | go_guarded | go_step | go_upon | (simp only []; done))
        refine (All_any _).mono ?_
        rintro e z4 ⟨rfl, hr4, hb4⟩
        have hq := hq.trans (below_weak hb4 hq.size)
        have X4 := Lib.hid hr4
        clear hb4 hr4
        dsimp only []
        repeat any_goals (first | go_skip | go_guarded | go_step | go_upon | (simp only []; done))
        refine (RSameS_any _ _ _ _ _ _ _ _ _ (X4.out.below (below_alloc (Below.refl _ _) _)) (all_lit _)).mono ?_
        rintro e z5 ⟨q5, rfl, hq5, hb5⟩
        obtain rfl : q5 = true := one_same hq5
        have hq := below_trans (below_alloc hq _) hb5
        clear hb5 hq5
        dsimp only []
        repeat any_goals (first | go_skip | go_guarded | go_step | go_upon | (simp only []; done))
        exact bodyPost_ret (v := .bool true) (by simp [results, Tryd.results5, go_sem]) rfl ⟨rfl, hq⟩
      | true =>
        go_enter Tryd.func5, Tryd.ntmps5
        repeat any_goals (first | (go_at_call 8; with_reducible refine (FW.out _).mono ?_; rintro e w1 ⟨rfl, hb1⟩; have hq : Below w.heap.size w w1 := hb1) | (go_at_call 18; with_reducible refine (P1.out _ (H1.out.below hq)).mono ?_; rintro e w2 ⟨rfl, hb2⟩; have hq := hq.trans (below_weak hb2 hq.size)) | (go_at_call 9; with_reducible refine (M1.out _ (H1.out.below hq)).mono ?_; rintro e w3 ⟨rfl, hb3⟩; have hq := hq.trans (below_weak hb3 hq.size)) | go_skip | go_guarded | go_step | go_upon | (dsimp only []))
        refine (Norm_any a n c S _ (H1.out.below hq) (by omega)).mono ?_
        rintro e y37 ⟨v37, rfl, hg37⟩
        obtain ⟨a37, n37, c37, l37, rfl, hr37, hb37⟩ := out_res hg37
        have X := Lib.hid hr37
        have hq := hq.trans (below_weak hb37 hq.size)
        clear hb37 hr37 hg37
        dsimp only []
        repeat any_goals (first | go_skip | go_guarded | go_step | go_upon | (simp only []; done))
        refine (RNorm_any a n c S _ (H1.out.below hq) (by omega)).mono ?_
        rintro e y38 ⟨v38, rfl, hg38⟩
        obtain ⟨a38, n38, c38, l38, rfl, hr38, hb38⟩ := out_res hg38
        have Y := Lib.hid hr38
        have X := Lib.hid (X.out.below hb38)
        have hq := hq.trans (below_weak hb38 hq.size)
        clear hb38 hr38 hg38
        dsimp only []
        repeat any_goals (first | go_skip | go_guarded | go_step | go_upon | (simp only []; done))
        refine (same_res X.out Y.out (fun z => Iff.rfl)).mono ?_
        rintro e y39 ⟨rfl, hb39⟩
        have hq := hq.trans (below_weak hb39 hq.size)
        clear hb39 X Y
        dsimp only []
        repeat any_goals (first | go_skip | go_guarded | go_step | go_upon | (simp only []; done))
        refine (Not_any a n c S _ (H1.out.below hq) (by omega)).mono ?_
        rintro e y40 ⟨v40, rfl, hg40⟩
        obtain ⟨a40, n40, c40, l40, rfl, hr40, hb40⟩ := out_res hg40
        have X := Lib.hid hr40
        have hq := hq.trans (below_weak hb40 hq.size)
        clear hb40 hr40 hg40
        dsimp only []
        repeat any_goals (first | go_skip | go_guarded | go_step | go_upon | (simp only []; done))
        refine (RNot_any a n c S _ (H1.out.below hq) (by omega)).mono ?_
        rintro e y41 ⟨v41, rfl, hg41⟩
        obtain ⟨a41, n41, c41, l41, rfl, hr41, hb41⟩ := out_res hg41
        have Y := Lib.hid hr41
        have X := Lib.hid (X.out.below hb41)
        have hq := hq.trans (below_weak hb41 hq.size)
        clear hb41 hr41 hg41
        dsimp only []
        repeat any_goals (first | go_skip | go_guarded | go_step | go_upon | (simp only []; done))
        refine (same_res X.out Y.out (fun z => Iff.rfl)).mono ?_
        rintro e y42 ⟨rfl, hb42⟩
        have hq := hq.trans (below_weak hb42 hq.size)
        clear hb42 X Y
        dsimp only []
        repeat any_goals (first | go_skip | go_guarded | go_step | go_upon | (simp only []; done))
        refine (Or_any a n c S b m d T _ (H1.out.below hq) (H2.out.below hq) (by omega) (by omega)).mono ?_
        rintro e y43 ⟨v43, rfl, hg43⟩
        obtain ⟨a43, n43, c43, l43, rfl, hr43, hb43⟩ := out_res hg43
        have X := Lib.hid hr43
        have hq := hq.trans (below_weak hb43 hq.size)
        clear hb43 hr43 hg43
        dsimp only []
        repeat any_goals (first | go_skip | go_guarded | go_step | go_upon | (simp only []; done))
        refine (ROr_any a n c S b m d T _ (H1.out.below hq) (H2.out.below hq) (by omega) (by omega)).mono ?_
        rintro e y44 ⟨v44, rfl, hg44⟩
        obtain ⟨a44, n44, c44, l44, rfl, hr44, hb44⟩ := out_res hg44
        have Y := Lib.hid hr44
        have X := Lib.hid (X.out.below hb44)
        have hq := hq.trans (below_weak hb44 hq.size)
        clear hb44 hr44 hg44
        dsimp only []
        repeat any_goals (first | go_skip | go_guarded | go_step | go_upon | (simp only []; done))
        refine (same_res X.out Y.out (fun z => Iff.rfl)).mono ?_
        rintro e y45 ⟨rfl, hb45⟩
        have hq := hq.trans (below_weak hb45 hq.size)
        clear hb45 X Y
        dsimp only []
        repeat any_goals (first | go_skip | go_guarded | go_step | go_upon | (simp only []; done))
        refine (And_any a n c S b m d T _ (H1.out.below hq) (H2.out.below hq) (by omega) (by omega)).mono ?_
        rintro e y46 ⟨v46, rfl, hg46⟩
        obtain ⟨a46, n46, c46, l46, rfl, hr46, hb46⟩ := out_res hg46
        have X := Lib.hid hr46
        have hq := hq.trans (below_weak hb46 hq.size)
        clear hb46 hr46 hg46
        dsimp only []
        repeat any_goals (first | go_skip | go_guarded | go_step | go_upon | (simp only []; done))
        refine (RAnd_any a n c S b m d T _ (H1.out.below hq) (H2.out.below hq) (by omega) (by omega)).mono ?_
        rintro e y47 ⟨v47, rfl, hg47⟩
        obtain ⟨a47, n47, c47, l47, rfl, hr47, hb47⟩ := out_res hg47
        have Y := Lib.hid hr47
        have X := Lib.hid (X.out.below hb47)
        have hq := hq.trans (below_weak hb47 hq.size)
        clear hb47 hr47 hg47
        dsimp only []
        repeat any_goals (first | go_skip | go_guarded | go_step | go_upon | (simp only []; done))
        refine (same_res X.out Y.out (fun z => Iff.rfl)).mono ?_
        rintro e y48 ⟨rfl, hb48⟩
        have hq := hq.trans (below_weak hb48 hq.size)
        clear hb48 X Y
        dsimp only []
        repeat any_goals (first | (go_at_call 9; with_reducible refine (M1.out _ (H1.out.below hq)).mono ?_; rintro e w3 ⟨rfl, hb3⟩; have hq := hq.trans (below_weak hb3 hq.size)) | (go_at_call 9; with_reducible refine (M2.out _ (H2.out.below hq)).mono ?_; rintro e w8 ⟨rfl, hb8⟩; have hq := hq.trans (below_weak hb8 hq.size)) | go_skip | go_guarded | go_step | go_upon | (dsimp only []))
        refine (RNorm_any a n c S _ (H1.out.below hq) (by omega)).mono ?_
        rintro e y49 ⟨v49, rfl, hg49⟩
        obtain ⟨a49, n49, c49, l49, rfl, hr49, hb49⟩ := out_res hg49
        have X := Lib.hid hr49
        have hq := hq.trans (below_weak hb49 hq.size)
        clear hb49 hr49 hg49
        dsimp only []
        repeat any_goals (first | go_skip | go_guarded | go_step | go_upon | (simp only []; done))
        refine (RNorm_any b m d T _ (H2.out.below hq) (by omega)).mono ?_
        rintro e y50 ⟨v50, rfl, hg50⟩
        obtain ⟨a50, n50, c50, l50, rfl, hr50, hb50⟩ := out_res hg50
        have Y := Lib.hid hr50
        have X := Lib.hid (X.out.below hb50)
        have hq := hq.trans (below_weak hb50 hq.size)
        clear hb50 hr50 hg50
        dsimp only []
        repeat any_goals (first | go_skip | go_guarded | go_step | go_upon | (simp only []; done))
        refine (RSameS_any _ _ _ _ _ _ _ _ _ X.out.h Y.out.h).mono ?_
        rintro e z1 ⟨q, rfl, hqq, hb1⟩
        have hq := hq.trans (below_weak hb1 hq.size)
        have HQ := Lib.hid hqq
        clear hqq hb1
        dsimp only []
        repeat any_goals (first | (go_at_call 10; with_reducible refine (TL.out _ hq).mono ?_; rintro e z2 ⟨rfl, hb2⟩; have hq := hq.trans (below_weak hb2 hq.size)) | go_skip | go_guarded | go_step | go_upon | (dsimp only []))
        refine (Same_any a n c S b m d T _ (H1.out.below hq) (H2.out.below hq)).mono ?_
        rintro e z3 ⟨r, rfl, hr, hb3⟩
        obtain rfl : r = q := sets_same X.out Y.out HR.out.1 HR.out.2 HQ.out hr
        have hq := hq.trans (below_weak hb3 hq.size)
        clear hb3 hr HQ
        dsimp only []
        repeat any_goals (first | go_skip | go_guarded | go_step | go_upon | (simp only []; done))
        refine (All_any _).mono ?_
        rintro e z4 ⟨rfl, hr4, hb4⟩
        have hq := hq.trans (below_weak hb4 hq.size)
        have X4 := Lib.hid hr4
        clear hb4 hr4
        dsimp only []
        repeat any_goals (first | go_skip | go_guarded | go_step | go_upon | (simp only []; done))
        refine (RSameS_any _ _ _ _ _ _ _ _ _ (X4.out.below (below_alloc (Below.refl _ _) _)) (all_lit _)).mono ?_
        rintro e z5 ⟨q5, rfl, hq5, hb5⟩
        obtain rfl : q5 = true := one_same hq5
        have hq := below_trans (below_alloc hq _) hb5
        clear hb5 hq5
        dsimp only []
        repeat any_goals (first | go_skip | go_guarded | go_step | go_upon | (simp only []; done))
        exact bodyPost_ret (v := .bool true) (by simp [results, Tryd.results5, go_sem]) rfl ⟨rfl, hq⟩
end Go.Proofs.YtekeedjhaakbhaaDoor
