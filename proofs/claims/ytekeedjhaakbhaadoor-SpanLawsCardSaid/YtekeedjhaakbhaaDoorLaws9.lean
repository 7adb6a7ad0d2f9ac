/- The law SpanLaws. -/
import Derived.Test.YtekeedjhaakbhaaDoorRows9
namespace Go.Proofs.YtekeedjhaakbhaaDoor
open Go Go.RowKit
set_option maxRecDepth 20000 in
set_option maxHeartbeats 8000000 in
theorem SpanLaws_any (a : Option Addr) (n c : Nat) (S : Nat → Sp) (b : Option Addr) (m d : Nat) (T : Nat → Sp) (f : Option Addr) (k g : Nat) (U : Nat → Sp) (w : World) (h1 : SRow w a n c S) (h2 : SRow w b m d T) (h3 : SRow w f k g U) (hT : Tabs w) :
    Calls Tryd.prog 6 #[.slice a n c, .slice b m d, .slice f k g] w fun e w' => e = .returned (.bool true) ∧ Below w.heap.size w w' := by
  have H1 := Lib.hid h1
  have H2 := Lib.hid h2
  have H3 := Lib.hid h3
  have HT := Lib.hid hT
  obtain ⟨R1, hR1⟩ : ∃ R, R = mayR S n := ⟨_, rfl⟩
  obtain ⟨R2, hR2⟩ : ∃ R, R = mayR T m := ⟨_, rfl⟩
  obtain ⟨R3, hR3⟩ : ∃ R, R = mayR U k := ⟨_, rfl⟩
  have M1 := Lib.hid fun wx (hx : SRow wx a n c S) => PMayS_any a n c S wx hx
  have M2 := Lib.hid fun wx (hx : SRow wx b m d T) => PMayS_any b m d T wx hx
  have M3 := Lib.hid fun wx (hx : SRow wx f k g U) => PMayS_any f k g U wx hx
  rw [← hR1] at M1
  rw [← hR2] at M2
  rw [← hR3] at M3
  have HR := Lib.hid (And.intro hR1 (And.intro hR2 hR3))
  have TL := Lib.hid fun wx (hb : Below w.heap.size w wx) => told_any wx (HT.out.below hb)
  clear h1 h2 h3 hT hR1 hR2 hR3
  by_cases c1 : n ≤ 8
  · have i1 : ¬ (8 : Int) < (n : Int) := by omega
    by_cases c2 : m ≤ 8
    · have i2 : ¬ (8 : Int) < (m : Int) := by omega
      by_cases c3 : k ≤ 8
      · have i3 : ¬ (8 : Int) < (k : Int) := by omega
        cases R1 with
        | false =>
          go_enter Tryd.func6, Tryd.ntmps6
          repeat any_goals (first | (go_at_call 18; with_reducible refine (M1.out _ (H1.out.below (Below.refl _ _))).mono ?_; rintro e u1 ⟨rfl, hc1⟩; have hd1 := hc1) | (go_at_call 10; with_reducible refine (TL.out _ hd1).mono ?_; rintro e w3 ⟨rfl, hb3⟩) | go_skip | go_guarded | go_step | go_upon | (dsimp only []))
          exact bodyPost_ret (v := .bool true) (by simp [results, Tryd.results6, go_sem]) rfl ⟨rfl, by (repeat first | with_reducible exact Below.refl _ _ | with_reducible assumption | with_reducible refine Below.drew ?_ | with_reducible refine below_alloc ?_ _ | ((with_reducible refine Below.setCell ?_ ?_ _); rotate_left; (focus (first | with_reducible exact Nat.le_refl _ | (simp; done) | (simp; omega) | omega))) | (with_reducible refine below_trans ?_ (by assumption)))⟩
        | true =>
          cases R2 with
          | false =>
            go_enter Tryd.func6, Tryd.ntmps6
            repeat any_goals (first | (go_at_call 18; with_reducible refine (M1.out _ (H1.out.below (Below.refl _ _))).mono ?_; rintro e u1 ⟨rfl, hc1⟩; have hd1 := hc1) | (go_at_call 18; with_reducible refine (M2.out _ (H2.out.below hd1)).mono ?_; rintro e u2 ⟨rfl, hc2⟩; have hd2 := hd1.trans (below_weak hc2 hd1.size)) | (go_at_call 10; with_reducible refine (TL.out _ hd2).mono ?_; rintro e w3 ⟨rfl, hb3⟩) | go_skip | go_guarded | go_step | go_upon | (dsimp only []))
            exact bodyPost_ret (v := .bool true) (by simp [results, Tryd.results6, go_sem]) rfl ⟨rfl, by (repeat first | with_reducible exact Below.refl _ _ | with_reducible assumption | with_reducible refine Below.drew ?_ | with_reducible refine below_alloc ?_ _ | ((with_reducible refine Below.setCell ?_ ?_ _); rotate_left; (focus (first | with_reducible exact Nat.le_refl _ | (simp; done) | (simp; omega) | omega))) | (with_reducible refine below_trans ?_ (by assumption)))⟩
          | true =>
            cases R3 with
            | false =>
              go_enter Tryd.func6, Tryd.ntmps6
              repeat any_goals (first | (go_at_call 18; with_reducible refine (M1.out _ (H1.out.below (Below.refl _ _))).mono ?_; rintro e u1 ⟨rfl, hc1⟩; have hd1 := hc1) | (go_at_call 18; with_reducible refine (M2.out _ (H2.out.below hd1)).mono ?_; rintro e u2 ⟨rfl, hc2⟩; have hd2 := hd1.trans (below_weak hc2 hd1.size)) | (go_at_call 18; with_reducible refine (M3.out _ (H3.out.below hd2)).mono ?_; rintro e u3 ⟨rfl, hc3⟩; have hd3 := hd2.trans (below_weak hc3 hd2.size)) | (go_at_call 10; with_reducible refine (TL.out _ hd3).mono ?_; rintro e w3 ⟨rfl, hb3⟩) | go_skip | go_guarded | go_step | go_upon | (dsimp only []))
              exact bodyPost_ret (v := .bool true) (by simp [results, Tryd.results6, go_sem]) rfl ⟨rfl, by (repeat first | with_reducible exact Below.refl _ _ | with_reducible assumption | with_reducible refine Below.drew ?_ | with_reducible refine below_alloc ?_ _ | ((with_reducible refine Below.setCell ?_ ?_ _); rotate_left; (focus (first | with_reducible exact Nat.le_refl _ | (simp; done) | (simp; omega) | omega))) | (with_reducible refine below_trans ?_ (by assumption)))⟩
            | true =>
              go_enter Tryd.func6, Tryd.ntmps6
              repeat any_goals (first | (go_at_call 18; with_reducible refine (M1.out _ (H1.out.below (Below.refl _ _))).mono ?_; rintro e u1 ⟨rfl, hc1⟩; have hd1 := hc1) | (go_at_call 18; with_reducible refine (M2.out _ (H2.out.below hd1)).mono ?_; rintro e u2 ⟨rfl, hc2⟩; have hd2 := hd1.trans (below_weak hc2 hd1.size)) | (go_at_call 18; with_reducible refine (M3.out _ (H3.out.below hd2)).mono ?_; rintro e u3 ⟨rfl, hc3⟩; have hd3 := hd2.trans (below_weak hc3 hd2.size)) | go_skip | go_guarded | go_step | go_upon | (dsimp only []))
              have RA := Lib.hid (show RowP u3 a n c S (InS S n) 8 from ⟨H1.out.below hd3, HR.out.1.symm, c1, fun _ => Iff.rfl⟩)
              have RB := Lib.hid (show RowP u3 b m d T (InS T m) 8 from ⟨H2.out.below hd3, HR.out.2.1.symm, c2, fun _ => Iff.rfl⟩)
              have RC := Lib.hid (show RowP u3 f k g U (InS U k) 8 from ⟨H3.out.below hd3, HR.out.2.2.symm, c3, fun _ => Iff.rfl⟩)
              have hq := hd3
              clear hd1 hd2 hd3 hc1 hc2 hc3 M1 M2 M3 H1 H2 H3 HT i1 i2 i3 c1 c2 c3
              refine (or_row RA.out RB.out (by decide) (by decide)).mono ?_
              rintro e w1 ⟨v1, rfl, hg1⟩
              obtain ⟨a1, n1, c1, l1, rfl, hr1, hb1⟩ := hg1
              have X1 := Lib.hid hr1
              have RA := Lib.hid (RA.out.below hb1)
              have RB := Lib.hid (RB.out.below hb1)
              have RC := Lib.hid (RC.out.below hb1)
              have hq := hq.trans (below_weak hb1 hq.size)
              clear hb1 hr1
              dsimp only []
              repeat any_goals (first | go_skip | go_guarded | go_step | go_upon | (simp only []; done))
              refine (not_row (X1.out.row (by decide)) (by decide)).mono ?_
              rintro e w2 ⟨v2, rfl, hg2⟩
              obtain ⟨a2, n2, c2, l2, rfl, hr2, hb2⟩ := hg2
              have X := Lib.hid hr2
              have RA := Lib.hid (RA.out.below hb2)
              have RB := Lib.hid (RB.out.below hb2)
              have RC := Lib.hid (RC.out.below hb2)
              have hq := hq.trans (below_weak hb2 hq.size)
              clear hb2 hr2
              dsimp only []
              repeat any_goals (first | go_skip | go_guarded | go_step | go_upon | (simp only []; done))
              refine (not_row RA.out (by decide)).mono ?_
              rintro e w3 ⟨v3, rfl, hg3⟩
              obtain ⟨a3, n3, c3, l3, rfl, hr3, hb3⟩ := hg3
              have Y1 := Lib.hid hr3
              have RA := Lib.hid (RA.out.below hb3)
              have RB := Lib.hid (RB.out.below hb3)
              have RC := Lib.hid (RC.out.below hb3)
              have X := Lib.hid (X.out.below hb3)
              have hq := hq.trans (below_weak hb3 hq.size)
              clear hb3 hr3
              dsimp only []
              repeat any_goals (first | go_skip | go_guarded | go_step | go_upon | (simp only []; done))
              refine (not_row RB.out (by decide)).mono ?_
              rintro e w4 ⟨v4, rfl, hg4⟩
              obtain ⟨a4, n4, c4, l4, rfl, hr4, hb4⟩ := hg4
              have Y2 := Lib.hid hr4
              have RA := Lib.hid (RA.out.below hb4)
              have RB := Lib.hid (RB.out.below hb4)
              have RC := Lib.hid (RC.out.below hb4)
              have X := Lib.hid (X.out.below hb4)
              have Y1 := Lib.hid (Y1.out.below hb4)
              have hq := hq.trans (below_weak hb4 hq.size)
              clear hb4 hr4
              dsimp only []
              repeat any_goals (first | go_skip | go_guarded | go_step | go_upon | (simp only []; done))
              refine (and_row (Y1.out.row (by decide)) (Y2.out.row (by decide)) (by decide) (by decide)).mono ?_
              rintro e w5 ⟨v5, rfl, hg5⟩
              obtain ⟨a5, n5, c5, l5, rfl, hr5, hb5⟩ := hg5
              have Y := Lib.hid hr5
              have RA := Lib.hid (RA.out.below hb5)
              have RB := Lib.hid (RB.out.below hb5)
              have RC := Lib.hid (RC.out.below hb5)
              have X := Lib.hid (X.out.below hb5)
              have hq := hq.trans (below_weak hb5 hq.size)
              clear hb5 hr5
              dsimp only []
              repeat any_goals (first | go_skip | go_guarded | go_step | go_upon | (simp only []; done))
              refine (or_row RB.out RC.out (by decide) (by decide)).mono ?_
              rintro e w6 ⟨v6, rfl, hg6⟩
              obtain ⟨a6, n6, c6, l6, rfl, hr6, hb6⟩ := hg6
              have P1 := Lib.hid hr6
              have RA := Lib.hid (RA.out.below hb6)
              have RB := Lib.hid (RB.out.below hb6)
              have RC := Lib.hid (RC.out.below hb6)
              have X := Lib.hid (X.out.below hb6)
              have Y := Lib.hid (Y.out.below hb6)
              have hq := hq.trans (below_weak hb6 hq.size)
              clear hb6 hr6
              dsimp only []
              repeat any_goals (first | go_skip | go_guarded | go_step | go_upon | (simp only []; done))
              refine (and_row RA.out (P1.out.row (by decide)) (by decide) (by decide)).mono ?_
              rintro e w7 ⟨v7, rfl, hg7⟩
              obtain ⟨a7, n7, c7, l7, rfl, hr7, hb7⟩ := hg7
              have P := Lib.hid hr7
              have RA := Lib.hid (RA.out.below hb7)
              have RB := Lib.hid (RB.out.below hb7)
              have RC := Lib.hid (RC.out.below hb7)
              have X := Lib.hid (X.out.below hb7)
              have Y := Lib.hid (Y.out.below hb7)
              have hq := hq.trans (below_weak hb7 hq.size)
              clear hb7 hr7
              dsimp only []
              repeat any_goals (first | go_skip | go_guarded | go_step | go_upon | (simp only []; done))
              refine (and_row RA.out RB.out (by decide) (by decide)).mono ?_
              rintro e w8 ⟨v8, rfl, hg8⟩
              obtain ⟨a8, n8, c8, l8, rfl, hr8, hb8⟩ := hg8
              have Q1 := Lib.hid hr8
              have RA := Lib.hid (RA.out.below hb8)
              have RB := Lib.hid (RB.out.below hb8)
              have RC := Lib.hid (RC.out.below hb8)
              have X := Lib.hid (X.out.below hb8)
              have Y := Lib.hid (Y.out.below hb8)
              have P := Lib.hid (P.out.below hb8)
              have hq := hq.trans (below_weak hb8 hq.size)
              clear hb8 hr8
              dsimp only []
              repeat any_goals (first | go_skip | go_guarded | go_step | go_upon | (simp only []; done))
              refine (and_row RA.out RC.out (by decide) (by decide)).mono ?_
              rintro e w9 ⟨v9, rfl, hg9⟩
              obtain ⟨a9, n9, c9, l9, rfl, hr9, hb9⟩ := hg9
              have Q2 := Lib.hid hr9
              have RA := Lib.hid (RA.out.below hb9)
              have RB := Lib.hid (RB.out.below hb9)
              have RC := Lib.hid (RC.out.below hb9)
              have X := Lib.hid (X.out.below hb9)
              have Y := Lib.hid (Y.out.below hb9)
              have P := Lib.hid (P.out.below hb9)
              have Q1 := Lib.hid (Q1.out.below hb9)
              have hq := hq.trans (below_weak hb9 hq.size)
              clear hb9 hr9
              dsimp only []
              repeat any_goals (first | go_skip | go_guarded | go_step | go_upon | (simp only []; done))
              refine (or_row (Q1.out.row (by decide)) (Q2.out.row (by decide)) (by decide) (by decide)).mono ?_
              rintro e w10 ⟨v10, rfl, hg10⟩
              obtain ⟨a10, n10, c10, l10, rfl, hr10, hb10⟩ := hg10
              have Q := Lib.hid hr10
              have RA := Lib.hid (RA.out.below hb10)
              have RB := Lib.hid (RB.out.below hb10)
              have X := Lib.hid (X.out.below hb10)
              have Y := Lib.hid (Y.out.below hb10)
              have P := Lib.hid (P.out.below hb10)
              have hq := hq.trans (below_weak hb10 hq.size)
              clear hb10 hr10
              dsimp only []
              repeat any_goals (first | go_skip | go_guarded | go_step | go_upon | (simp only []; done))
              refine (TL.out _ hq).mono ?_
              rintro e w11 ⟨rfl, hb11⟩
              have RA := Lib.hid (RA.out.below hb11)
              have RB := Lib.hid (RB.out.below hb11)
              have X := Lib.hid (X.out.below hb11)
              have Y := Lib.hid (Y.out.below hb11)
              have P := Lib.hid (P.out.below hb11)
              have Q := Lib.hid (Q.out.below hb11)
              have hq := hq.trans (below_weak hb11 hq.size)
              clear hb11
              dsimp only []
              repeat any_goals (first | go_skip | go_guarded | go_step | go_upon | (simp only []; done))
              refine (same_res X.out Y.out (fun z => ⟨fun h => ⟨⟨h.1, fun x => h.2 (.inl x)⟩, ⟨h.1, fun x => h.2 (.inr x)⟩⟩, fun h => ⟨h.1.1, fun x => x.elim h.1.2 h.2.2⟩⟩)).mono ?_
              rintro e w12 ⟨rfl, hb12⟩
              have RA := Lib.hid (RA.out.below hb12)
              have RB := Lib.hid (RB.out.below hb12)
              have P := Lib.hid (P.out.below hb12)
              have Q := Lib.hid (Q.out.below hb12)
              have hq := hq.trans (below_weak hb12 hq.size)
              clear hb12
              dsimp only []
              repeat any_goals (first | go_skip | go_guarded | go_step | go_upon | (simp only []; done))
              refine (same_res P.out Q.out (fun z => ⟨fun h => h.2.elim (fun x => .inl ⟨h.1, x⟩) (fun x => .inr ⟨h.1, x⟩), fun h => h.elim (fun x => ⟨x.1, .inl x.2⟩) (fun x => ⟨x.1, .inr x.2⟩)⟩)).mono ?_
              rintro e w13 ⟨rfl, hb13⟩
              have RA := Lib.hid (RA.out.below hb13)
              have RB := Lib.hid (RB.out.below hb13)
              have hq := hq.trans (below_weak hb13 hq.size)
              clear hb13
              dsimp only []
              repeat any_goals (first | go_skip | go_guarded | go_step | go_upon | (simp only []; done))
              refine (or_row RA.out RB.out (by decide) (by decide)).mono ?_
              rintro e w14 ⟨v14, rfl, hg14⟩
              obtain ⟨a14, n14, c14, l14, rfl, hr14, hb14⟩ := hg14
              have X := Lib.hid hr14
              have RA := Lib.hid (RA.out.below hb14)
              have RB := Lib.hid (RB.out.below hb14)
              have hq := hq.trans (below_weak hb14 hq.size)
              clear hb14 hr14
              dsimp only []
              repeat any_goals (first | go_skip | go_guarded | go_step | go_upon | (simp only []; done))
              refine (or_row RB.out RA.out (by decide) (by decide)).mono ?_
              rintro e w15 ⟨v15, rfl, hg15⟩
              obtain ⟨a15, n15, c15, l15, rfl, hr15, hb15⟩ := hg15
              have Y := Lib.hid hr15
              have RA := Lib.hid (RA.out.below hb15)
              have RB := Lib.hid (RB.out.below hb15)
              have X := Lib.hid (X.out.below hb15)
              have hq := hq.trans (below_weak hb15 hq.size)
              clear hb15 hr15
              dsimp only []
              repeat any_goals (first | go_skip | go_guarded | go_step | go_upon | (simp only []; done))
              refine (same_res X.out Y.out (fun z => or_comm)).mono ?_
              rintro e w16 ⟨rfl, hb16⟩
              have RA := Lib.hid (RA.out.below hb16)
              have RB := Lib.hid (RB.out.below hb16)
              have hq := hq.trans (below_weak hb16 hq.size)
              clear hb16
              dsimp only []
              repeat any_goals (first | go_skip | go_guarded | go_step | go_upon | (simp only []; done))
              refine (and_row RA.out RB.out (by decide) (by decide)).mono ?_
              rintro e w17 ⟨v17, rfl, hg17⟩
              obtain ⟨a17, n17, c17, l17, rfl, hr17, hb17⟩ := hg17
              have X := Lib.hid hr17
              have RA := Lib.hid (RA.out.below hb17)
              have RB := Lib.hid (RB.out.below hb17)
              have hq := hq.trans (below_weak hb17 hq.size)
              clear hb17 hr17
              dsimp only []
              repeat any_goals (first | go_skip | go_guarded | go_step | go_upon | (simp only []; done))
              refine (and_row RB.out RA.out (by decide) (by decide)).mono ?_
              rintro e w18 ⟨v18, rfl, hg18⟩
              obtain ⟨a18, n18, c18, l18, rfl, hr18, hb18⟩ := hg18
              have Y := Lib.hid hr18
              have RA := Lib.hid (RA.out.below hb18)
              have RB := Lib.hid (RB.out.below hb18)
              have X := Lib.hid (X.out.below hb18)
              have hq := hq.trans (below_weak hb18 hq.size)
              clear hb18 hr18
              dsimp only []
              repeat any_goals (first | go_skip | go_guarded | go_step | go_upon | (simp only []; done))
              refine (same_res X.out Y.out (fun z => and_comm)).mono ?_
              rintro e w19 ⟨rfl, hb19⟩
              have RA := Lib.hid (RA.out.below hb19)
              have RB := Lib.hid (RB.out.below hb19)
              have hq := hq.trans (below_weak hb19 hq.size)
              clear hb19
              dsimp only []
              repeat any_goals (first | go_skip | go_guarded | go_step | go_upon | (simp only []; done))
              refine (and_row RA.out RA.out (by decide) (by decide)).mono ?_
              rintro e w20 ⟨v20, rfl, hg20⟩
              obtain ⟨a20, n20, c20, l20, rfl, hr20, hb20⟩ := hg20
              have X := Lib.hid hr20
              have RA := Lib.hid (RA.out.below hb20)
              have hq := hq.trans (below_weak hb20 hq.size)
              clear hb20 hr20
              dsimp only []
              repeat any_goals (first | go_skip | go_guarded | go_step | go_upon | (simp only []; done))
              refine (norm_row RA.out (by decide)).mono ?_
              rintro e w21 ⟨v21, rfl, hg21⟩
              obtain ⟨a21, n21, c21, l21, rfl, hr21, hb21⟩ := hg21
              have Y := Lib.hid hr21
              have RA := Lib.hid (RA.out.below hb21)
              have X := Lib.hid (X.out.below hb21)
              have hq := hq.trans (below_weak hb21 hq.size)
              clear hb21 hr21
              dsimp only []
              repeat any_goals (first | go_skip | go_guarded | go_step | go_upon | (simp only []; done))
              refine (same_res X.out Y.out (fun z => and_self_iff)).mono ?_
              rintro e w22 ⟨rfl, hb22⟩
              have RA := Lib.hid (RA.out.below hb22)
              have hq := hq.trans (below_weak hb22 hq.size)
              clear hb22
              dsimp only []
              repeat any_goals (first | go_skip | go_guarded | go_step | go_upon | (simp only []; done))
              refine (or_row RA.out (nil_row _) (by decide) (by decide)).mono ?_
              rintro e w23 ⟨v23, rfl, hg23⟩
              obtain ⟨a23, n23, c23, l23, rfl, hr23, hb23⟩ := hg23
              have X := Lib.hid hr23
              have RA := Lib.hid (RA.out.below hb23)
              have hq := hq.trans (below_weak hb23 hq.size)
              clear hb23 hr23
              dsimp only []
              repeat any_goals (first | go_skip | go_guarded | go_step | go_upon | (simp only []; done))
              refine (norm_row RA.out (by decide)).mono ?_
              rintro e w24 ⟨v24, rfl, hg24⟩
              obtain ⟨a24, n24, c24, l24, rfl, hr24, hb24⟩ := hg24
              have Y := Lib.hid hr24
              have RA := Lib.hid (RA.out.below hb24)
              have X := Lib.hid (X.out.below hb24)
              have hq := hq.trans (below_weak hb24 hq.size)
              clear hb24 hr24
              dsimp only []
              repeat any_goals (first | go_skip | go_guarded | go_step | go_upon | (simp only []; done))
              refine (same_res X.out Y.out (fun z => ⟨fun h => h.elim id (fun x => x.elim), .inl⟩)).mono ?_
              rintro e w25 ⟨rfl, hb25⟩
              have hq := hq.trans (below_weak hb25 hq.size)
              clear hb25
              dsimp only []
              repeat any_goals (first | go_skip | go_guarded | go_step | go_upon | (simp only []; done))
              exact bodyPost_ret (v := .bool true) (by simp [results, Tryd.results6, go_sem]) rfl ⟨rfl, hq⟩
      · have i3 : (8 : Int) < (k : Int) := by omega
        go_enter Tryd.func6, Tryd.ntmps6
        repeat any_goals (first | (go_at_call 10; with_reducible refine (TL.out _ (by (repeat first | with_reducible exact Below.refl _ _ | with_reducible assumption | with_reducible refine Below.drew ?_ | with_reducible refine below_alloc ?_ _ | ((with_reducible refine Below.setCell ?_ ?_ _); rotate_left; (focus (first | with_reducible exact Nat.le_refl _ | (simp; done) | (simp; omega) | omega))) | (with_reducible refine below_trans ?_ (by assumption))))).mono ?_; rintro e w3 ⟨rfl, hb3⟩) | go_skip | go_guarded | go_step | go_upon | (dsimp only []))
        exact bodyPost_ret (v := .bool true) (by simp [results, Tryd.results6, go_sem]) rfl ⟨rfl, by (repeat first | with_reducible exact Below.refl _ _ | with_reducible assumption | with_reducible refine Below.drew ?_ | with_reducible refine below_alloc ?_ _ | ((with_reducible refine Below.setCell ?_ ?_ _); rotate_left; (focus (first | with_reducible exact Nat.le_refl _ | (simp; done) | (simp; omega) | omega))) | (with_reducible refine below_trans ?_ (by assumption)))⟩
    · have i2 : (8 : Int) < (m : Int) := by omega
      go_enter Tryd.func6, Tryd.ntmps6
      repeat any_goals (first | (go_at_call 10; with_reducible refine (TL.out _ (by (repeat first | with_reducible exact Below.refl _ _ | with_reducible assumption | with_reducible refine Below.drew ?_ | with_reducible refine below_alloc ?_ _ | ((with_reducible refine Below.setCell ?_ ?_ _); rotate_left; (focus (first | with_reducible exact Nat.le_refl _ | (simp; done) | (simp; omega) | omega))) | (with_reducible refine below_trans ?_ (by assumption))))).mono ?_; rintro e w3 ⟨rfl, hb3⟩) | go_skip | go_guarded | go_step | go_upon | (dsimp only []))
      exact bodyPost_ret (v := .bool true) (by simp [results, Tryd.results6, go_sem]) rfl ⟨rfl, by (repeat first | with_reducible exact Below.refl _ _ | with_reducible assumption | with_reducible refine Below.drew ?_ | with_reducible refine below_alloc ?_ _ | ((with_reducible refine Below.setCell ?_ ?_ _); rotate_left; (focus (first | with_reducible exact Nat.le_refl _ | (simp; done) | (simp; omega) | omega))) | (with_reducible refine below_trans ?_ (by assumption)))⟩
  · have i1 : (8 : Int) < (n : Int) := by omega
    go_enter Tryd.func6, Tryd.ntmps6
    repeat any_goals (first | (go_at_call 10; with_reducible refine (TL.out _ (by (repeat first | with_reducible exact Below.refl _ _ | with_reducible assumption | with_reducible refine Below.drew ?_ | with_reducible refine below_alloc ?_ _ | ((with_reducible refine Below.setCell ?_ ?_ _); rotate_left; (focus (first | with_reducible exact Nat.le_refl _ | (simp; done) | (simp; omega) | omega))) | (with_reducible refine below_trans ?_ (by assumption))))).mono ?_; rintro e w3 ⟨rfl, hb3⟩) | go_skip | go_guarded | go_step | go_upon | (dsimp only []))
    exact bodyPost_ret (v := .bool true) (by simp [results, Tryd.results6, go_sem]) rfl ⟨rfl, by (repeat first | with_reducible exact Below.refl _ _ | with_reducible assumption | with_reducible refine Below.drew ?_ | with_reducible refine below_alloc ?_ _ | ((with_reducible refine Below.setCell ?_ ?_ _); rotate_left; (focus (first | with_reducible exact Nat.le_refl _ | (simp; done) | (simp; omega) | omega))) | (with_reducible refine below_trans ?_ (by assumption)))⟩
end Go.Proofs.YtekeedjhaakbhaaDoor
