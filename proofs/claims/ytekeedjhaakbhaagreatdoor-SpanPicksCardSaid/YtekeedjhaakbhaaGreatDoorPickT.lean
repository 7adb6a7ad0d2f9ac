/- Pick of the program; few, told$1 of the laws of layer 9. · told of the laws of layer 9. -/
import Derived.Test.YtekeedjhaakbhaaGreatDoorAnyB
import Derived.Test.YtekeedjhaakbhaaGreatDoorRhB9
import Derived.Deep.RegionHeld3
namespace Go.Proofs.YtekeedjhaakbhaaGreatDoor
open Go.RowKit
theorem bsV_lt {P : Int → Prop} {o : Option Int} (h : IsBest P o) (hp : ∀ z, P z → inR z) : bsV o < 2 ^ 256 := by
  cases o with
  | none => exact Nat.two_pow_pos _
  | some m => exact inR_ab.1 (hp m h.1)
/-- Pick's answer -/
def PickO (S : Nat → Sp) (n : Nat) (xa ra : Bool) (o : Option Int) : Prop := IsBest (fun z => mayR S n = true ∧ InS S n z ∧ want xa ra z) o
set_option maxRecDepth 20000 in
set_option maxHeartbeats 1600000 in
/-- **Pick.** -/
theorem Pick_any (xa ra : Bool) (a : Option Addr) (n c : Nat) (S : Nat → Sp) (w : World) (h : SRow w a n c S) (hT : Tabs w) :
    Calls Tryz.prog 6 #[.slice a n c, .bool xa, .bool ra] w fun e w' => ∃ o : Option Int, PickO S n xa ra o ∧ e = .returned (.tuple #[.agg #[.bool (bsN o ), .int .u64 (lm ( bsV o) 0 : Nat), .int .u64 (lm ( bsV o) 1 : Nat), .int .u64 (lm ( bsV o) 2 : Nat), .int .u64 (lm ( bsV o) 3 : Nat)], .bool o.isSome]) ∧ Below w.heap.size w w' := by
  have H := Lib.hid h
  have HT := Lib.hid hT
  obtain ⟨R, hR⟩ : ∃ R, R = mayR S n := ⟨_, rfl⟩
  have M := Lib.hid fun wx (hx : SRow wx a n c S) => PMayS_any a n c S wx hx
  rw [← hR] at M
  have HR := Lib.hid hR
  clear h hR hT
  go_enter Tryz.func6, Tryz.ntmps6
  cases R with
  | false =>
    repeat any_goals (first | (go_at_call 16; with_reducible refine (M.out _ (H.out.below (by (repeat first | with_reducible exact Below.refl _ _ | with_reducible assumption | with_reducible refine Below.drew ?_ | with_reducible refine below_alloc ?_ _ | ((with_reducible refine Below.setCell ?_ ?_ _); rotate_left; (focus (first | with_reducible exact Nat.le_refl _ | (simp; done) | (simp; omega) | omega))) | (with_reducible refine below_trans ?_ (by assumption)))))).mono ?_; rintro e w1 ⟨rfl, hb1⟩; have X1 := Lib.hid ((zbox_new w 29).below hb1); obtain ⟨_, _, _, _, _⟩ := X1.out.all) | go_skip | go_guarded | go_step | go_upon | (dsimp only []))
    exact bodyPost_ret (v := .tuple #[.agg #[.bool false, .int .u64 0, .int .u64 0, .int .u64 0, .int .u64 0], .bool false]) (by simp [results, Tryz.results6, go_sem, *]) rfl ⟨none, fun z hz => by (rw [← HR.out] at hz; cases hz.1), by simp [bsN, bsV, lm_zero], by (repeat first | with_reducible exact Below.refl _ _ | with_reducible assumption | with_reducible refine Below.drew ?_ | with_reducible refine below_alloc ?_ _ | ((with_reducible refine Below.setCell ?_ ?_ _); rotate_left; (focus (first | with_reducible exact Nat.le_refl _ | (simp; done) | (simp; omega) | omega))) | (with_reducible refine below_trans ?_ (by assumption)))⟩
  | true =>
    repeat any_goals (first | (go_at_call 16; with_reducible refine (M.out _ (H.out.below (by (repeat first | with_reducible exact Below.refl _ _ | with_reducible assumption | with_reducible refine Below.drew ?_ | with_reducible refine below_alloc ?_ _ | ((with_reducible refine Below.setCell ?_ ?_ _); rotate_left; (focus (first | with_reducible exact Nat.le_refl _ | (simp; done) | (simp; omega) | omega))) | (with_reducible refine below_trans ?_ (by assumption)))))).mono ?_; rintro e w1 ⟨rfl, hb1⟩; have X1 := Lib.hid ((zbox_new w 29).below hb1); obtain ⟨_, _, _, _, _⟩ := X1.out.all; have hw1 := Lib.hid (show Below w.heap.size w w1 from below_trans (by (repeat first | with_reducible exact Below.refl _ _ | with_reducible assumption | with_reducible refine Below.drew ?_ | with_reducible refine below_alloc ?_ _ | ((with_reducible refine Below.setCell ?_ ?_ _); rotate_left; (focus (first | with_reducible exact Nat.le_refl _ | (simp; done) | (simp; omega) | omega))) | (with_reducible refine below_trans ?_ (by assumption)))) hb1)) | go_skip | go_guarded | go_step | go_upon | (dsimp only []))
    refine (Any_walk xa ra a n c S w1 (H.out.below hw1.out) (Nat.le_trans (mayR_le HR.out.symm) (by omega)) HR.out.symm (HT.out.below hw1.out)).mono ?_
    rintro e w2 ⟨l, hl, rfl, hb2⟩
    dsimp only []
    have hw2 : Below w.heap.size w w2 := hw1.out.trans (below_weak hb2 hw1.out.size)
    have X2 := Lib.hid (X1.out.below hb2)
    obtain ⟨_, _, _, _, _⟩ := X2.out.all
    have HA := Lib.hid (show PickO S n xa ra (anyS xa ra l) from IsBest_congr (fun z => by rw [hl z]; exact ⟨fun hz => ⟨HR.out.symm, hz⟩, fun hz => hz.2⟩) (anyS_best xa ra l))
    generalize anyS xa ra l = o at *
    obtain ⟨on, hon⟩ : ∃ n, n = bsN o := ⟨_, rfl⟩
    obtain ⟨ov, hov⟩ : ∃ n, n = bsV o := ⟨_, rfl⟩
    obtain ⟨oo, hoo⟩ : ∃ n, n = o.isSome := ⟨_, rfl⟩
    rw [← hon, ← hov, ← hoo]
    have HO := Lib.hid (And.intro hon (And.intro hov hoo))
    clear hon hov hoo hl
    repeat any_goals (first | go_skip | go_guarded | go_step | go_upon | (simp only []; done))
    exact bodyPost_ret (v := .tuple #[.agg #[.bool (on ), .int .u64 (lm ( ov) 0 : Nat), .int .u64 (lm ( ov) 1 : Nat), .int .u64 (lm ( ov) 2 : Nat), .int .u64 (lm ( ov) 3 : Nat)], .bool oo]) (by simp [results, Tryz.results6, go_sem, *]) rfl ⟨o, HA.out, by rw [HO.out.1, HO.out.2.1, HO.out.2.2], by (repeat first | with_reducible exact Below.refl _ _ | with_reducible assumption | with_reducible refine Below.drew ?_ | with_reducible refine below_alloc ?_ _ | ((with_reducible refine Below.setCell ?_ ?_ _); rotate_left; (focus (first | with_reducible exact Nat.le_refl _ | (simp; done) | (simp; omega) | omega))) | (with_reducible refine below_trans ?_ (by assumption)))⟩
set_option maxRecDepth 20000 in
theorem few_any (a b : Option Addr) (n c m d : Nat) (w : World) (h1 : n ≤ 9223372036854775807) (h2 : m ≤ 9223372036854775807) :
    Calls Tryz.prog 4 #[.slice a n c, .slice b m d] w fun e w' => e = .returned (.bool (decide (n ≤ 12) && decide (m ≤ 12))) ∧ Below w.heap.size w w' := by
  by_cases c1 : n ≤ 12
  · have i1 : (n : Int) ≤ 12 := by omega
    by_cases c2 : m ≤ 12
    · have i2 : (m : Int) ≤ 12 := by omega
      go_enter Tryz.func4, Tryz.ntmps4
      repeat any_goals (first | go_skip | go_guarded | go_step | go_upon | (simp only []; done))
      go_ret
      exact ⟨by simp [c1, c2], by (repeat first | with_reducible exact Below.refl _ _ | with_reducible assumption | with_reducible refine Below.drew ?_ | with_reducible refine below_alloc ?_ _ | ((with_reducible refine Below.setCell ?_ ?_ _); rotate_left; (focus (first | with_reducible exact Nat.le_refl _ | (simp; done) | (simp; omega) | omega))) | (with_reducible refine below_trans ?_ (by assumption)))⟩
    · have i2 : ¬ (m : Int) ≤ 12 := by omega
      go_enter Tryz.func4, Tryz.ntmps4
      repeat any_goals (first | go_skip | go_guarded | go_step | go_upon | (simp only []; done))
      go_ret
      exact ⟨by simp [c1, c2], by (repeat first | with_reducible exact Below.refl _ _ | with_reducible assumption | with_reducible refine Below.drew ?_ | with_reducible refine below_alloc ?_ _ | ((with_reducible refine Below.setCell ?_ ?_ _); rotate_left; (focus (first | with_reducible exact Nat.le_refl _ | (simp; done) | (simp; omega) | omega))) | (with_reducible refine below_trans ?_ (by assumption)))⟩
  · have i1 : ¬ (n : Int) ≤ 12 := by omega
    go_enter Tryz.func4, Tryz.ntmps4
    repeat any_goals (first | go_skip | go_guarded | go_step | go_upon | (simp only []; done))
    go_ret
    exact ⟨by simp [c1], by (repeat first | with_reducible exact Below.refl _ _ | with_reducible assumption | with_reducible refine Below.drew ?_ | with_reducible refine below_alloc ?_ _ | ((with_reducible refine Below.setCell ?_ ?_ _); rotate_left; (focus (first | with_reducible exact Nat.le_refl _ | (simp; done) | (simp; omega) | omega))) | (with_reducible refine below_trans ?_ (by assumption)))⟩
theorem row_lit {w : World} {t : TypeId} (s : Sp) (hs : s.vl < 2 ^ 256 ∧ s.vh < 2 ^ 256) :
    SRow (w.alloc (.cells #[.bool s.hl, .bool s.hh, .bool s.nl, .int .u64 (lm s.vl 0 : Nat), .int .u64 (lm s.vl 1 : Nat), .int .u64 (lm s.vl 2 : Nat), .int .u64 (lm s.vl 3 : Nat), .bool s.nh, .int .u64 (lm s.vh 0 : Nat), .int .u64 (lm s.vh 1 : Nat), .int .u64 (lm s.vh 2 : Nat), .int .u64 (lm s.vh 3 : Nat)] t)) (some ⟨w.heap.size, 0, none⟩) 1 1 (fun _ => s) :=
  ⟨Nat.le_refl _, by decide, .inr ⟨_, 0, rfl, by simp, fun i hi j hj => by
    obtain rfl : i = 0 := by omega
    have hl : j < s.cells.length := hj
    have h1 := twelve_cells (w1 := w) (t := t) rfl j _ (List.getElem?_eq_getElem hl)
    rw [addr0] at h1
    rw [List.getElem?_eq_getElem hl, Nat.zero_mul, Nat.zero_add]
    exact h1⟩, fun _ _ => hs⟩
/-- a span of two numbers -/
def twoS (lo hi : Int) : Sp := ⟨true, true, sg lo, ab lo, sg hi, ab hi⟩
set_option maxRecDepth 20000 in
theorem one_any (lo hi : Int) (h1 : -9223372036854775808 ≤ lo) (h2 : lo < 9223372036854775808) (h3 : -9223372036854775808 ≤ hi) (h4 : hi < 9223372036854775808) (w : World) :
    Calls Tryz.prog 10 #[.int .i64 lo, .int .i64 hi] w fun e w' => ∃ g, e = .returned (.slice (some ⟨g, 0, none⟩) 1 1) ∧ SRow w' (some ⟨g, 0, none⟩) 1 1 (fun _ => twoS lo hi) ∧ Below w.heap.size w w' := by
  obtain ⟨ln, hln⟩ : ∃ n, n = sg lo := ⟨_, rfl⟩
  obtain ⟨lv, hlv⟩ : ∃ n, n = ab lo := ⟨_, rfl⟩
  obtain ⟨hn, hhn⟩ : ∃ n, n = sg hi := ⟨_, rfl⟩
  obtain ⟨hv, hhv⟩ : ∃ n, n = ab hi := ⟨_, rfl⟩
  have C1 := Lib.hid fun wx => ROfI_any lo h1 h2 wx
  have C2 := Lib.hid fun wx => ROfI_any hi h3 h4 wx
  rw [← hln, ← hlv] at C1
  rw [← hhn, ← hhv] at C2
  have hb1 : lv < 2 ^ 256 := by rw [hlv]; unfold ab; omega
  have hb2 : hv < 2 ^ 256 := by rw [hhv]; unfold ab; omega
  have HX := Lib.hid (show twoS lo hi = ⟨true, true, ln, lv, hn, hv⟩ by rw [hln, hlv, hhn, hhv]; rfl)
  have HB := Lib.hid (And.intro hb1 hb2)
  clear hln hlv hhn hhv h1 h2 h3 h4 hb1 hb2
  go_enter Tryz.func10, Tryz.ntmps10
  repeat any_goals (first | (go_at_call 11; with_reducible refine (C1.out _).mono ?_; rintro e w1 ⟨rfl, hb1⟩) | (go_at_call 11; with_reducible refine (C2.out _).mono ?_; rintro e w2 ⟨rfl, hb2⟩) | go_skip | go_guarded | go_step | go_upon | (dsimp only []))
  exact bodyPost_ret (v := .slice (some ⟨w2.heap.size, 0, none⟩) 1 1) (by simp [results, Tryz.results10, go_sem]) rfl ⟨_, rfl, by rw [HX.out]; exact row_lit ⟨true, true, ln, lv, hn, hv⟩ HB.out, by (repeat first | with_reducible exact Below.refl _ _ | with_reducible assumption | with_reducible refine Below.drew ?_ | with_reducible refine below_alloc ?_ _ | ((with_reducible refine Below.setCell ?_ ?_ _); rotate_left; (focus (first | with_reducible exact Nat.le_refl _ | (simp; done) | (simp; omega) | omega))) | (with_reducible refine below_trans ?_ (by assumption)))⟩
end Go.Proofs.YtekeedjhaakbhaaGreatDoor

namespace Go.Proofs.YtekeedjhaakbhaaGreatDoor
open Go.RowKit
theorem twoS_iv (lo hi : Int) : (twoS lo hi).iv = (lo, hi) := by
  unfold twoS Sp.iv
  simp only [if_true]
  rw [zI_sg, zI_sg]
theorem InS_one {s : Sp} {p q : Int} (h : s.iv = (p, q)) {n : Nat} (hn : n = 1) (z : Int) : InS (fun _ => s) n z ↔ p ≤ z ∧ z ≤ q := by
  subst hn
  show (∃ i, i < 1 ∧ s.iv.1 ≤ z ∧ z ≤ s.iv.2) ↔ _
  rw [h]
  exact ⟨fun ⟨_, _, h⟩ => h, fun h => ⟨0, Nat.one_pos, h⟩⟩
theorem mayR_one (s : Sp) {n : Nat} (hn : n = 1) : mayR (fun _ => s) n = mayS s := by
  subst hn
  unfold mayR anyN anyN
  simp
theorem twoS_may (lo hi : Int) : mayS (twoS lo hi) = true := by
  unfold mayS twoS
  simp [mayI_sg]
def c14 : Cl := ⟨1, 4, by decide, by decide⟩
theorem c14_set : SetF [c14] (fun z => 1 ≤ z ∧ z ≤ 4) := ⟨⟨by decide, fun d hd => (by cases hd), trivial⟩, fun z => by
  show MemL [c14.iv] z ↔ _
  rw [MemL_cons]
  exact ⟨fun h => h.elim id (fun h => absurd h (MemL_nil z)), fun h => .inl h⟩⟩
theorem told_or {l : List Cl} {n m : Nat} (hn : n = 1) (hm : m = 1) (h : SetF l (fun z => mayR (fun _ => twoS 1 2) n = true ∧ mayR (fun _ => twoS 3 4) m = true ∧ (InS (fun _ => twoS 1 2) n z ∨ InS (fun _ => twoS 3 4) m z))) : l = [c14] :=
  h.unique c14_set fun z => by
    rw [mayR_one _ hn, mayR_one _ hm, twoS_may, twoS_may, InS_one (twoS_iv 1 2) hn, InS_one (twoS_iv 3 4) hm]
    exact ⟨fun h => by have := h.2.2; omega, fun h => ⟨rfl, rfl, by omega⟩⟩
theorem told_pick {n : Nat} {o : Option Int} (hn : n = 1) (h : PickO (fun _ => twoS (-3) (-2)) n true false o) : o = some (-2) := by
  refine IsBest_unique h ⟨⟨by rw [mayR_one _ hn]; exact twoS_may _ _, (InS_one (twoS_iv _ _) hn _).2 (by omega), .inl ⟨rfl, exZ_small (by decide)⟩⟩, fun z hz => ?_⟩
  have := (InS_one (twoS_iv (-3) (-2)) hn z).1 hz.2.1
  unfold keyLe
  omega
theorem told_same {n m : Nat} {r : Bool} (hn : n = [c14].length) (hm : m = 1) (h : SameS (nthS ([c14].map opS)) n (fun _ => twoS 1 4) m r) : r = true := by
  subst hn
  refine h.2 ⟨mayR_row (by decide), by rw [mayR_one _ hm]; exact twoS_may _ _, fun z => ?_⟩
  rw [InS_nth, c14_set.mem z, InS_one (twoS_iv 1 4) hm]
theorem told_not {l : List Cl} {n : Nat} (hn : n = 1) (h : SetF l (fun z => mayR (fun _ => allS) n = true ∧ inR z ∧ ¬ InS (fun _ => allS) n z)) : l = [] :=
  h.unique (SetF.nil (P := fun _ => False) (fun _ h => h)) fun z => ⟨fun h => h.2.2 ((all_in hn z).2 h.2.1), fun h => h.elim⟩
/-- a span that may not be: a number at an end that it has not -/
def badS : Sp := ⟨false, false, sg 1, ab 1, false, 0⟩
theorem badS_may {n : Nat} (hn : n = 1) : mayR (fun _ => badS) n = false := by
  rw [mayR_one _ hn]
  decide
theorem told_sameC {w : World} {a b : Option Addr} {c d : Nat} (h1 : SRow w a 1 c (nthS ([c14].map opS))) (h2 : SRow w b 1 d (fun _ => twoS 1 4)) :
    Calls Tryz.prog 13 #[.slice a 1 c, .slice b 1 d] w fun e w' => e = .returned (.bool true) ∧ Below w.heap.size w w' :=
  (Same_any a 1 c _ b 1 d _ w h1 h2).mono fun _ _ ⟨_, he, hs, hb⟩ => ⟨by rw [he, told_same rfl rfl hs], hb⟩
theorem told_notC {w : World} {a : Option Addr} {c : Nat} (h : SRow w a 1 c (fun _ => allS)) :
    Calls Tryz.prog 14 #[.slice a 1 c] w fun e w' => ∃ (aa : Option Addr) (ca : Nat), e = .returned (.slice aa 0 ca) ∧ Below w.heap.size w w' :=
  (Not_any a 1 c _ w h (by decide)).mono fun _ _ ⟨_, he, hs⟩ => by
    obtain ⟨aa, ca, l, rfl, -, hf, -, hb⟩ := hs.row
    obtain rfl := told_not rfl hf
    exact ⟨aa, ca, he, hb⟩
theorem told_mayC {w : World} {a : Option Addr} {c : Nat} {lo hi : Int} (h : SRow w a 1 c (fun _ => twoS lo hi)) :
    Calls Tryz.prog 16 #[.slice a 1 c] w fun e w' => e = .returned (.bool true) ∧ Below w.heap.size w w' :=
  (PMayS_any a 1 c _ w h).mono fun _ _ ⟨he, hb⟩ => ⟨by rw [he, mayR_one _ rfl, twoS_may], hb⟩
theorem told_badC (w : World) : Calls Tryz.prog 16 #[.slice (some ⟨w.heap.size, 0, none⟩) 1 1] (w.alloc (.cells #[.bool false, .bool false, .bool (sg 1), .int .u64 (lm (ab 1) 0 : Nat), .int .u64 (lm (ab 1) 1 : Nat), .int .u64 (lm (ab 1) 2 : Nat), .int .u64 (lm (ab 1) 3 : Nat), .bool false, .int .u64 0, .int .u64 0, .int .u64 0, .int .u64 0] 37))
    fun e w' => e = .returned (.bool false) ∧ Below (w.alloc (.cells #[.bool false, .bool false, .bool (sg 1), .int .u64 (lm (ab 1) 0 : Nat), .int .u64 (lm (ab 1) 1 : Nat), .int .u64 (lm (ab 1) 2 : Nat), .int .u64 (lm (ab 1) 3 : Nat), .bool false, .int .u64 0, .int .u64 0, .int .u64 0, .int .u64 0] 37)).heap.size (w.alloc (.cells #[.bool false, .bool false, .bool (sg 1), .int .u64 (lm (ab 1) 0 : Nat), .int .u64 (lm (ab 1) 1 : Nat), .int .u64 (lm (ab 1) 2 : Nat), .int .u64 (lm (ab 1) 3 : Nat), .bool false, .int .u64 0, .int .u64 0, .int .u64 0, .int .u64 0] 37)) w' := by
  have h := @row_lit w 37 badS ⟨by decide, by decide⟩
  have e : badS = ⟨false, false, sg 1, ab 1, false, 0⟩ := rfl
  have hm := @badS_may 1 rfl
  rw [e] at h hm
  simp only [lm_zero] at h
  exact (PMayS_any _ 1 _ _ _ h).mono fun _ _ ⟨he, hb⟩ => ⟨by rw [he, hm], hb⟩
set_option maxRecDepth 20000 in
set_option maxHeartbeats 8000000 in
/-- **told.** -/
theorem told_any (w : World) (hT : Tabs w) : Calls Tryz.prog 5 #[] w fun e w' => e = .returned (.bool true) ∧ Below w.heap.size w w' := by
  have HT := Lib.hid hT
  clear hT
  go_enter Tryz.func5, Tryz.ntmps5
  repeat any_goals (first | (go_at_call 10; with_reducible refine (one_any 1 2 (by decide) (by decide) (by decide) (by decide) _).mono ?_; rintro e w1 ⟨g1, rfl, hr1, hb1⟩; dsimp only []) | (go_at_call 10; with_reducible refine (one_any 3 4 (by decide) (by decide) (by decide) (by decide) _).mono ?_; rintro e w2 ⟨g2, rfl, hr2, hb2⟩; dsimp only []) | go_skip | go_guarded | go_step | go_upon | (dsimp only []))
  have hw1 := hb1
  have hw2 := hw1.trans (below_weak hb2 hw1.size)
  refine (Or_any _ 1 _ _ _ 1 _ _ w2 (hr1.below hb2) hr2 (by decide) (by decide)).mono ?_
  rintro e w3 ⟨v3, rfl, h3⟩
  obtain ⟨a3, c3, l3, rfl, r3, f3, -, hb3⟩ := h3.row
  obtain rfl := told_or rfl rfl f3
  have hw3 := hw2.trans (below_weak hb3 hw2.size)
  have R3 := Lib.hid r3
  dsimp only []
  have D1 : [c14].length = 1 := rfl
  rw [D1] at R3 ⊢
  clear f3 r3 D1
  repeat any_goals (first | (go_at_call 10; with_reducible refine (one_any (-3) (-2) (by decide) (by decide) (by decide) (by decide) _).mono ?_; rintro e w4 ⟨g4, rfl, hr4, hb4⟩; dsimp only []) | go_skip | go_guarded | go_step | go_upon | (dsimp only []))
  have hw4 := hw3.trans (below_weak hb4 hw3.size)
  refine (Pick_any true false _ 1 _ _ w4 hr4 (HT.out.below hw4)).mono ?_
  rintro e w5 ⟨o, ho, rfl, hb5⟩
  obtain rfl := told_pick rfl ho
  have hw5 := hw4.trans (below_weak hb5 hw4.size)
  have R5 := Lib.hid ((R3.out.below hb4).below hb5)
  dsimp only []
  have CO := Lib.hid fun wx => ROfI_any (-2) (by decide) (by decide) wx
  have e1 : bsN (some (-2)) = sg (-2) := rfl
  have e2 : bsV (some (-2)) = ab (-2) := rfl
  have e3 : (some (-2 : Int)).isSome = true := rfl
  rw [e1, e2, e3]
  generalize sg (-2) = pn at CO ⊢
  generalize ab (-2) = pv at CO ⊢
  clear e1 e2 e3 ho R3 hw1 hw2 hw3 hw4 hr1 hr2 hr4 hb1 hb2 hb3 hb4 hb5
  repeat any_goals (first | go_skip | go_guarded | go_step | go_upon | (simp only []; done))
  have X6' := Lib.hid (@ibox_new w5 pn pv 29)
  have R6' := Lib.hid (R5.out.below (below_alloc (Below.refl _ _) (.cells #[.bool pn, .int .u64 (lm pv 0 : Nat), .int .u64 (lm pv 1 : Nat), .int .u64 (lm pv 2 : Nat), .int .u64 (lm pv 3 : Nat)] 29)))
  have hw6' := Lib.hid (below_alloc hw5 (.cells #[.bool pn, .int .u64 (lm pv 0 : Nat), .int .u64 (lm pv 1 : Nat), .int .u64 (lm pv 2 : Nat), .int .u64 (lm pv 3 : Nat)] 29))
  generalize w5.alloc (.cells #[.bool pn, .int .u64 (lm pv 0 : Nat), .int .u64 (lm pv 1 : Nat), .int .u64 (lm pv 2 : Nat), .int .u64 (lm pv 3 : Nat)] 29) = w6 at *
  obtain ⟨Bp, hBp⟩ : ∃ B, B = w5.heap.size := ⟨_, rfl⟩
  rw [← hBp] at X6' ⊢
  have X6 := X6'
  have R6 := R6'
  have C1 := Lib.hid fun wx => ROfI_any 1 (by decide) (by decide) wx
  have CB := Lib.hid fun wx => told_badC wx
  generalize sg 1 = qn at C1 CB
  generalize ab 1 = qv at C1 CB
  clear X6' R6' hBp R5 hw5 HT
  have hq : Below w6.heap.size w6 w6.drew := (Below.refl _ _).drew
  go_region_held3 (fun w' => w'.cell? ⟨Bp, 0, none⟩ = some (.bool pn) ∧ w'.cell? ⟨Bp, 1, none⟩ = some (.int .u64 (lm pv 0 : Nat)) ∧ w'.cell? ⟨Bp, 2, none⟩ = some (.int .u64 (lm pv 1 : Nat)) ∧ w'.cell? ⟨Bp, 3, none⟩ = some (.int .u64 (lm pv 2 : Nat)) ∧ w'.cell? ⟨Bp, 4, none⟩ = some (.int .u64 (lm pv 3 : Nat))) (first | with_reducible assumption | (have hk_ := hq; with_reducible exact ⟨(X6.out.below hk_).c0, (X6.out.below hk_).c1, (X6.out.below hk_).c2, (X6.out.below hk_).c3, (X6.out.below hk_).c4⟩) | (with_reducible exact ⟨(X6.out.below (below_alloc hq _)).c0, (X6.out.below (below_alloc hq _)).c1, (X6.out.below (below_alloc hq _)).c2, (X6.out.below (below_alloc hq _)).c3, (X6.out.below (below_alloc hq _)).c4⟩) | (have hk_ := Below.refl w6.heap.size w6; with_reducible exact ⟨(X6.out.below hk_).c0, (X6.out.below hk_).c1, (X6.out.below hk_).c2, (X6.out.below hk_).c3, (X6.out.below hk_).c4⟩) | (have hk_ := (Below.refl w6.heap.size w6).drew; with_reducible exact ⟨(X6.out.below hk_).c0, (X6.out.below hk_).c1, (X6.out.below hk_).c2, (X6.out.below hk_).c3, (X6.out.below hk_).c4⟩)) (first | (go_at_call 10; with_reducible refine (one_any 1 4 (by decide) (by decide) (by decide) (by decide) _).mono ?_; rintro e w7 ⟨g7, rfl, hr7, hb7⟩; (first | have hq := below_trans hq hb7 | have hq := below_trans (below_alloc hq _) hb7 | have hq := below_trans (Below.refl _ _).drew hb7 | have hq := hb7)) | (go_at_call 13; with_reducible refine (told_sameC (R6.out.below hq) hr7).mono ?_; rintro e w8 ⟨rfl, hb8⟩; (first | have hq := below_trans hq hb8 | have hq := below_trans (below_alloc hq _) hb8 | have hq := below_trans (Below.refl _ _).drew hb8 | have hq := hb8)) | (go_at_call 15; with_reducible refine (All_any _).mono ?_; rintro e w9 ⟨rfl, hr9, hb9⟩; (first | have hq := below_trans hq hb9 | have hq := below_trans (below_alloc hq _) hb9 | have hq := below_trans (Below.refl _ _).drew hb9 | have hq := hb9)) | (go_at_call 14; with_reducible refine (told_notC hr9).mono ?_; rintro e wa ⟨aa, ca, rfl, hba⟩; (first | have hq := below_trans hq hba | have hq := below_trans (below_alloc hq _) hba | have hq := below_trans (Below.refl _ _).drew hba | have hq := hba)) | (go_at_call 11; with_reducible refine (CO.out _).mono ?_; rintro e wb ⟨rfl, hbb⟩; (first | have hq := below_trans hq hbb | have hq := below_trans (below_alloc hq _) hbb | have hq := below_trans (Below.refl _ _).drew hbb | have hq := hbb)) | (go_at_call 10; with_reducible refine (one_any 1 0 (by decide) (by decide) (by decide) (by decide) _).mono ?_; rintro e wc ⟨gc, rfl, hrc, hbc⟩; (first | have hq := below_trans hq hbc | have hq := below_trans (below_alloc hq _) hbc | have hq := below_trans (Below.refl _ _).drew hbc | have hq := hbc)) | (go_at_call 16; with_reducible refine (told_mayC hrc).mono ?_; rintro e wd ⟨rfl, hbd⟩; (first | have hq := below_trans hq hbd | have hq := below_trans (below_alloc hq _) hbd | have hq := below_trans (Below.refl _ _).drew hbd | have hq := hbd)) | (go_at_call 11; with_reducible refine (C1.out _).mono ?_; rintro e we ⟨rfl, hbe⟩; (first | have hq := below_trans hq hbe | have hq := below_trans (below_alloc hq _) hbe | have hq := below_trans (Below.refl _ _).drew hbe | have hq := hbe)) | (go_at_call 16; with_reducible refine (CB.out _).mono ?_; rintro e wf ⟨rfl, hbf⟩; (first | have hq := below_trans hq hbf | have hq := below_trans (below_alloc hq _) hbf | have hq := below_trans (Below.refl _ _).drew hbf | have hq := hbf)))
  repeat any_goals (first | go_skip | go_guarded | go_step | go_upon | (simp only []; done))
  have hw6 := hw6'.out
  exact bodyPost_ret (v := .bool true) (by simp [results, Tryz.results5, go_sem]) rfl ⟨rfl, hw6.trans (below_weak hq hw6.size)⟩
end Go.Proofs.YtekeedjhaakbhaaGreatDoor
