/- '==' on spans. · slices.Equal on spans; Same, All, Not of the program. · Not, All, Same of the program. -/
import Derived.Test.YtekeedjhaakbhaaGreatDoorSpE
import Derived.Test.YtekeedjhaakbhaaGreatDoorOth9
namespace Go.Proofs.YtekeedjhaakbhaaGreatDoor
open Go.RowKit
def eqSp (l0 l1 l2 : Bool) (l3 l4 l5 l6 : Int) (l7 : Bool) (l8 l9 l10 l11 : Int) (m0 m1 m2 : Bool) (m3 m4 m5 m6 : Int) (m7 : Bool) (m8 m9 m10 m11 : Int) : Bool :=
  l0 == m0 && (l1 == m1 && (eqI l2 m2 l3 l4 l5 l6 m3 m4 m5 m6 && eqI l7 m7 l8 l9 l10 l11 m8 m9 m10 m11))
set_option maxRecDepth 20000 in
@[go_sem high] theorem run_equalIn_sp (d : Nat) (l0 l1 l2 l7 m0 m1 m2 m7 : Bool) (l3 l4 l5 l6 l8 l9 l10 l11 m3 m4 m5 m6 m8 m9 m10 m11 : Int) (w : World) :
    (Op.equalIn (d + 4) 37 (.agg #[.bool l0, .bool l1, .bool l2, .int .u64 l3, .int .u64 l4, .int .u64 l5, .int .u64 l6, .bool l7, .int .u64 l8, .int .u64 l9, .int .u64 l10, .int .u64 l11]) (.agg #[.bool m0, .bool m1, .bool m2, .int .u64 m3, .int .u64 m4, .int .u64 m5, .int .u64 m6, .bool m7, .int .u64 m8, .int .u64 m9, .int .u64 m10, .int .u64 m11])).run Tryz.prog w = .ok (eqSp l0 l1 l2 l3 l4 l5 l6 l7 l8 l9 l10 l11 m0 m1 m2 m3 m4 m5 m6 m7 m8 m9 m10 m11) w := by
  have h33 := Tryz.underlying37
  unfold Op.equalIn eqSp
  simp only [Sem.run_bind, run_underlying h33, Result.andThen_ok]
  simp [go_sem]
  have hp : (l3 = m3 → l4 = m4 → l5 = m5 → ¬l6 = m6) ↔ ¬ ((l3 == m3 && l4 == m4 && l5 == m5 && l6 == m6) = true) := by simp
  have hq : (l8 = m8 → l9 = m9 → l10 = m10 → ¬l11 = m11) ↔ ¬ ((l8 == m8 && l9 == m9 && l10 == m10 && l11 == m11) = true) := by simp
  unfold eqI
  simp only [hp, hq]
  generalize (l3 == m3 && l4 == m4 && l5 == m5 && l6 == m6) = p
  generalize (l8 == m8 && l9 == m9 && l10 == m10 && l11 == m11) = q
  by_cases e : l0 = m0 <;> by_cases e0 : l1 = m1 <;> by_cases e1 : l2 = m2 <;> by_cases e2 : l7 = m7 <;> cases p <;> cases q <;> simp [e, e0, e1, e2]
set_option maxRecDepth 20000 in
theorem neqS_run (l0 l1 l2 l7 m0 m1 m2 m7 : Bool) (l3 l4 l5 l6 l8 l9 l10 l11 m3 m4 m5 m6 m8 m9 m10 m11 : Int) (w : World) :
    (binOp .neq 37 (.agg #[.bool l0, .bool l1, .bool l2, .int .u64 l3, .int .u64 l4, .int .u64 l5, .int .u64 l6, .bool l7, .int .u64 l8, .int .u64 l9, .int .u64 l10, .int .u64 l11]) (.agg #[.bool m0, .bool m1, .bool m2, .int .u64 m3, .int .u64 m4, .int .u64 m5, .int .u64 m6, .bool m7, .int .u64 m8, .int .u64 m9, .int .u64 m10, .int .u64 m11])).run Tryz.prog w = .ok (.bool (!eqSp l0 l1 l2 l3 l4 l5 l6 l7 l8 l9 l10 l11 m0 m1 m2 m3 m4 m5 m6 m7 m8 m9 m10 m11)) w := by
  simp [go_sem]
theorem eqSp_cells {x y : Sp} (h1 : x.vl < 2 ^ 256 ∧ x.vh < 2 ^ 256) (h2 : y.vl < 2 ^ 256 ∧ y.vh < 2 ^ 256) :
    eqSp x.hl x.hh x.nl (lm x.vl 0 : Nat) (lm x.vl 1 : Nat) (lm x.vl 2 : Nat) (lm x.vl 3 : Nat) x.nh (lm x.vh 0 : Nat) (lm x.vh 1 : Nat) (lm x.vh 2 : Nat) (lm x.vh 3 : Nat)
      y.hl y.hh y.nl (lm y.vl 0 : Nat) (lm y.vl 1 : Nat) (lm y.vl 2 : Nat) (lm y.vl 3 : Nat) y.nh (lm y.vh 0 : Nat) (lm y.vh 1 : Nat) (lm y.vh 2 : Nat) (lm y.vh 3 : Nat) = true ↔ x = y := by
  unfold eqSp
  rw [eqI_num h1.1 h2.1, eqI_num h1.2 h2.2]
  obtain ⟨a, b, c, d, e, f⟩ := x
  obtain ⟨a', b', c', d', e', f'⟩ := y
  simp only [Bool.and_eq_true, beq_iff_eq, Sp.mk.injEq]
  exact ⟨fun h => ⟨h.1, h.2.1, h.2.2.1.1, h.2.2.1.2, h.2.2.2.1, h.2.2.2.2⟩, fun h => ⟨h.1, h.2.1, ⟨h.2.2.1, h.2.2.2.1⟩, h.2.2.2.2.1, h.2.2.2.2.2⟩⟩
end Go.Proofs.YtekeedjhaakbhaaGreatDoor

namespace Go.Proofs.YtekeedjhaakbhaaGreatDoor
open Go.RowKit
/-- the answer tells whether two rows are alike -/
def SameO (S : Nat → Sp) (n : Nat) (T : Nat → Sp) (m : Nat) (r : Bool) : Prop := r = true ↔ n = m ∧ ∀ i, i < n → S i = T i
set_option maxRecDepth 20000 in
set_option maxHeartbeats 4000000 in
theorem EqualS_any (a : Option Addr) (n c : Nat) (S : Nat → Sp) (b : Option Addr) (m d : Nat) (T : Nat → Sp) (w : World) (h1 : SRow w a n c S) (h2 : SRow w b m d T) :
    Calls Tryz.prog 33 #[.slice a n c, .slice b m d] w fun e w' => ∃ r : Bool, e = .returned (.bool r) ∧ SameO S n T m r ∧ Below w.heap.size w w' := by
  have H1 := Lib.hid h1
  have H2 := Lib.hid h2
  have hl1 := h1.l
  have hl2 := h1.lc
  have hl3 := h2.l
  have hl4 := h2.lc
  simp only [maxLen] at hl2 hl4
  clear h1 h2
  by_cases hnm : n = m
  · subst hnm
    go_enter Tryz.func33, Tryz.ntmps33
    repeat any_goals (first | go_skip | go_guarded | go_step | go_upon | (simp only []; done))
    go_loopw [13] (fun i wr => ∃ k : Nat, k ≤ n ∧ i = .int .i64 k ∧ (∀ j, j < k → S j = T j) ∧ Below w.heap.size w wr) (fun i _ => n - (intOf i).toNat)
    case atStart => exact ⟨0, Nat.zero_le _, rfl, fun j hj => by omega, Below.refl _ _⟩
    case round =>
      obtain ⟨k, hk, rfl, hA, hW⟩ := hrel
      have HA := Lib.hid hA
      clear hA
      by_cases hkn : k < n
      · obtain ⟨xb, xo, xhl, xhh, xnl, xvl, xnh, xvh, rfl, xlt, xs, xc, xv1, xv2⟩ := sp_lit H1.out hkn hW
        obtain ⟨yb, yo, yhl, yhh, ynl, yvl, ynh, yvh, rfl, ylt, ys, yc, yv1, yv2⟩ := sp_lit H2.out hkn hW
        obtain ⟨q, hq⟩ : ∃ q, eqSp xhl xhh xnl (lm xvl 0 : Nat) (lm xvl 1 : Nat) (lm xvl 2 : Nat) (lm xvl 3 : Nat) xnh (lm xvh 0 : Nat) (lm xvh 1 : Nat) (lm xvh 2 : Nat) (lm xvh 3 : Nat) yhl yhh ynl (lm yvl 0 : Nat) (lm yvl 1 : Nat) (lm yvl 2 : Nat) (lm yvl 3 : Nat) ynh (lm yvh 0 : Nat) (lm yvh 1 : Nat) (lm yvh 2 : Nat) (lm yvh 3 : Nat) = q := ⟨_, rfl⟩
        have hqe : eqSp xhl xhh xnl (lm xvl 0 : Nat) (lm xvl 1 : Nat) (lm xvl 2 : Nat) (lm xvl 3 : Nat) xnh (lm xvh 0 : Nat) (lm xvh 1 : Nat) (lm xvh 2 : Nat) (lm xvh 3 : Nat) yhl yhh ynl (lm yvl 0 : Nat) (lm yvl 1 : Nat) (lm yvl 2 : Nat) (lm yvl 3 : Nat) ynh (lm yvh 0 : Nat) (lm yvh 1 : Nat) (lm yvh 2 : Nat) (lm yvh 3 : Nat) = true ↔ S k = T k := by
          rw [xs, ys]
          exact @eqSp_cells ⟨xhl, xhh, xnl, xvl, xnh, xvh⟩ ⟨yhl, yhh, ynl, yvl, ynh, yvh⟩ ⟨xv1, xv2⟩ ⟨yv1, yv2⟩
        rw [hq] at hqe
        have HQ := Lib.hid hqe
        have N1 : ∀ wx : World, (binOp .neq 37 (.agg #[.bool xhl, .bool xhh, .bool xnl, .int .u64 (lm xvl 0 : Nat), .int .u64 (lm xvl 1 : Nat), .int .u64 (lm xvl 2 : Nat), .int .u64 (lm xvl 3 : Nat), .bool xnh, .int .u64 (lm xvh 0 : Nat), .int .u64 (lm xvh 1 : Nat), .int .u64 (lm xvh 2 : Nat), .int .u64 (lm xvh 3 : Nat)]) (.agg #[.bool yhl, .bool yhh, .bool ynl, .int .u64 (lm yvl 0 : Nat), .int .u64 (lm yvl 1 : Nat), .int .u64 (lm yvl 2 : Nat), .int .u64 (lm yvl 3 : Nat), .bool ynh, .int .u64 (lm yvh 0 : Nat), .int .u64 (lm yvh 1 : Nat), .int .u64 (lm yvh 2 : Nat), .int .u64 (lm yvh 3 : Nat)])).run Tryz.prog wx = .ok (.bool (!q)) wx := fun wx => by rw [neqS_run, hq]
        obtain ⟨_, _, _, _, _, _, _, _, _, _, _, _⟩ := xc.all
        obtain ⟨_, _, _, _, _, _, _, _, _, _, _, _⟩ := yc.all
        have i1 : (k : Int) < (n : Int) := by omega
        have i2 : (0 : Int) ≤ (k : Int) := by omega
        have i5 : (k : Int).toNat = k := rfl
        have hW1 := hW.drew
        clear hq hqe xs ys xc yc
        cases q with
        | false =>
          simp only [Bool.not_false] at N1
          repeat any_goals (first | go_skip | go_guarded | go_step | go_upon | (simp only []; done))
          go_region
          repeat any_goals (first | go_skip | go_guarded | go_step | go_upon | (simp only []; done))
          exact bodyPost_ret (v := .bool false) (by simp [results, Tryz.results33, go_sem]) rfl ⟨false, rfl, ⟨fun h => (by cases h), fun h => HQ.out.2 (h.2 k hkn)⟩, by (repeat first | with_reducible exact Below.refl _ _ | with_reducible assumption | with_reducible refine Below.drew ?_ | with_reducible refine below_alloc ?_ _ | ((with_reducible refine Below.setCell ?_ ?_ _); rotate_left; (focus (first | with_reducible exact Nat.le_refl _ | (simp; done) | (simp; omega) | omega))) | (with_reducible refine below_trans ?_ (by assumption)))⟩
        | true =>
          simp only [Bool.not_true] at N1
          repeat any_goals (first | go_skip | go_guarded | go_step | go_upon | (simp only []; done))
          go_region
          repeat any_goals (first | go_skip | go_guarded | go_step | go_upon | (simp only []; done))
          go_roundw
          case rel => exact ⟨k + 1, by omega, rfl, fun j hj => by
            by_cases e : j = k
            · subst e; exact HQ.out.1 rfl
            · exact HA.out j (by omega), by (repeat first | with_reducible exact Below.refl _ _ | with_reducible assumption | with_reducible refine Below.drew ?_ | with_reducible refine below_alloc ?_ _ | ((with_reducible refine Below.setCell ?_ ?_ _); rotate_left; (focus (first | with_reducible exact Nat.le_refl _ | (simp; done) | (simp; omega) | omega))) | (with_reducible refine below_trans ?_ (by assumption)))⟩
          case measure => simp [intOf]; omega
      · have hk' : k = n := by omega
        have i1 : ¬ (k : Int) < (n : Int) := by omega
        repeat any_goals (first | go_skip | go_guarded | go_step | go_upon | (simp only []; done))
        exact bodyPost_ret (v := .bool true) (by simp [results, Tryz.results33, go_sem]) rfl ⟨true, rfl, ⟨fun _ => ⟨rfl, fun i hi => HA.out i (by omega)⟩, fun _ => rfl⟩, by (repeat first | with_reducible exact Below.refl _ _ | with_reducible assumption | with_reducible refine Below.drew ?_ | with_reducible refine below_alloc ?_ _ | ((with_reducible refine Below.setCell ?_ ?_ _); rotate_left; (focus (first | with_reducible exact Nat.le_refl _ | (simp; done) | (simp; omega) | omega))) | (with_reducible refine below_trans ?_ (by assumption)))⟩
  · have i1 : ((n : Int) == (m : Int)) = false := beq_false_of_ne (by omega)
    have i2 : ¬ ((n : Int) = (m : Int)) := by omega
    have i3 : ¬ n = m := hnm
    go_enter Tryz.func33, Tryz.ntmps33
    repeat any_goals (first | go_skip | go_guarded | go_step | go_upon | (simp only []; done))
    exact bodyPost_ret (v := .bool false) (by simp [results, Tryz.results33, go_sem]) rfl ⟨false, rfl, ⟨fun h => (by cases h), fun h => absurd h.1 hnm⟩, by (repeat first | with_reducible exact Below.refl _ _ | with_reducible assumption | with_reducible refine Below.drew ?_ | with_reducible refine below_alloc ?_ _ | ((with_reducible refine Below.setCell ?_ ?_ _); rotate_left; (focus (first | with_reducible exact Nat.le_refl _ | (simp; done) | (simp; omega) | omega))) | (with_reducible refine below_trans ?_ (by assumption)))⟩
end Go.Proofs.YtekeedjhaakbhaaGreatDoor

namespace Go.Proofs.YtekeedjhaakbhaaGreatDoor
open Go.RowKit
/-- a row of spans, from an answer -/
theorem SOut.row {P : Int → Prop} {M : Nat} {w w' : World} {v : Value} (h : SOut P M w v w') : ∃ (a : Option Addr) (c : Nat) (l : List Cl), v = .slice a l.length c ∧ SRow w' a l.length c (nthS (l.map opS)) ∧ SetF l P ∧ l.length ≤ M ∧ Below w.heap.size w w' := by
  obtain ⟨l, h1, h2, h3, h4⟩ := h
  have h3' : w'.ownsRow w.heap.size 37 12 v (l.map opS).length (encS (l.map opS)) := by rw [List.length_map]; exact h3
  obtain ⟨a, c, e, hr⟩ := own_row h3' (fun s hs => by
    obtain ⟨x, -, rfl⟩ := List.mem_map.1 hs
    exact opS_lt x)
  rw [List.length_map] at e hr
  exact ⟨a, c, l, e, hr, h1, h2, h4⟩
theorem mayR_row {l : List Cl} (h : l.length ≤ 1000) : mayR (nthS (l.map opS)) l.length = true := by
  unfold mayR
  rw [decide_eq_true h, Bool.true_and]
  cases c : anyN (fun i => !mayS (nthS (l.map opS) i)) l.length with
  | false => rfl
  | true =>
    exfalso
    have hn : ∀ m, m ≤ l.length → anyN (fun i => !mayS (nthS (l.map opS) i)) m = false := by
      intro m
      induction m with
      | zero => intro _; rfl
      | succ m ih =>
        intro hm
        simp only [anyN]
        rw [ih (by omega), nth_map (by omega), opS_may]
        rfl
    rw [hn _ (Nat.le_refl _)] at c
    cases c
/-- the set of a row in the one form -/
theorem SetF.ins {l : List Cl} {P : Int → Prop} (h : SetF l P) (z : Int) : InS (nthS (l.map opS)) l.length z ↔ P z := (InS_nth l z).trans (h.mem z)
theorem opS_inj {x y : Cl} (h : opS x = opS y) : x = y := iv_inj (by rw [← opS_iv, ← opS_iv, h])
theorem rows_same {l m : List Cl} (h : l.length = m.length ∧ ∀ i, i < l.length → nthS (l.map opS) i = nthS (m.map opS) i) : l = m := by
  refine List.ext_getElem h.1 fun i h1 h2 => ?_
  have := h.2 i h1
  rw [nth_map h1, nth_map h2] at this
  exact opS_inj this
set_option maxRecDepth 20000 in
set_option maxHeartbeats 1600000 in
/-- **Not.** -/
theorem Not_any (a : Option Addr) (n c : Nat) (S : Nat → Sp) (w : World) (h : SRow w a n c S) (hn : n ≤ 400000) :
    Calls Tryz.prog 14 #[.slice a n c] w fun e w' => ∃ v, e = .returned v ∧ SOut (fun z => mayR S n = true ∧ inR z ∧ ¬ InS S n z) (n + 1) w v w' := by
  have H := Lib.hid h
  obtain ⟨R, hR⟩ : ∃ R, R = mayR S n := ⟨_, rfl⟩
  have M := Lib.hid fun wx (hx : SRow wx a n c S) => PMayS_any a n c S wx hx
  rw [← hR] at M
  have HR := Lib.hid hR
  clear h hR
  go_enter Tryz.func14, Tryz.ntmps14
  cases R with
  | false =>
    repeat any_goals (first | (go_at_call 16; with_reducible refine (M.out _ H.out).mono ?_; rintro e w1 ⟨rfl, hb1⟩) | go_skip | go_guarded | go_step | go_upon | (dsimp only []))
    exact bodyPost_ret (v := .slice none 0 0) (by simp [results, Tryz.results14, go_sem]) rfl ⟨_, rfl, [], SetF.nil (fun z hz => by rw [← HR.out] at hz; cases hz.1), Nat.zero_le _, World.ownsRow_nil _ _ _ _, by (repeat first | with_reducible exact Below.refl _ _ | with_reducible assumption | with_reducible refine Below.drew ?_ | with_reducible refine below_alloc ?_ _ | ((with_reducible refine Below.setCell ?_ ?_ _); rotate_left; (focus (first | with_reducible exact Nat.le_refl _ | (simp; done) | (simp; omega) | omega))) | (with_reducible refine below_trans ?_ (by assumption)))⟩
  | true =>
    repeat any_goals (first | (go_at_call 16; with_reducible refine (M.out _ H.out).mono ?_; rintro e w1 ⟨rfl, hb1⟩) | (go_at_call 35; with_reducible refine (Others_any a n c S w1 (H.out.below hb1) hn HR.out.symm).mono ?_; rintro e w2 ⟨v2, rfl, h2⟩; dsimp only []) | go_skip | go_guarded | go_step | go_upon | (dsimp only []))
    exact bodyPost_ret (v := v2) (by simp [results, Tryz.results14, go_sem]) rfl ⟨_, rfl, by
      obtain ⟨l4, s1, s2, s3, s4⟩ := h2
      exact ⟨l4, s1.congr (fun z => ⟨fun hz => ⟨HR.out.symm, hz⟩, fun hz => hz.2⟩), s2, s3.mono hb1.size, hb1.trans (below_weak s4 hb1.size)⟩⟩
/-- the span of all -/
def allS : Sp := ⟨false, false, false, 0, false, 0⟩
theorem all_in {n : Nat} (hn : n = 1) (z : Int) : InS (fun _ => allS) n z ↔ inR z := by
  subst hn
  constructor
  · rintro ⟨i, -, h1, h2⟩
    exact ⟨h1, h2⟩
  · rintro ⟨h1, h2⟩
    exact ⟨0, Nat.one_pos, h1, h2⟩
set_option maxRecDepth 20000 in
/-- **All.** -/
theorem All_any (w : World) : Calls Tryz.prog 15 #[] w fun e w' => e = .returned (.slice (some ⟨w.heap.size, 0, none⟩) 1 1) ∧ SRow w' (some ⟨w.heap.size, 0, none⟩) 1 1 (fun _ => allS) ∧ Below w.heap.size w w' := by
  go_enter Tryz.func15, Tryz.ntmps15
  repeat any_goals (first | go_skip | go_guarded | go_step | go_upon | (simp only []; done))
  exact bodyPost_ret (v := .slice (some ⟨w.heap.size, 0, none⟩) 1 1) (by simp [results, Tryz.results15, go_sem]) rfl ⟨rfl, ⟨Nat.le_refl _, by decide, .inr ⟨_, 0, rfl, by simp, fun i hi j hj => by
    obtain rfl : i = 0 := by omega
    have hc : ∀ (j : Nat) (u : Value), allS.cells[j]? = some u → (w.alloc (.cells #[.bool false, .bool false, .bool false, .int .u64 0, .int .u64 0, .int .u64 0, .int .u64 0, .bool false, .int .u64 0, .int .u64 0, .int .u64 0, .int .u64 0] 37)).cell? ((⟨w.heap.size, 0, none⟩ : Addr).add j) = some u := by
      have e : allS.cells = [.bool false, .bool false, .bool false, .int .u64 0, .int .u64 0, .int .u64 0, .int .u64 0, .bool false, .int .u64 0, .int .u64 0, .int .u64 0, .int .u64 0] := by
        unfold allS Sp.cells
        simp only [lm_zero]
        rfl
      rw [e]
      exact twelve_cells rfl
    have hl : j < allS.cells.length := hj
    have h1 := hc j _ (List.getElem?_eq_getElem hl)
    rw [addr0] at h1
    rw [List.getElem?_eq_getElem hl, Nat.zero_mul, Nat.zero_add]
    exact h1⟩, fun i hi => ⟨by decide, by decide⟩⟩, by (repeat first | with_reducible exact Below.refl _ _ | with_reducible assumption | with_reducible refine Below.drew ?_ | with_reducible refine below_alloc ?_ _ | ((with_reducible refine Below.setCell ?_ ?_ _); rotate_left; (focus (first | with_reducible exact Nat.le_refl _ | (simp; done) | (simp; omega) | omega))) | (with_reducible refine below_trans ?_ (by assumption)))⟩
/-- the answer tells whether two rows that may be have the same numbers -/
def SameS (S : Nat → Sp) (n : Nat) (T : Nat → Sp) (m : Nat) (r : Bool) : Prop := r = true ↔ mayR S n = true ∧ mayR T m = true ∧ ∀ z, InS S n z ↔ InS T m z
set_option maxRecDepth 20000 in
set_option maxHeartbeats 1600000 in
/-- **Same.** -/
theorem Same_any (a : Option Addr) (n c : Nat) (S : Nat → Sp) (b : Option Addr) (m d : Nat) (T : Nat → Sp) (w : World) (h1 : SRow w a n c S) (h2 : SRow w b m d T) :
    Calls Tryz.prog 13 #[.slice a n c, .slice b m d] w fun e w' => ∃ r : Bool, e = .returned (.bool r) ∧ SameS S n T m r ∧ Below w.heap.size w w' := by
  have H1 := Lib.hid h1
  have H2 := Lib.hid h2
  obtain ⟨R1, hR1⟩ : ∃ R, R = mayR S n := ⟨_, rfl⟩
  obtain ⟨R2, hR2⟩ : ∃ R, R = mayR T m := ⟨_, rfl⟩
  have M1 := Lib.hid fun wx (hx : SRow wx a n c S) => PMayS_any a n c S wx hx
  have M2 := Lib.hid fun wx (hx : SRow wx b m d T) => PMayS_any b m d T wx hx
  rw [← hR1] at M1
  rw [← hR2] at M2
  have HR := Lib.hid (And.intro hR1 hR2)
  clear h1 h2 hR1 hR2
  go_enter Tryz.func13, Tryz.ntmps13
  cases R1 with
  | false =>
    repeat any_goals (first | (go_at_call 16; with_reducible refine (M1.out _ H1.out).mono ?_; rintro e w1 ⟨rfl, hb1⟩) | go_skip | go_guarded | go_step | go_upon | (dsimp only []))
    exact bodyPost_ret (v := .bool false) (by simp [results, Tryz.results13, go_sem]) rfl ⟨false, rfl, ⟨fun h => (by cases h), fun h => by rw [← HR.out.1] at h; cases h.1⟩, by (repeat first | with_reducible exact Below.refl _ _ | with_reducible assumption | with_reducible refine Below.drew ?_ | with_reducible refine below_alloc ?_ _ | ((with_reducible refine Below.setCell ?_ ?_ _); rotate_left; (focus (first | with_reducible exact Nat.le_refl _ | (simp; done) | (simp; omega) | omega))) | (with_reducible refine below_trans ?_ (by assumption)))⟩
  | true =>
    cases R2 with
    | false =>
      repeat any_goals (first | (go_at_call 16; with_reducible refine (M1.out _ H1.out).mono ?_; rintro e w1 ⟨rfl, hb1⟩) | (go_at_call 16; with_reducible refine (M2.out _ (H2.out.below hb1)).mono ?_; rintro e w2 ⟨rfl, hb2⟩) | go_skip | go_guarded | go_step | go_upon | (dsimp only []))
      exact bodyPost_ret (v := .bool false) (by simp [results, Tryz.results13, go_sem]) rfl ⟨false, rfl, ⟨fun h => (by cases h), fun h => by rw [← HR.out.2] at h; cases h.2.1⟩, by (repeat first | with_reducible exact Below.refl _ _ | with_reducible assumption | with_reducible refine Below.drew ?_ | with_reducible refine below_alloc ?_ _ | ((with_reducible refine Below.setCell ?_ ?_ _); rotate_left; (focus (first | with_reducible exact Nat.le_refl _ | (simp; done) | (simp; omega) | omega))) | (with_reducible refine below_trans ?_ (by assumption)))⟩
    | true =>
      have hn : n ≤ 1000000 := Nat.le_trans (mayR_le HR.out.1.symm) (by omega)
      have hm : m ≤ 1000000 := Nat.le_trans (mayR_le HR.out.2.symm) (by omega)
      repeat any_goals (first | (go_at_call 16; with_reducible refine (M1.out _ H1.out).mono ?_; rintro e w1 ⟨rfl, hb1⟩) | (go_at_call 16; with_reducible refine (M2.out _ (H2.out.below hb1)).mono ?_; rintro e w2 ⟨rfl, hb2⟩) | go_skip | go_guarded | go_step | go_upon | (dsimp only []))
      have hb3 : Below w.heap.size w w2 := hb1.trans (below_weak hb2 hb1.size)
      refine (Norm_any a n c S w2 (H1.out.below hb3) hn).mono ?_
      rintro e w3 ⟨v3, rfl, h3⟩
      obtain ⟨a3, c3, l3, rfl, r3, f3, -, hb4⟩ := h3.row
      dsimp only []
      have hb5 : Below w.heap.size w w3 := hb3.trans (below_weak hb4 hb3.size)
      repeat any_goals (first | go_skip | go_guarded | go_step | go_upon | (simp only []; done))
      refine (Norm_any b m d T w3 (H2.out.below hb5) hm).mono ?_
      rintro e w4 ⟨v4, rfl, h4⟩
      obtain ⟨a4, c4, l4, rfl, r4, f4, -, hb6⟩ := h4.row
      dsimp only []
      have hb7 : Below w.heap.size w w4 := hb5.trans (below_weak hb6 hb5.size)
      repeat any_goals (first | go_skip | go_guarded | go_step | go_upon | (simp only []; done))
      refine (EqualS_any a3 _ c3 _ a4 _ c4 _ w4 (r3.below hb6) r4).mono ?_
      rintro e w5 ⟨r, rfl, h5, hb8⟩
      dsimp only []
      have HO := Lib.hid (show SameS S n T m r from by
        unfold SameS
        refine h5.trans ⟨fun h => ⟨HR.out.1.symm, HR.out.2.symm, fun z => ?_⟩, fun h => ?_⟩
        · have e1 := rows_same h
          subst e1
          have := (f3.mem z).symm.trans (f4.mem z)
          exact ⟨fun hz => (this.1 ⟨HR.out.1.symm, hz⟩).2, fun hz => (this.2 ⟨HR.out.2.symm, hz⟩).2⟩
        · have e1 : l3 = l4 := f3.unique f4 fun z => and_congr ⟨fun _ => HR.out.2.symm, fun _ => HR.out.1.symm⟩ (h.2.2 z)
          subst e1
          exact ⟨rfl, fun _ _ => rfl⟩)
      have hb9 : Below w.heap.size w w5 := hb7.trans (below_weak hb8 hb7.size)
      cases r with
      | false =>
        repeat any_goals (first | go_skip | go_guarded | go_step | go_upon | (simp only []; done))
        exact bodyPost_ret (v := .bool false) (by simp [results, Tryz.results13, go_sem]) rfl ⟨false, rfl, HO.out, by (repeat first | with_reducible exact Below.refl _ _ | with_reducible assumption | with_reducible refine Below.drew ?_ | with_reducible refine below_alloc ?_ _ | ((with_reducible refine Below.setCell ?_ ?_ _); rotate_left; (focus (first | with_reducible exact Nat.le_refl _ | (simp; done) | (simp; omega) | omega))) | (with_reducible refine below_trans ?_ (by assumption)))⟩
      | true =>
        repeat any_goals (first | go_skip | go_guarded | go_step | go_upon | (simp only []; done))
        exact bodyPost_ret (v := .bool true) (by simp [results, Tryz.results13, go_sem]) rfl ⟨true, rfl, HO.out, by (repeat first | with_reducible exact Below.refl _ _ | with_reducible assumption | with_reducible refine Below.drew ?_ | with_reducible refine below_alloc ?_ _ | ((with_reducible refine Below.setCell ?_ ?_ _); rotate_left; (focus (first | with_reducible exact Nat.le_refl _ | (simp; done) | (simp; omega) | omega))) | (with_reducible refine below_trans ?_ (by assumption)))⟩
end Go.Proofs.YtekeedjhaakbhaaGreatDoor
