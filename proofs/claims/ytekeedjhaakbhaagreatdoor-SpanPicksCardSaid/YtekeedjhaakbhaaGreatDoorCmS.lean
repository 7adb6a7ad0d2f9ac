/- Contracts with more of the world behind a call: blocks laid, draws done, nothing else. IBOX · slices.SortFunc over closed intervals, by their first ends. -/
import Derived.Test.YtekeedjhaakbhaaGreatDoorWh9
import Derived.Sort.Grow
import Derived.Test.YtekeedjhaakbhaaGreatDoorSortL
import Derived.Test.YtekeedjhaakbhaaGreatDoorSpanMP
namespace Go.Proofs.YtekeedjhaakbhaaGreatDoor
open Go.RowKit Go.Sort
/-- blocks laid, draws done -/
abbrev Up (w w' : World) : Prop := Below w.heap.size w w' ∧ w.drawn ≤ w'.drawn
theorem drn_drew {n : Nat} {w : World} (h : n ≤ w.drawn) : n ≤ w.drew.drawn := Nat.le_succ_of_le h
theorem drn_alloc {n : Nat} {w : World} {o : Obj} (h : n ≤ w.drawn) : n ≤ (w.alloc o).drawn := h
theorem up_grow {w w' : World} (h : Up w w') : ∃ q os, w' = grow (w.drewN q) os := by
  obtain ⟨⟨h1, h2, h3, h4, h5⟩, h6⟩ := h
  refine ⟨w'.drawn - w.drawn, w'.heap.extract w.heap.size w'.heap.size, ?_⟩
  obtain ⟨heap', tape', drawn', os', output'⟩ := w'
  simp only at h1 h2 h3 h4 h5 h6
  subst h1 h2 h3
  have e1 : w.drawn + (drawn' - w.drawn) = drawn' := by omega
  have e2 : w.heap ++ heap'.extract w.heap.size heap'.size = heap' := by
    apply Array.ext_getElem?
    intro i
    by_cases c : i < w.heap.size
    · rw [Array.getElem?_append_left c, h5 i c]
    · rw [Array.getElem?_append_right (by omega), Array.getElem?_extract]
      split
      · rw [show w.heap.size + (i - w.heap.size) = i by omega]
      · rename_i hn
        rw [Array.getElem?_eq_none (by omega)]
  simp only [grow, World.drewN, e1, e2]
set_option maxRecDepth 20000 in
set_option maxHeartbeats 400000 in
theorem May_up (neg : Bool) (V : Nat) (hV : V < 2 ^ 256) (w : World) :
    Calls Tryz.prog 23 #[.agg #[.bool (neg ), .int .u64 (lm ( V) 0 : Nat), .int .u64 (lm ( V) 1 : Nat), .int .u64 (lm ( V) 2 : Nat), .int .u64 (lm ( V) 3 : Nat)]] w fun e w' => e = .returned (.bool (mayI neg V)) ∧ Up w w' := by
  have HN := Lib.hid (lm_nz hV)
  cases neg with
  | false =>
    have HM := Lib.hid (show mayI false V = true by unfold mayI; rfl)
    go_enter Tryz.func23, Tryz.ntmps23
    repeat any_goals (first | go_skip | go_guarded | go_step | go_upon | (simp only []; done))
    go_ret
    exact ⟨by simp [HM.out], ⟨by (repeat first | with_reducible exact Below.refl _ _ | with_reducible assumption | with_reducible refine Below.drew ?_ | with_reducible refine below_alloc ?_ _ | ((with_reducible refine Below.setCell ?_ ?_ _); rotate_left; (focus (first | with_reducible exact Nat.le_refl _ | (simp; done) | (simp; omega) | omega))) | (with_reducible refine below_trans ?_ (by assumption))), (by (repeat first | with_reducible exact Nat.le_refl _ | with_reducible assumption | with_reducible refine drn_drew ?_ | with_reducible refine drn_alloc ?_ | with_reducible refine Nat.le_trans ?_ (by assumption)))⟩⟩
  | true =>
    have HM := Lib.hid (show mayI true V = (V != 0) by unfold mayI; rfl)
    go_enter Tryz.func23, Tryz.ntmps23
    repeat any_goals (first | go_skip | go_guarded | go_step | go_upon | (simp only []; done))
    go_ret
    exact ⟨by rw [HM.out, ← HN.out]; simp, ⟨by (repeat first | with_reducible exact Below.refl _ _ | with_reducible assumption | with_reducible refine Below.drew ?_ | with_reducible refine below_alloc ?_ _ | ((with_reducible refine Below.setCell ?_ ?_ _); rotate_left; (focus (first | with_reducible exact Nat.le_refl _ | (simp; done) | (simp; omega) | omega))) | (with_reducible refine below_trans ?_ (by assumption))), (by (repeat first | with_reducible exact Nat.le_refl _ | with_reducible assumption | with_reducible refine drn_drew ?_ | with_reducible refine drn_alloc ?_ | with_reducible refine Nat.le_trans ?_ (by assumption)))⟩⟩
structure CmpU (w wr : World) (A B : Nat) : Prop where
  a : ∀ j, j < 4 → wr.cell? ⟨w.heap.size, j, none⟩ = some (.int .u64 (lm A j : Nat))
  c : ∀ j, j < 4 → wr.cell? ⟨w.heap.size + 1, j, none⟩ = some (.int .u64 (lm B j : Nat))
  b : Below w.heap.size w wr
  d : w.drawn ≤ wr.drawn
theorem cmpU_new {w : World} {A B : Nat} {t t2 : TypeId} : CmpU w ((w.alloc (.cells #[.int .u64 (lm A 0 : Nat), .int .u64 (lm A 1 : Nat), .int .u64 (lm A 2 : Nat), .int .u64 (lm A 3 : Nat)] t)).alloc (.cells #[.int .u64 (lm B 0 : Nat), .int .u64 (lm B 1 : Nat), .int .u64 (lm B 2 : Nat), .int .u64 (lm B 3 : Nat)] t2)) A B := by
  refine ⟨?_, ?_, ?_, ?_⟩
  · intro j hj
    match j, hj with
    | 0, _ => simp [go_sem]
    | 1, _ => simp [go_sem]
    | 2, _ => simp [go_sem]
    | 3, _ => simp [go_sem]
  · intro j hj
    match j, hj with
    | 0, _ => simp [go_sem]
    | 1, _ => simp [go_sem]
    | 2, _ => simp [go_sem]
    | 3, _ => simp [go_sem]
  · (repeat first | with_reducible exact Below.refl _ _ | with_reducible assumption | with_reducible refine Below.drew ?_ | with_reducible refine below_alloc ?_ _ | ((with_reducible refine Below.setCell ?_ ?_ _); rotate_left; (focus (first | with_reducible exact Nat.le_refl _ | (simp; done) | (simp; omega) | omega))) | (with_reducible refine below_trans ?_ (by assumption)))
  · exact drn_alloc (drn_alloc (Nat.le_refl _))
theorem CmpU.drew {w wr : World} {A B : Nat} (h : CmpU w wr A B) : CmpU w wr.drew A B := ⟨h.a, h.c, h.b.drew, Nat.le_succ_of_le h.d⟩
set_option maxRecDepth 20000 in
set_option maxHeartbeats 1600000 in
/-- **Cmp.** -/
theorem CmpN_up (A B : Nat) (hA : A < 2 ^ 256) (hB : B < 2 ^ 256) (w : World) :
    Calls Tryz.prog 37 #[.agg #[.int .u64 (lm (A) 0 : Nat), .int .u64 (lm (A) 1 : Nat), .int .u64 (lm (A) 2 : Nat), .int .u64 (lm (A) 3 : Nat)], .agg #[.int .u64 (lm (B) 0 : Nat), .int .u64 (lm (B) 1 : Nat), .int .u64 (lm (B) 2 : Nat), .int .u64 (lm (B) 3 : Nat)]] w fun e w' => e = .returned (.int .i64 (cmpV A B)) ∧ Up w w' := by
  have HK := Lib.hid (And.intro hA hB)
  obtain ⟨V, hV⟩ : ∃ V, V = cmpV A B := ⟨_, rfl⟩
  rw [← hV]
  have HV := Lib.hid hV
  clear hA hB hV
  go_enter Tryz.func37, Tryz.ntmps37
  repeat any_goals (first | go_skip | go_guarded | go_step | go_upon | (simp only []; done))
  go_loopw [5] (fun i wr => ∃ m : Nat, m ≤ 4 ∧ i = .int .i64 ((m : Int) - 1) ∧ A / 2 ^ (64 * m) = B / 2 ^ (64 * m) ∧ CmpU w wr A B) (fun i _ => (intOf i + 1).toNat)
  case atStart =>
    refine ⟨4, by omega, rfl, ?_, cmpU_new⟩
    rw [Nat.div_eq_of_lt HK.out.1, Nat.div_eq_of_lt HK.out.2]
  case round =>
    obtain ⟨m, hm, rfl, ht, I⟩ := hrel
    have TH := Lib.hid (And.intro ht I)
    clear I ht
    by_cases c0 : m = 0
    · subst c0
      have e := cmp_same TH.out.1
      rw [← HV.out] at e
      subst e
      have hW : Up w wr := ⟨TH.out.2.b, TH.out.2.d⟩
      repeat any_goals (first | go_skip | go_guarded | go_step | go_upon | (simp only []; done))
      exact bodyPost_ret (v := .int .i64 0) (by simp [results, Tryz.results37, go_sem]) rfl ⟨rfl, hW⟩
    · obtain ⟨i, rfl⟩ : ∃ i, m = i + 1 := ⟨m - 1, by omega⟩
      have i4 : i < 4 := by omega
      rw [show ((i + 1 : Nat) : Int) - 1 = (i : Int) from by omega]
      have ca := TH.out.2.a i i4
      have cb := TH.out.2.c i i4
      obtain ⟨x, hx⟩ : ∃ x, x = lm A i := ⟨_, rfl⟩
      obtain ⟨y, hy⟩ : ∃ x, x = lm B i := ⟨_, rfl⟩
      rw [← hx] at ca
      rw [← hy] at cb
      have i1 : (i : Int) < 4 := by omega
      have i2 : (0 : Int) ≤ (i : Int) := by omega
      have i5 : (i : Int).toNat = i := rfl
      have G := Lib.hid (And.intro hx hy)
      have hW : Up w wr := ⟨TH.out.2.b, TH.out.2.d⟩
      have hW1 : Up w wr.drew := ⟨hW.1.drew, Nat.le_succ_of_le hW.2⟩
      have hW2 : Up w wr.drew.drew := ⟨hW1.1.drew, Nat.le_succ_of_le hW1.2⟩
      clear hx hy c0 hm i4
      by_cases c1 : x < y
      · have c1i : (x : Int) < (y : Int) := by omega
        have e := cmp_lt TH.out.1 (by rw [← G.out.1, ← G.out.2]; exact c1)
        rw [← HV.out] at e
        subst e
        repeat any_goals (first | go_skip | go_guarded | go_step | go_upon | (simp only []; done))
        go_region
        repeat any_goals (first | go_skip | go_guarded | go_step | go_upon | (simp only []; done))
        exact bodyPost_ret (v := .int .i64 (-1)) (by simp [results, Tryz.results37, go_sem]) rfl ⟨rfl, hW1⟩
      · by_cases c2 : y < x
        · have c1i : ¬ (x : Int) < (y : Int) := by omega
          have c2i : (y : Int) < (x : Int) := by omega
          have e := cmp_gt TH.out.1 (by rw [← G.out.1, ← G.out.2]; exact c2)
          rw [← HV.out] at e
          subst e
          repeat any_goals (first | go_skip | go_guarded | go_step | go_upon | (simp only []; done))
          go_region
          repeat any_goals (first | go_skip | go_guarded | go_step | go_upon | (simp only []; done))
          go_region
          repeat any_goals (first | go_skip | go_guarded | go_step | go_upon | (simp only []; done))
          exact bodyPost_ret (v := .int .i64 1) (by simp [results, Tryz.results37, go_sem]) rfl ⟨rfl, hW2⟩
        · have c1i : ¬ (x : Int) < (y : Int) := by omega
          have c2i : ¬ (y : Int) < (x : Int) := by omega
          have e : A / 2 ^ (64 * i) = B / 2 ^ (64 * i) := by
            rw [top_limb A, top_limb B, TH.out.1, ← G.out.1, ← G.out.2, show x = y from by omega]
          have E := Lib.hid e
          clear e c1 c2
          repeat any_goals (first | go_skip | go_guarded | go_step | go_upon | (simp only []; done))
          go_region
          repeat any_goals (first | go_skip | go_guarded | go_step | go_upon | (simp only []; done))
          go_region
          repeat any_goals (first | go_skip | go_guarded | go_step | go_upon | (simp only []; done))
          go_roundw
          case rel => exact ⟨i, by omega, by go_num, E.out, TH.out.2.drew.drew⟩
          case measure => simp [intOf]
structure CmU (n : Bool) (V : Nat) (m : Bool) (U : Nat) (p q : Bool) (x y : Int) : Prop where
  c1 : ∀ w : World, Calls Tryz.prog 23 #[.agg #[.bool (n ), .int .u64 (lm ( V) 0 : Nat), .int .u64 (lm ( V) 1 : Nat), .int .u64 (lm ( V) 2 : Nat), .int .u64 (lm ( V) 3 : Nat)]] w fun e w' => e = .returned (.bool p) ∧ Up w w'
  c2 : ∀ w : World, Calls Tryz.prog 23 #[.agg #[.bool (m ), .int .u64 (lm ( U) 0 : Nat), .int .u64 (lm ( U) 1 : Nat), .int .u64 (lm ( U) 2 : Nat), .int .u64 (lm ( U) 3 : Nat)]] w fun e w' => e = .returned (.bool q) ∧ Up w w'
  c3 : ∀ w : World, Calls Tryz.prog 37 #[.agg #[.int .u64 (lm (U) 0 : Nat), .int .u64 (lm (U) 1 : Nat), .int .u64 (lm (U) 2 : Nat), .int .u64 (lm (U) 3 : Nat)], .agg #[.int .u64 (lm (V) 0 : Nat), .int .u64 (lm (V) 1 : Nat), .int .u64 (lm (V) 2 : Nat), .int .u64 (lm (V) 3 : Nat)]] w fun e w' => e = .returned (.int .i64 y) ∧ Up w w'
  c4 : ∀ w : World, Calls Tryz.prog 37 #[.agg #[.int .u64 (lm (V) 0 : Nat), .int .u64 (lm (V) 1 : Nat), .int .u64 (lm (V) 2 : Nat), .int .u64 (lm (V) 3 : Nat)], .agg #[.int .u64 (lm (U) 0 : Nat), .int .u64 (lm (U) 1 : Nat), .int .u64 (lm (U) 2 : Nat), .int .u64 (lm (U) 3 : Nat)]] w fun e w' => e = .returned (.int .i64 x) ∧ Up w w'
set_option maxRecDepth 20000 in
set_option maxHeartbeats 1600000 in
theorem Cmp_walkU (n : Bool) (V : Nat) (m : Bool) (U : Nat) (p q : Bool) (x y z : Int) (w : World) (C : Hid (CmU n V m U p q x y))
    (h : p = false ∧ z = 0 ∨ p = true ∧ q = false ∧ z = 0 ∨ p = true ∧ q = true ∧ (n = true ∧ m = true ∧ z = y ∨ n = true ∧ m = false ∧ z = -1 ∨ n = false ∧ m = true ∧ z = 1 ∨ n = false ∧ m = false ∧ z = x)) :
    Calls Tryz.prog 27 #[.agg #[.bool (n ), .int .u64 (lm ( V) 0 : Nat), .int .u64 (lm ( V) 1 : Nat), .int .u64 (lm ( V) 2 : Nat), .int .u64 (lm ( V) 3 : Nat)], .agg #[.bool (m ), .int .u64 (lm ( U) 0 : Nat), .int .u64 (lm ( U) 1 : Nat), .int .u64 (lm ( U) 2 : Nat), .int .u64 (lm ( U) 3 : Nat)]] w fun e w' => e = .returned (.int .i64 z) ∧ Up w w' := by
  rcases h with ⟨rfl, rfl⟩ | ⟨rfl, rfl, rfl⟩ | ⟨rfl, rfl, ⟨rfl, rfl, rfl⟩ | ⟨rfl, rfl, rfl⟩ | ⟨rfl, rfl, rfl⟩ | ⟨rfl, rfl, rfl⟩⟩
  all_goals (
    go_enter Tryz.func27, Tryz.ntmps27
    repeat any_goals (first | (go_at_call 23; with_reducible refine (C.out.c1 _).mono ?_; rintro e w1 ⟨rfl, hb1, hd1⟩; have a1 := Lib.hid (ibox_hb2 hb1); obtain ⟨_, _, _, _, _⟩ := a1.out.all; have b1 := Lib.hid (ibox_hbB hb1); obtain ⟨_, _, _, _, _⟩ := b1.out.all) | (go_at_call 23; with_reducible refine (C.out.c2 _).mono ?_; rintro e w2 ⟨rfl, hb2, hd2⟩; have a2 := Lib.hid (a1.out.below hb2); obtain ⟨_, _, _, _, _⟩ := a2.out.all; have b2 := Lib.hid (b1.out.below hb2); obtain ⟨_, _, _, _, _⟩ := b2.out.all) | (go_at_call 37; with_reducible refine (C.out.c3 _).mono ?_; rintro e w3 ⟨rfl, hb3, hd3⟩) | (go_at_call 37; with_reducible refine (C.out.c4 _).mono ?_; rintro e w3 ⟨rfl, hb3, hd3⟩) | go_skip | go_guarded | go_step | go_upon | (dsimp only []))
    go_ret
    exact ⟨by simp, ⟨by (repeat first | with_reducible exact Below.refl _ _ | with_reducible assumption | with_reducible refine Below.drew ?_ | with_reducible refine below_alloc ?_ _ | ((with_reducible refine Below.setCell ?_ ?_ _); rotate_left; (focus (first | with_reducible exact Nat.le_refl _ | (simp; done) | (simp; omega) | omega))) | (with_reducible refine below_trans ?_ (by assumption))), (by (repeat first | with_reducible exact Nat.le_refl _ | with_reducible assumption | with_reducible refine drn_drew ?_ | with_reducible refine drn_alloc ?_ | with_reducible refine Nat.le_trans ?_ (by assumption)))⟩⟩)
/-- **Cmp.** -/
theorem Cmp_up (n : Bool) (V : Nat) (hV : V < 2 ^ 256) (m : Bool) (U : Nat) (hU : U < 2 ^ 256) (w : World) :
    Calls Tryz.prog 27 #[.agg #[.bool (n ), .int .u64 (lm ( V) 0 : Nat), .int .u64 (lm ( V) 1 : Nat), .int .u64 (lm ( V) 2 : Nat), .int .u64 (lm ( V) 3 : Nat)], .agg #[.bool (m ), .int .u64 (lm ( U) 0 : Nat), .int .u64 (lm ( U) 1 : Nat), .int .u64 (lm ( U) 2 : Nat), .int .u64 (lm ( U) 3 : Nat)]] w fun e w' => e = .returned (.int .i64 (cmpI n V m U)) ∧ Up w w' := by
  refine Cmp_walkU n V m U _ _ _ _ _ w (Lib.hid (CmU.mk (May_up n V hV) (May_up m U hU) (CmpN_up U V hU hV) (CmpN_up V U hV hU))) ?_
  unfold cmpI
  cases hm : mayI n V with
  | false => exact .inl ⟨rfl, rfl⟩
  | true =>
    right
    cases hm2 : mayI m U with
    | false => exact .inl ⟨rfl, rfl, rfl⟩
    | true =>
      refine .inr ⟨rfl, rfl, ?_⟩
      simp only [Bool.and_self, if_true]
      cases n with
      | true =>
        have hp := may_true.1 hm
        cases m with
        | true => exact .inl ⟨rfl, rfl, by rw [zI_true, zI_true, cmpZ_neg]⟩
        | false =>
          refine .inr (.inl ⟨rfl, rfl, ?_⟩)
          unfold cmpZ
          rw [if_pos (by rw [zI_true, zI_false]; omega)]
      | false =>
        cases m with
        | true =>
          have hp := may_true.1 hm2
          refine .inr (.inr (.inl ⟨rfl, rfl, ?_⟩))
          unfold cmpZ
          rw [if_neg (by rw [zI_true, zI_false]; omega), if_neg (by rw [zI_true, zI_false]; omega)]
        | false => exact .inr (.inr (.inr ⟨rfl, rfl, by rw [zI_false, zI_false, cmpZ_nn]⟩))
end Go.Proofs.YtekeedjhaakbhaaGreatDoor

namespace Go.Proofs.YtekeedjhaakbhaaGreatDoor
open Go.RowKit Go.Sort Go.Shelf
/-- a closed interval of numbers that may be -/
structure Cl where
  lo : Int
  hi : Int
  hl : lo.natAbs < 2 ^ 256
  hh : hi.natAbs < 2 ^ 256
instance : Inhabited Cl := ⟨⟨0, 0, by decide, by decide⟩⟩
def Cl.iv (c : Cl) : Iv := (c.lo, c.hi)
def Cl.enc (c : Cl) : List Value := [.bool (sg c.lo), .int .u64 (lm (ab c.lo) 0 : Nat), .int .u64 (lm (ab c.lo) 1 : Nat), .int .u64 (lm (ab c.lo) 2 : Nat), .int .u64 (lm (ab c.lo) 3 : Nat), .bool (sg c.hi), .int .u64 (lm (ab c.hi) 0 : Nat), .int .u64 (lm (ab c.hi) 1 : Nat), .int .u64 (lm (ab c.hi) 2 : Nat), .int .u64 (lm (ab c.hi) 3 : Nat)]
theorem mayI_sg (z : Int) : mayI (sg z) (ab z) = true := by
  unfold mayI sg ab
  by_cases h : z < 0
  · rw [decide_eq_true h]
    have : z.natAbs ≠ 0 := by omega
    simp [this]
  · rw [decide_eq_false h]
    rfl
theorem zI_sg (z : Int) : zI (sg z) (ab z) = z := by
  unfold zI sg ab
  by_cases h : z < 0
  · rw [decide_eq_true h, if_pos rfl]; omega
  · rw [decide_eq_false h, if_neg Bool.false_ne_true]; omega
theorem cmpI_sg (x y : Int) : cmpI (sg x) (ab x) (sg y) (ab y) = cmpZ x y := by
  unfold cmpI
  rw [mayI_sg, mayI_sg, zI_sg, zI_sg]
  rfl
theorem closure_walk (n1 n2 m1 m2 : Bool) (V1 V2 U1 U2 : Nat) (z : Int) (w : World) (C : Hid (∀ wr : World, Calls Tryz.prog 27 #[.agg #[.bool (n1 ), .int .u64 (lm ( V1) 0 : Nat), .int .u64 (lm ( V1) 1 : Nat), .int .u64 (lm ( V1) 2 : Nat), .int .u64 (lm ( V1) 3 : Nat)], .agg #[.bool (m1 ), .int .u64 (lm ( U1) 0 : Nat), .int .u64 (lm ( U1) 1 : Nat), .int .u64 (lm ( U1) 2 : Nat), .int .u64 (lm ( U1) 3 : Nat)]] wr fun e w' => e = .returned (.int .i64 z) ∧ Up wr w')) :
    Calls Tryz.prog 56 #[.agg #[.bool n1, .int .u64 (lm V1 0 : Nat), .int .u64 (lm V1 1 : Nat), .int .u64 (lm V1 2 : Nat), .int .u64 (lm V1 3 : Nat), .bool n2, .int .u64 (lm V2 0 : Nat), .int .u64 (lm V2 1 : Nat), .int .u64 (lm V2 2 : Nat), .int .u64 (lm V2 3 : Nat)], .agg #[.bool m1, .int .u64 (lm U1 0 : Nat), .int .u64 (lm U1 1 : Nat), .int .u64 (lm U1 2 : Nat), .int .u64 (lm U1 3 : Nat), .bool m2, .int .u64 (lm U2 0 : Nat), .int .u64 (lm U2 1 : Nat), .int .u64 (lm U2 2 : Nat), .int .u64 (lm U2 3 : Nat)]] w fun e w' => e = .returned (.int .i64 z) ∧ Up w w' := by
  go_enter Tryz.func56, Tryz.ntmps56
  repeat any_goals (first | (go_at_call 27; with_reducible refine (C.out _).mono ?_; rintro e w1 ⟨rfl, hb1, hd1⟩) | go_skip | go_guarded | go_step | go_upon | (dsimp only []))
  exact bodyPost_ret (v := .int .i64 z) (by simp [results, Tryz.results56, go_sem]) rfl ⟨rfl, by (repeat first | with_reducible exact Below.refl _ _ | with_reducible assumption | with_reducible refine Below.drew ?_ | with_reducible refine below_alloc ?_ _ | ((with_reducible refine Below.setCell ?_ ?_ _); rotate_left; (focus (first | with_reducible exact Nat.le_refl _ | (simp; done) | (simp; omega) | omega))) | (with_reducible refine below_trans ?_ (by assumption))), Nat.le_trans (drn_alloc (drn_alloc (Nat.le_refl _))) hd1⟩
theorem closure2_walk (n1 n2 m1 m2 : Bool) (V1 V2 U1 U2 : Nat) (z : Int) (w : World) (C : Hid (∀ wr : World, Calls Tryz.prog 27 #[.agg #[.bool (n1 ), .int .u64 (lm ( V1) 0 : Nat), .int .u64 (lm ( V1) 1 : Nat), .int .u64 (lm ( V1) 2 : Nat), .int .u64 (lm ( V1) 3 : Nat)], .agg #[.bool (m1 ), .int .u64 (lm ( U1) 0 : Nat), .int .u64 (lm ( U1) 1 : Nat), .int .u64 (lm ( U1) 2 : Nat), .int .u64 (lm ( U1) 3 : Nat)]] wr fun e w' => e = .returned (.int .i64 z) ∧ Up wr w')) :
    Calls Tryz.prog 60 #[.agg #[.bool n1, .int .u64 (lm V1 0 : Nat), .int .u64 (lm V1 1 : Nat), .int .u64 (lm V1 2 : Nat), .int .u64 (lm V1 3 : Nat), .bool n2, .int .u64 (lm V2 0 : Nat), .int .u64 (lm V2 1 : Nat), .int .u64 (lm V2 2 : Nat), .int .u64 (lm V2 3 : Nat)], .agg #[.bool m1, .int .u64 (lm U1 0 : Nat), .int .u64 (lm U1 1 : Nat), .int .u64 (lm U1 2 : Nat), .int .u64 (lm U1 3 : Nat), .bool m2, .int .u64 (lm U2 0 : Nat), .int .u64 (lm U2 1 : Nat), .int .u64 (lm U2 2 : Nat), .int .u64 (lm U2 3 : Nat)]] w fun e w' => e = .returned (.int .i64 z) ∧ Up w w' := by
  go_enter Tryz.func60, Tryz.ntmps60
  repeat any_goals (first | (go_at_call 27; with_reducible refine (C.out _).mono ?_; rintro e w1 ⟨rfl, hb1, hd1⟩) | go_skip | go_guarded | go_step | go_upon | (dsimp only []))
  exact bodyPost_ret (v := .int .i64 z) (by simp [results, Tryz.results60, go_sem]) rfl ⟨rfl, by (repeat first | with_reducible exact Below.refl _ _ | with_reducible assumption | with_reducible refine Below.drew ?_ | with_reducible refine below_alloc ?_ _ | ((with_reducible refine Below.setCell ?_ ?_ _); rotate_left; (focus (first | with_reducible exact Nat.le_refl _ | (simp; done) | (simp; omega) | omega))) | (with_reducible refine below_trans ?_ (by assumption))), Nat.le_trans (drn_alloc (drn_alloc (Nat.le_refl _))) hd1⟩
def cfC (x y : Cl) : Int := cmpZ x.lo y.lo
theorem ltC (x y : Cl) : ltOf cfC x y = decide (x.lo < y.lo) := by
  unfold ltOf cfC cmpZ
  by_cases h1 : x.lo < y.lo
  · simp [h1]
  · by_cases h2 : x.lo = y.lo <;> simp [h1, h2]
theorem swoC : SWO (ltOf cfC) where
  irrefl x := by rw [ltC]; simp
  trans x y z h1 h2 := by rw [ltC] at *; simp at *; omega
  ntrans x y z h1 h2 := by rw [ltC] at *; simp at *; omega
theorem cmpLays1 (blk off size : Nat) (w : World) : CmpLays Tryz.prog 56 #[] Cl.enc 10 cfC blk off size w :=
  fun _ _ _ _ x y => (closure_walk (sg x.lo) (sg x.hi) (sg y.lo) (sg y.hi) (ab x.lo) (ab x.hi) (ab y.lo) (ab y.hi) (cmpZ x.lo y.lo) _ (Lib.hid fun wr => by
    have h := Cmp_up (sg x.lo) (ab x.lo) x.hl (sg y.lo) (ab y.lo) y.hl wr
    rwa [cmpI_sg] at h)).mono fun _ _ ⟨he, hu⟩ => ⟨he, up_grow hu⟩
theorem cmpLays2 (blk off size : Nat) (w : World) : CmpLays Tryz.prog 60 #[] Cl.enc 10 cfC blk off size w :=
  fun _ _ _ _ x y => (closure2_walk (sg x.lo) (sg x.hi) (sg y.lo) (sg y.hi) (ab x.lo) (ab x.hi) (ab y.lo) (ab y.hi) (cmpZ x.lo y.lo) _ (Lib.hid fun wr => by
    have h := Cmp_up (sg x.lo) (ab x.lo) x.hl (sg y.lo) (ab y.lo) y.hl wr
    rwa [cmpI_sg] at h)).mono fun _ _ ⟨he, hu⟩ => ⟨he, up_grow hu⟩
theorem enc_one (x : Cl) : ∀ v ∈ x.enc, v.oneCell' = true := by
  intro v hv
  simp only [Cl.enc, List.mem_cons, List.not_mem_nil, or_false] at hv
  rcases hv with rfl | rfl | rfl | rfl | rfl | rfl | rfl | rfl | rfl | rfl <;> rfl
theorem isAggC : ∀ w, (isAgg 51).run Tryz.prog w = .ok true w := fun w => by
  have h := Tryz.underlying51
  simp [isAgg, run_underlying h]
theorem sizeC : ∀ w, (Go.sizeOf 51).run Tryz.prog w = .ok 10 w := fun w => by
  have h : (Tryz.prog.info? 51).map (fun i => i.size) = some 10 := by kernel_rfl
  obtain ⟨i, hi, hs⟩ := Option.map_eq_some_iff.1 h
  simp [Go.sizeOf, typeInfo, hi, hs]
theorem sort_any (blk off cap : Nat) (d : Array Cl) (w : World) (hH : HoldsK Cl.enc 10 w blk off d) (hblk : blk < w.heap.size) (hsz : d.size < 4611686018427387904) :
    Calls Tryz.prog 55 #[.slice (some ⟨blk, off, none⟩) d.size cap, .func (.func 56) #[] #[]] w fun e w' => e = .returned (.tuple #[]) ∧ ∃ d' n os, PermIn 0 d.size d d' ∧ SortedIn (ltOf cfC) 0 d.size d' ∧ w' = sortWorldK Cl.enc 10 w blk off n d' os :=
  AnyQ.slices_SortFunc Tryz.sortCl 10 isAggC sizeC Cl.enc (fun _ => rfl) enc_one cfC swoC 56 #[] blk off cap d w (enters_of Tryz.func56 (by kernel_rfl) rfl) (cmpLays1 blk off d.size w) hH hblk hsz
theorem sort2_any (blk off cap : Nat) (d : Array Cl) (w : World) (hH : HoldsK Cl.enc 10 w blk off d) (hblk : blk < w.heap.size) (hsz : d.size < 4611686018427387904) :
    Calls Tryz.prog 55 #[.slice (some ⟨blk, off, none⟩) d.size cap, .func (.func 60) #[] #[]] w fun e w' => e = .returned (.tuple #[]) ∧ ∃ d' n os, PermIn 0 d.size d d' ∧ SortedIn (ltOf cfC) 0 d.size d' ∧ w' = sortWorldK Cl.enc 10 w blk off n d' os :=
  AnyQ.slices_SortFunc Tryz.sortCl 10 isAggC sizeC Cl.enc (fun _ => rfl) enc_one cfC swoC 60 #[] blk off cap d w (enters_of Tryz.func60 (by kernel_rfl) rfl) (cmpLays2 blk off d.size w) hH hblk hsz
end Go.Proofs.YtekeedjhaakbhaaGreatDoor
