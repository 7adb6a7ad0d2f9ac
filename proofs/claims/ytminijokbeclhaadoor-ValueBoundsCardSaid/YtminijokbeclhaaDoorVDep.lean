/- Contracts: Depth, Nodes of a value, the program's and the document's. -/
import Derived.Test.YtminijokbeclhaaDoorVT
import Derived.LoopN
namespace Go.Proofs.YtminijokbeclhaaDoor
open Go.RowKit
theorem Depth_any : ∀ (T : VT) (w : World), T.In w → T.nodes < 4611686018427387904 →
    Calls Tryd.prog 18 #[T.agg] w fun e w' => e = .returned (.int .i64 (T.depth : Nat)) ∧ Below w.heap.size w w' := by
  intro T
  induction T with
  | nil => exact fun w h => h.elim
  | mk kind neg V bits text aL nL cL kids aK nK cK keys ih =>
    intro w hin hN
    obtain ⟨o, hL, hk, -⟩ := hin
    simp only [VT.agg, VT.cells]
    obtain ⟨D, hD⟩ : ∃ D : Nat → Nat, D = fun n => maxN (fun i => (kids i).depth) n := ⟨_, rfl⟩
    have hDB : D nL < 4611686018427387904 := by
      rw [hD]
      exact Nat.lt_of_le_of_lt (maxN_sumN (fun i => VT.depth_nodes (kids i)) nL) (VT.nodes_sum hN (Nat.le_refl _))
    have HL := Lib.hid hL
    have HK := Lib.hid hk
    have HD := Lib.hid hD
    have HB := Lib.hid hDB
    have IH := Lib.hid ih
    have hcL := o.lc
    have hlL := o.l
    clear hL hk hD hDB ih
    simp only [maxLen] at hcL
    go_enter Tryd.func18, Tryd.ntmps18
    repeat any_goals (first | go_skip | go_guarded | go_step | go_upon | (simp only []; done))
    go_loopw [3, 9] (fun n i wr => ∃ k : Nat, k ≤ nL ∧ i = .int .i64 k ∧ n = .int .i64 (D k : Nat) ∧ wr.cell? ⟨w.heap.size, 8, none⟩ = some (.slice aL nL cL) ∧ Below w.heap.size w wr) (fun _ i _ => nL - (intOf i).toNat)
    case atStart =>
      refine ⟨0, Nat.zero_le _, rfl, by rw [HD.out]; rfl, by simp [go_sem], by (repeat first | with_reducible exact Below.refl _ _ | with_reducible assumption | with_reducible refine Below.drew ?_ | with_reducible refine below_alloc ?_ _ | ((with_reducible refine Below.setCell ?_ ?_ _); rotate_left; (focus (first | with_reducible exact Nat.le_refl _ | (simp; done) | (simp; omega) | omega))) | (with_reducible refine below_trans ?_ (by assumption)))⟩
    case round =>
      obtain ⟨k, hk, rfl, rfl, h8, hW⟩ := hrel
      by_cases hkn : k < nL
      · obtain ⟨b, off, kind', neg', V', bits', text', aL', nL', cL', kids', aK', nK', cK', keys', rfl, hb, hkid, ⟨c0, c1, c2, c3, c4, c5, c6, c7, c8, c9⟩, hin'⟩ := kid_lit HL.out HK.out hkn hW
        have i1 : (k : Int) < (nL : Int) := by omega
        have i2 : (0 : Int) ≤ (k : Int) := by omega
        have i5 : (k : Int).toNat = k := rfl
        obtain ⟨x, hx⟩ : ∃ x : Nat, x = (kids k).depth := ⟨_, rfl⟩
        have HC : ∀ w'' : World, Below wr.heap.size wr w'' → Calls Tryd.prog 18 #[(kids k).agg] w'' fun e w' => e = .returned (.int .i64 (x : Nat)) ∧ Below w''.heap.size w'' w' := fun w'' hb => by
          have := IH.out k w'' (hin'.below hb) (VT.nodes_kid hN hkn)
          rwa [← hx] at this
        rw [hkid] at HC
        simp only [VT.agg, VT.cells] at HC
        have HC := Lib.hid HC
        have HX := Lib.hid hx
        clear hin' hkid hx
        repeat any_goals (first | (go_at_call 18; refine (HC.out _ (by (repeat first | with_reducible exact Below.refl _ _ | with_reducible assumption | with_reducible refine Below.drew ?_ | with_reducible refine below_alloc ?_ _ | ((with_reducible refine Below.setCell ?_ ?_ _); rotate_left; (focus (first | with_reducible exact Nat.le_refl _ | (simp; done) | (simp; omega) | omega))) | (with_reducible refine below_trans ?_ (by assumption))))).mono ?_; rintro e w1 ⟨rfl, hb1⟩) | go_skip | go_guarded | go_step | go_upon | (dsimp only []))
        go_roundw
        case rel =>
          refine ⟨k + 1, by omega, rfl, ?_, keep_cell hb1 (keep_cell (w1 := wr) (by (repeat first | with_reducible exact Below.refl _ _ | with_reducible assumption | with_reducible refine Below.drew ?_ | with_reducible refine below_alloc ?_ _ | ((with_reducible refine Below.setCell ?_ ?_ _); rotate_left; (focus (first | with_reducible exact Nat.le_refl _ | (simp; done) | (simp; omega) | omega))) | (with_reducible refine below_trans ?_ (by assumption)))) h8), by (repeat first | with_reducible exact Below.refl _ _ | with_reducible assumption | with_reducible refine Below.drew ?_ | with_reducible refine below_alloc ?_ _ | ((with_reducible refine Below.setCell ?_ ?_ _); rotate_left; (focus (first | with_reducible exact Nat.le_refl _ | (simp; done) | (simp; omega) | omega))) | (with_reducible refine below_trans ?_ (by assumption)))⟩
          rw [HD.out]
          simp only [maxN]
          rw [← HX.out]
          congr 1
          omega
        case measure => simp [intOf]; omega
      · have hk' : k = nL := by omega
        subst hk'
        have i1 : ¬ (k : Int) < (k : Int) := by omega
        have i2 := HB.out
        repeat any_goals (first | go_skip | go_guarded | go_step | go_upon | (simp only []; done))
        exact bodyPost_ret (v := .int .i64 (D k + 1 : Nat)) (by simp [results, Tryd.results18, go_sem]) rfl ⟨by simp only [VT.depth]; rw [HD.out], by (repeat first | with_reducible exact Below.refl _ _ | with_reducible assumption | with_reducible refine Below.drew ?_ | with_reducible refine below_alloc ?_ _ | ((with_reducible refine Below.setCell ?_ ?_ _); rotate_left; (focus (first | with_reducible exact Nat.le_refl _ | (simp; done) | (simp; omega) | omega))) | (with_reducible refine below_trans ?_ (by assumption)))⟩
theorem RDepth_any : ∀ (T : VT) (w : World), T.In w → T.nodes < 4611686018427387904 →
    Calls Tryd.prog 19 #[T.agg] w fun e w' => e = .returned (.int .i64 (T.depth : Nat)) ∧ Below w.heap.size w w' := by
  intro T
  induction T with
  | nil => exact fun w h => h.elim
  | mk kind neg V bits text aL nL cL kids aK nK cK keys ih =>
    intro w hin hN
    obtain ⟨o, hL, hk, -⟩ := hin
    simp only [VT.agg, VT.cells]
    obtain ⟨D, hD⟩ : ∃ D : Nat → Nat, D = fun n => maxN (fun i => (kids i).depth) n := ⟨_, rfl⟩
    have hDB : D nL < 4611686018427387904 := by
      rw [hD]
      exact Nat.lt_of_le_of_lt (maxN_sumN (fun i => VT.depth_nodes (kids i)) nL) (VT.nodes_sum hN (Nat.le_refl _))
    have HL := Lib.hid hL
    have HK := Lib.hid hk
    have HD := Lib.hid hD
    have HB := Lib.hid hDB
    have IH := Lib.hid ih
    have hcL := o.lc
    have hlL := o.l
    clear hL hk hD hDB ih
    simp only [maxLen] at hcL
    go_enter Tryd.func19, Tryd.ntmps19
    repeat any_goals (first | go_skip | go_guarded | go_step | go_upon | (simp only []; done))
    go_loopw [3, 4] (fun n i wr => ∃ k : Nat, k ≤ nL ∧ i = .int .i64 k ∧ n = .int .i64 (D k : Nat) ∧ wr.cell? ⟨w.heap.size, 8, none⟩ = some (.slice aL nL cL) ∧ Below w.heap.size w wr) (fun _ i _ => nL - (intOf i).toNat)
    case atStart =>
      refine ⟨0, Nat.zero_le _, rfl, by rw [HD.out]; rfl, by simp [go_sem], by (repeat first | with_reducible exact Below.refl _ _ | with_reducible assumption | with_reducible refine Below.drew ?_ | with_reducible refine below_alloc ?_ _ | ((with_reducible refine Below.setCell ?_ ?_ _); rotate_left; (focus (first | with_reducible exact Nat.le_refl _ | (simp; done) | (simp; omega) | omega))) | (with_reducible refine below_trans ?_ (by assumption)))⟩
    case round =>
      obtain ⟨k, hk, rfl, rfl, h8, hW⟩ := hrel
      by_cases hkn : k < nL
      · obtain ⟨b, off, kind', neg', V', bits', text', aL', nL', cL', kids', aK', nK', cK', keys', rfl, hb, hkid, ⟨c0, c1, c2, c3, c4, c5, c6, c7, c8, c9⟩, hin'⟩ := kid_lit HL.out HK.out hkn hW
        have i1 : (k : Int) < (nL : Int) := by omega
        have i2 : (0 : Int) ≤ (k : Int) := by omega
        have i5 : (k : Int).toNat = k := rfl
        obtain ⟨x, hx⟩ : ∃ x : Nat, x = (kids k).depth := ⟨_, rfl⟩
        have HC : ∀ w'' : World, Below wr.heap.size wr w'' → Calls Tryd.prog 19 #[(kids k).agg] w'' fun e w' => e = .returned (.int .i64 (x : Nat)) ∧ Below w''.heap.size w'' w' := fun w'' hb => by
          have := IH.out k w'' (hin'.below hb) (VT.nodes_kid hN hkn)
          rwa [← hx] at this
        rw [hkid] at HC
        simp only [VT.agg, VT.cells] at HC
        have HC := Lib.hid HC
        have HX := Lib.hid hx
        clear hin' hkid hx
        repeat any_goals (first | (go_at_call 19; refine (HC.out _ (by (repeat first | with_reducible exact Below.refl _ _ | with_reducible assumption | with_reducible refine Below.drew ?_ | with_reducible refine below_alloc ?_ _ | ((with_reducible refine Below.setCell ?_ ?_ _); rotate_left; (focus (first | with_reducible exact Nat.le_refl _ | (simp; done) | (simp; omega) | omega))) | (with_reducible refine below_trans ?_ (by assumption))))).mono ?_; rintro e w1 ⟨rfl, hb1⟩) | go_skip | go_guarded | go_step | go_upon | (dsimp only []))
        go_roundw
        case rel =>
          refine ⟨k + 1, by omega, rfl, ?_, keep_cell hb1 (keep_cell (w1 := wr) (by (repeat first | with_reducible exact Below.refl _ _ | with_reducible assumption | with_reducible refine Below.drew ?_ | with_reducible refine below_alloc ?_ _ | ((with_reducible refine Below.setCell ?_ ?_ _); rotate_left; (focus (first | with_reducible exact Nat.le_refl _ | (simp; done) | (simp; omega) | omega))) | (with_reducible refine below_trans ?_ (by assumption)))) h8), by (repeat first | with_reducible exact Below.refl _ _ | with_reducible assumption | with_reducible refine Below.drew ?_ | with_reducible refine below_alloc ?_ _ | ((with_reducible refine Below.setCell ?_ ?_ _); rotate_left; (focus (first | with_reducible exact Nat.le_refl _ | (simp; done) | (simp; omega) | omega))) | (with_reducible refine below_trans ?_ (by assumption)))⟩
          rw [HD.out]
          simp only [maxN]
          rw [← HX.out]
          congr 1
          omega
        case measure => simp [intOf]; omega
      · have hk' : k = nL := by omega
        subst hk'
        have i1 : ¬ (k : Int) < (k : Int) := by omega
        have i2 := HB.out
        repeat any_goals (first | go_skip | go_guarded | go_step | go_upon | (simp only []; done))
        exact bodyPost_ret (v := .int .i64 (D k + 1 : Nat)) (by simp [results, Tryd.results19, go_sem]) rfl ⟨by simp only [VT.depth]; rw [HD.out], by (repeat first | with_reducible exact Below.refl _ _ | with_reducible assumption | with_reducible refine Below.drew ?_ | with_reducible refine below_alloc ?_ _ | ((with_reducible refine Below.setCell ?_ ?_ _); rotate_left; (focus (first | with_reducible exact Nat.le_refl _ | (simp; done) | (simp; omega) | omega))) | (with_reducible refine below_trans ?_ (by assumption)))⟩
theorem Nodes_any : ∀ (T : VT) (w : World), T.In w → T.nodes < 4611686018427387904 →
    Calls Tryd.prog 20 #[T.agg] w fun e w' => e = .returned (.int .i64 (T.nodes : Nat)) ∧ Below w.heap.size w w' := by
  intro T
  induction T with
  | nil => exact fun w h => h.elim
  | mk kind neg V bits text aL nL cL kids aK nK cK keys ih =>
    intro w hin hN
    obtain ⟨o, hL, hk, -⟩ := hin
    simp only [VT.agg, VT.cells]
    obtain ⟨D, hD⟩ : ∃ D : Nat → Nat, D = fun n => 1 + sumN (fun i => (kids i).nodes) n := ⟨_, rfl⟩
    have hDB : ∀ k, k ≤ nL → D k < 4611686018427387905 := fun k hk => by
      rw [hD]
      have := VT.nodes_sum hN hk
      show 1 + sumN (fun i => (kids i).nodes) k < _
      omega
    have HL := Lib.hid hL
    have HK := Lib.hid hk
    have HD := Lib.hid hD
    have HB := Lib.hid hDB
    have IH := Lib.hid ih
    have hcL := o.lc
    have hlL := o.l
    clear hL hk hD hDB ih
    simp only [maxLen] at hcL
    go_enter Tryd.func20, Tryd.ntmps20
    repeat any_goals (first | go_skip | go_guarded | go_step | go_upon | (simp only []; done))
    go_loopw [3, 9] (fun n i wr => ∃ k : Nat, k ≤ nL ∧ i = .int .i64 k ∧ n = .int .i64 (D k : Nat) ∧ wr.cell? ⟨w.heap.size, 8, none⟩ = some (.slice aL nL cL) ∧ Below w.heap.size w wr) (fun _ i _ => nL - (intOf i).toNat)
    case atStart =>
      refine ⟨0, Nat.zero_le _, rfl, by rw [HD.out]; rfl, by simp [go_sem], by (repeat first | with_reducible exact Below.refl _ _ | with_reducible assumption | with_reducible refine Below.drew ?_ | with_reducible refine below_alloc ?_ _ | ((with_reducible refine Below.setCell ?_ ?_ _); rotate_left; (focus (first | with_reducible exact Nat.le_refl _ | (simp; done) | (simp; omega) | omega))) | (with_reducible refine below_trans ?_ (by assumption)))⟩
    case round =>
      obtain ⟨k, hk, rfl, rfl, h8, hW⟩ := hrel
      by_cases hkn : k < nL
      · obtain ⟨b, off, kind', neg', V', bits', text', aL', nL', cL', kids', aK', nK', cK', keys', rfl, hb, hkid, ⟨c0, c1, c2, c3, c4, c5, c6, c7, c8, c9⟩, hin'⟩ := kid_lit HL.out HK.out hkn hW
        have i1 : (k : Int) < (nL : Int) := by omega
        have i2 : (0 : Int) ≤ (k : Int) := by omega
        have i5 : (k : Int).toNat = k := rfl
        obtain ⟨x, hx⟩ : ∃ x : Nat, x = (kids k).nodes := ⟨_, rfl⟩
        have hxB : x < 4611686018427387904 := hx ▸ VT.nodes_kid hN hkn
        have hkB := HB.out k (by omega)
        have HC : ∀ w'' : World, Below wr.heap.size wr w'' → Calls Tryd.prog 20 #[(kids k).agg] w'' fun e w' => e = .returned (.int .i64 (x : Nat)) ∧ Below w''.heap.size w'' w' := fun w'' hb => by
          have := IH.out k w'' (hin'.below hb) (VT.nodes_kid hN hkn)
          rwa [← hx] at this
        rw [hkid] at HC
        simp only [VT.agg, VT.cells] at HC
        have HC := Lib.hid HC
        have HX := Lib.hid hx
        clear hin' hkid hx
        repeat any_goals (first | (go_at_call 20; refine (HC.out _ (by (repeat first | with_reducible exact Below.refl _ _ | with_reducible assumption | with_reducible refine Below.drew ?_ | with_reducible refine below_alloc ?_ _ | ((with_reducible refine Below.setCell ?_ ?_ _); rotate_left; (focus (first | with_reducible exact Nat.le_refl _ | (simp; done) | (simp; omega) | omega))) | (with_reducible refine below_trans ?_ (by assumption))))).mono ?_; rintro e w1 ⟨rfl, hb1⟩) | go_skip | go_guarded | go_step | go_upon | (dsimp only []))
        go_roundw
        case rel =>
          refine ⟨k + 1, by omega, rfl, ?_, keep_cell hb1 (keep_cell (w1 := wr) (by (repeat first | with_reducible exact Below.refl _ _ | with_reducible assumption | with_reducible refine Below.drew ?_ | with_reducible refine below_alloc ?_ _ | ((with_reducible refine Below.setCell ?_ ?_ _); rotate_left; (focus (first | with_reducible exact Nat.le_refl _ | (simp; done) | (simp; omega) | omega))) | (with_reducible refine below_trans ?_ (by assumption)))) h8), by (repeat first | with_reducible exact Below.refl _ _ | with_reducible assumption | with_reducible refine Below.drew ?_ | with_reducible refine below_alloc ?_ _ | ((with_reducible refine Below.setCell ?_ ?_ _); rotate_left; (focus (first | with_reducible exact Nat.le_refl _ | (simp; done) | (simp; omega) | omega))) | (with_reducible refine below_trans ?_ (by assumption)))⟩
          rw [HD.out]
          simp only [sumN]
          rw [← HX.out]
          congr 1
          omega
        case measure => simp [intOf]; omega
      · have hk' : k = nL := by omega
        subst hk'
        have i1 : ¬ (k : Int) < (k : Int) := by omega
        have i2 := HB.out k (Nat.le_refl _)
        repeat any_goals (first | go_skip | go_guarded | go_step | go_upon | (simp only []; done))
        exact bodyPost_ret (v := .int .i64 (D k : Nat)) (by simp [results, Tryd.results20, go_sem]) rfl ⟨by simp only [VT.nodes]; rw [HD.out]; exact congrArg (fun z : Nat => Ending.returned (.int .i64 (z : Int))) (Nat.add_comm 1 (sumN (fun i => (kids i).nodes) k)), by (repeat first | with_reducible exact Below.refl _ _ | with_reducible assumption | with_reducible refine Below.drew ?_ | with_reducible refine below_alloc ?_ _ | ((with_reducible refine Below.setCell ?_ ?_ _); rotate_left; (focus (first | with_reducible exact Nat.le_refl _ | (simp; done) | (simp; omega) | omega))) | (with_reducible refine below_trans ?_ (by assumption)))⟩
theorem RNodes_any : ∀ (T : VT) (w : World), T.In w → T.nodes < 4611686018427387904 →
    Calls Tryd.prog 21 #[T.agg] w fun e w' => e = .returned (.int .i64 (T.nodes : Nat)) ∧ Below w.heap.size w w' := by
  intro T
  induction T with
  | nil => exact fun w h => h.elim
  | mk kind neg V bits text aL nL cL kids aK nK cK keys ih =>
    intro w hin hN
    obtain ⟨o, hL, hk, -⟩ := hin
    simp only [VT.agg, VT.cells]
    obtain ⟨D, hD⟩ : ∃ D : Nat → Nat, D = fun n => 1 + sumN (fun i => (kids i).nodes) n := ⟨_, rfl⟩
    have hDB : ∀ k, k ≤ nL → D k < 4611686018427387905 := fun k hk => by
      rw [hD]
      have := VT.nodes_sum hN hk
      show 1 + sumN (fun i => (kids i).nodes) k < _
      omega
    have HL := Lib.hid hL
    have HK := Lib.hid hk
    have HD := Lib.hid hD
    have HB := Lib.hid hDB
    have IH := Lib.hid ih
    have hcL := o.lc
    have hlL := o.l
    clear hL hk hD hDB ih
    simp only [maxLen] at hcL
    go_enter Tryd.func21, Tryd.ntmps21
    repeat any_goals (first | go_skip | go_guarded | go_step | go_upon | (simp only []; done))
    go_loopw [3, 4] (fun n i wr => ∃ k : Nat, k ≤ nL ∧ i = .int .i64 k ∧ n = .int .i64 (D k : Nat) ∧ wr.cell? ⟨w.heap.size, 8, none⟩ = some (.slice aL nL cL) ∧ Below w.heap.size w wr) (fun _ i _ => nL - (intOf i).toNat)
    case atStart =>
      refine ⟨0, Nat.zero_le _, rfl, by rw [HD.out]; rfl, by simp [go_sem], by (repeat first | with_reducible exact Below.refl _ _ | with_reducible assumption | with_reducible refine Below.drew ?_ | with_reducible refine below_alloc ?_ _ | ((with_reducible refine Below.setCell ?_ ?_ _); rotate_left; (focus (first | with_reducible exact Nat.le_refl _ | (simp; done) | (simp; omega) | omega))) | (with_reducible refine below_trans ?_ (by assumption)))⟩
    case round =>
      obtain ⟨k, hk, rfl, rfl, h8, hW⟩ := hrel
      by_cases hkn : k < nL
      · obtain ⟨b, off, kind', neg', V', bits', text', aL', nL', cL', kids', aK', nK', cK', keys', rfl, hb, hkid, ⟨c0, c1, c2, c3, c4, c5, c6, c7, c8, c9⟩, hin'⟩ := kid_lit HL.out HK.out hkn hW
        have i1 : (k : Int) < (nL : Int) := by omega
        have i2 : (0 : Int) ≤ (k : Int) := by omega
        have i5 : (k : Int).toNat = k := rfl
        obtain ⟨x, hx⟩ : ∃ x : Nat, x = (kids k).nodes := ⟨_, rfl⟩
        have hxB : x < 4611686018427387904 := hx ▸ VT.nodes_kid hN hkn
        have hkB := HB.out k (by omega)
        have HC : ∀ w'' : World, Below wr.heap.size wr w'' → Calls Tryd.prog 21 #[(kids k).agg] w'' fun e w' => e = .returned (.int .i64 (x : Nat)) ∧ Below w''.heap.size w'' w' := fun w'' hb => by
          have := IH.out k w'' (hin'.below hb) (VT.nodes_kid hN hkn)
          rwa [← hx] at this
        rw [hkid] at HC
        simp only [VT.agg, VT.cells] at HC
        have HC := Lib.hid HC
        have HX := Lib.hid hx
        clear hin' hkid hx
        repeat any_goals (first | (go_at_call 21; refine (HC.out _ (by (repeat first | with_reducible exact Below.refl _ _ | with_reducible assumption | with_reducible refine Below.drew ?_ | with_reducible refine below_alloc ?_ _ | ((with_reducible refine Below.setCell ?_ ?_ _); rotate_left; (focus (first | with_reducible exact Nat.le_refl _ | (simp; done) | (simp; omega) | omega))) | (with_reducible refine below_trans ?_ (by assumption))))).mono ?_; rintro e w1 ⟨rfl, hb1⟩) | go_skip | go_guarded | go_step | go_upon | (dsimp only []))
        go_roundw
        case rel =>
          refine ⟨k + 1, by omega, rfl, ?_, keep_cell hb1 (keep_cell (w1 := wr) (by (repeat first | with_reducible exact Below.refl _ _ | with_reducible assumption | with_reducible refine Below.drew ?_ | with_reducible refine below_alloc ?_ _ | ((with_reducible refine Below.setCell ?_ ?_ _); rotate_left; (focus (first | with_reducible exact Nat.le_refl _ | (simp; done) | (simp; omega) | omega))) | (with_reducible refine below_trans ?_ (by assumption)))) h8), by (repeat first | with_reducible exact Below.refl _ _ | with_reducible assumption | with_reducible refine Below.drew ?_ | with_reducible refine below_alloc ?_ _ | ((with_reducible refine Below.setCell ?_ ?_ _); rotate_left; (focus (first | with_reducible exact Nat.le_refl _ | (simp; done) | (simp; omega) | omega))) | (with_reducible refine below_trans ?_ (by assumption)))⟩
          rw [HD.out]
          simp only [sumN]
          rw [← HX.out]
          congr 1
          omega
        case measure => simp [intOf]; omega
      · have hk' : k = nL := by omega
        subst hk'
        have i1 : ¬ (k : Int) < (k : Int) := by omega
        have i2 := HB.out k (Nat.le_refl _)
        repeat any_goals (first | go_skip | go_guarded | go_step | go_upon | (simp only []; done))
        exact bodyPost_ret (v := .int .i64 (D k : Nat)) (by simp [results, Tryd.results21, go_sem]) rfl ⟨by simp only [VT.nodes]; rw [HD.out]; exact congrArg (fun z : Nat => Ending.returned (.int .i64 (z : Int))) (Nat.add_comm 1 (sumN (fun i => (kids i).nodes) k)), by (repeat first | with_reducible exact Below.refl _ _ | with_reducible assumption | with_reducible refine Below.drew ?_ | with_reducible refine below_alloc ?_ _ | ((with_reducible refine Below.setCell ?_ ?_ _); rotate_left; (focus (first | with_reducible exact Nat.le_refl _ | (simp; done) | (simp; omega) | omega))) | (with_reducible refine below_trans ?_ (by assumption)))⟩
end Go.Proofs.YtminijokbeclhaaDoor
