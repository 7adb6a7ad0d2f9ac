/- Contracts: what holds values against each other: slices.EqualFunc, CompareFunc, Compare, cmp.Or, cmp.Compare. -/
import Derived.Test.YtminijokbeclhaaDoorVCf
import Derived.Test.YtminijokbeclhaaDoorOrd
import Derived.LoopN
namespace Go.Proofs.YtminijokbeclhaaDoor
open Go.RowKit
set_option maxRecDepth 20000 in
set_option maxHeartbeats 2000000 in
theorem EqualV_any (f : FuncId) (eg : ∀ args W, (callFunc f args).run Tryd.prog W = .ok (.enter f args) W) (p : Nat → Bool) (aL : Option Addr) (nL cL : Nat) (kids : Nat → VT) (aLB : Option Addr) (nLB cLB : Nat) (kidsB : Nat → VT) (w : World) (hcL : cL ≤ maxLen) (hlL : nL ≤ cL) (_hcLB : cLB ≤ maxLen) (_hlLB : nLB ≤ cLB)
    (hL : nL = 0 ∨ ∃ b off, aL = some ⟨b, off, none⟩ ∧ b < w.heap.size ∧ ∀ i, i < nL → ∀ j, j < 10 → w.cell? ⟨b, off + i * 10 + j, none⟩ = (kids i).cells[j]?) (hK : ∀ i, i < nL → (kids i).In w) (hLB : nLB = 0 ∨ ∃ b off, aLB = some ⟨b, off, none⟩ ∧ b < w.heap.size ∧ ∀ i, i < nLB → ∀ j, j < 10 → w.cell? ⟨b, off + i * 10 + j, none⟩ = (kidsB i).cells[j]?) (hKB : ∀ i, i < nLB → (kidsB i).In w)
    (hf : ∀ i, i < nL → i < nLB → ∀ w' : World, Below w.heap.size w w' → Calls Tryd.prog f #[(kids i).agg, (kidsB i).agg] w' fun e w2 => e = .returned (.bool (p i)) ∧ Below w'.heap.size w' w2) :
    Calls Tryd.prog 46 #[.slice aL nL cL, .slice aLB nLB cLB, .func (.func f) #[] #[]] w fun e w' => e = .returned (.bool (decide (nL = nLB) && !anyN (fun i => !p i) nL)) ∧ Below w.heap.size w w' := by
  obtain ⟨R, hR⟩ : ∃ R, R = (decide (nL = nLB) && !anyN (fun i => !p i) nL) := ⟨_, rfl⟩
  rw [← hR]
  have HR := Lib.hid hR
  have HL := Lib.hid hL
  have HK := Lib.hid hK
  have HLB := Lib.hid hLB
  have HKB := Lib.hid hKB
  have HF := Lib.hid hf
  clear hL hK hLB hKB hf hR
  simp only [maxLen] at hcL _hcLB
  by_cases hn : nL = nLB
  · subst hn
    go_enter Tryd.func46, Tryd.ntmps46
    repeat any_goals (first | go_skip | go_guarded | go_step | go_upon | (simp only []; done))
    go_loopw [17] (fun i wr => ∃ k : Nat, k ≤ nL ∧ i = .int .i64 k ∧ anyN (fun i => !p i) k = false ∧ Below w.heap.size w wr) (fun i _ => nL - (intOf i).toNat)
    case atStart => exact ⟨0, Nat.zero_le _, rfl, rfl, Below.refl _ _⟩
    case round =>
    obtain ⟨k, hk, rfl, hA, hW⟩ := hrel
    have HA1 := Lib.hid hA
    clear hA
    by_cases hkn : k < nL
    · have hkm := hkn
      obtain ⟨b, off, kind', neg', V', bits', text', aL', nL', cL', kids', aK', nK', cK', keys', rfl, hb, hkid, ⟨c0, c1, c2, c3, c4, c5, c6, c7, c8, c9⟩, -⟩ := kid_lit HL.out HK.out hkn hW
      obtain ⟨b2, off2, kind'', neg'', V'', bits'', text'', aL'', nL'', cL'', kids'', aK'', nK'', cK'', keys'', rfl, hb2, hkid2, ⟨d0, d1, d2, d3, d4, d5, d6, d7, d8, d9⟩, -⟩ := kid_lit HLB.out HKB.out hkm hW
      have hl2 := World.block_lt_of_cell? wr _ d0
      have i1 : (k : Int) < (nL : Int) := by omega
      have i2 : (0 : Int) ≤ (k : Int) := by omega
      have i5 : (k : Int).toNat = k := rfl
      obtain ⟨x, hx⟩ : ∃ x : Bool, x = p k := ⟨_, rfl⟩
      have HC : ∀ w'' : World, Below wr.heap.size wr w'' → Calls Tryd.prog f #[(kids k).agg, (kidsB k).agg] w'' fun e w' => e = .returned (.bool x) ∧ Below w''.heap.size w'' w' := fun w'' hb => by
        have := HF.out k hkn hkm w'' (below_trans hW hb)
        rwa [← hx] at this
      rw [hkid, hkid2] at HC
      simp only [VT.agg, VT.cells] at HC
      have HC := Lib.hid HC
      have HX := Lib.hid hx
      clear hkid hkid2 hx
      cases x with
      | true =>
        repeat any_goals (first | (with_reducible refine calls_at f (HC.out _ (by (repeat first | with_reducible exact Below.refl _ _ | with_reducible assumption | with_reducible refine Below.drew ?_ | with_reducible refine below_alloc ?_ _ | ((with_reducible refine Below.setCell ?_ ?_ _); rotate_left; (focus (first | with_reducible exact Nat.le_refl _ | (simp; done) | (simp; omega) | omega))) | (with_reducible refine below_trans ?_ (by assumption))))) ?_; rintro e w1 ⟨rfl, hb1⟩) | go_skip | go_guarded | go_step | go_upon | (dsimp only []))
        go_roundw
        case rel => exact ⟨k + 1, by omega, rfl, by simp only [anyN]; rw [HA1.out, ← HX.out]; simp, by (repeat first | with_reducible exact Below.refl _ _ | with_reducible assumption | with_reducible refine Below.drew ?_ | with_reducible refine below_alloc ?_ _ | ((with_reducible refine Below.setCell ?_ ?_ _); rotate_left; (focus (first | with_reducible exact Nat.le_refl _ | (simp; done) | (simp; omega) | omega))) | (with_reducible refine below_trans ?_ (by assumption)))⟩
        case measure => simp [intOf]; omega
      | false =>
        have e : R = false := by rw [HR.out, anyN_of (p := fun i => !p i) (by rw [← HX.out]; rfl) hkn]; simp
        subst e
        repeat any_goals (first | (with_reducible refine calls_at f (HC.out _ (by (repeat first | with_reducible exact Below.refl _ _ | with_reducible assumption | with_reducible refine Below.drew ?_ | with_reducible refine below_alloc ?_ _ | ((with_reducible refine Below.setCell ?_ ?_ _); rotate_left; (focus (first | with_reducible exact Nat.le_refl _ | (simp; done) | (simp; omega) | omega))) | (with_reducible refine below_trans ?_ (by assumption))))) ?_; rintro e w1 ⟨rfl, hb1⟩) | go_skip | go_guarded | go_step | go_upon | (dsimp only []))
        exact bodyPost_ret (v := .bool false) (by simp [results, Tryd.results46, go_sem]) rfl ⟨rfl, by (repeat first | with_reducible exact Below.refl _ _ | with_reducible assumption | with_reducible refine Below.drew ?_ | with_reducible refine below_alloc ?_ _ | ((with_reducible refine Below.setCell ?_ ?_ _); rotate_left; (focus (first | with_reducible exact Nat.le_refl _ | (simp; done) | (simp; omega) | omega))) | (with_reducible refine below_trans ?_ (by assumption)))⟩
    · have hk' : k = nL := by omega
      subst hk'
      have i1 : ¬ (k : Int) < (k : Int) := by omega
      have e : R = true := by rw [HR.out, HA1.out]; simp
      subst e
      repeat any_goals (first | go_skip | go_guarded | go_step | go_upon | (simp only []; done))
      exact bodyPost_ret (v := .bool true) (by simp [results, Tryd.results46, go_sem]) rfl ⟨rfl, hW⟩
  · have n6 : ((nL : Int) == (nLB : Int)) = false := beq_false_of_ne (by omega)
    have e : R = false := by rw [HR.out, decide_eq_false hn]; rfl
    subst e
    go_enter Tryd.func46, Tryd.ntmps46
    repeat any_goals (first | go_skip | go_guarded | go_step | go_upon | (simp only []; done))
    exact bodyPost_ret (v := .bool false) (by simp [results, Tryd.results46, go_sem]) rfl ⟨rfl, by (repeat first | with_reducible exact Below.refl _ _ | with_reducible assumption | with_reducible refine Below.drew ?_ | with_reducible refine below_alloc ?_ _ | ((with_reducible refine Below.setCell ?_ ?_ _); rotate_left; (focus (first | with_reducible exact Nat.le_refl _ | (simp; done) | (simp; omega) | omega))) | (with_reducible refine below_trans ?_ (by assumption)))⟩
theorem fstC_keep {f : Nat → Int} {k n : Nat} (h : fstC f k ≠ 0) (hk : k ≤ n) : fstC f n = fstC f k := by
  induction n with
  | zero => have : k = 0 := by omega
            subst this; rfl
  | succ n ih =>
    by_cases c : k ≤ n
    · simp only [fstC]
      rw [ih c]
      unfold or2
      rw [if_neg h]
    · have : k = n + 1 := by omega
      subst this
      rfl
theorem lexN_at {f : Nat → Int} {n m k : Nat} (h : fstC f k = 0) (hk : k < n) (hm : k < m) (hf : f k ≠ 0) : lexN f n m = f k := by
  have h1 : fstC f (k + 1) = f k := by
    simp only [fstC]
    rw [h]
    rfl
  unfold lexN
  rw [fstC_keep (k := k + 1) (by rw [h1]; exact hf) (by omega), h1]
  unfold or2
  rw [if_neg hf]
theorem lexN_end {f : Nat → Int} {n m k : Nat} (h : fstC f k = 0) (hk : k = min n m) : lexN f n m = cmpZZ n m := by
  subst hk
  unfold lexN
  rw [h]
  rfl
set_option maxRecDepth 20000 in
set_option maxHeartbeats 2000000 in
theorem CompareV_any (f : FuncId) (eg : ∀ args W, (callFunc f args).run Tryd.prog W = .ok (.enter f args) W) (p : Nat → Int) (aL : Option Addr) (nL cL : Nat) (kids : Nat → VT) (aLB : Option Addr) (nLB cLB : Nat) (kidsB : Nat → VT) (w : World) (hcL : cL ≤ maxLen) (hlL : nL ≤ cL) (_hcLB : cLB ≤ maxLen) (_hlLB : nLB ≤ cLB)
    (hL : nL = 0 ∨ ∃ b off, aL = some ⟨b, off, none⟩ ∧ b < w.heap.size ∧ ∀ i, i < nL → ∀ j, j < 10 → w.cell? ⟨b, off + i * 10 + j, none⟩ = (kids i).cells[j]?) (hK : ∀ i, i < nL → (kids i).In w) (hLB : nLB = 0 ∨ ∃ b off, aLB = some ⟨b, off, none⟩ ∧ b < w.heap.size ∧ ∀ i, i < nLB → ∀ j, j < 10 → w.cell? ⟨b, off + i * 10 + j, none⟩ = (kidsB i).cells[j]?) (hKB : ∀ i, i < nLB → (kidsB i).In w)
    (hf : ∀ i, i < nL → i < nLB → ∀ w' : World, Below w.heap.size w w' → Calls Tryd.prog f #[(kids i).agg, (kidsB i).agg] w' fun e w2 => e = .returned (.int .i64 (p i)) ∧ Below w'.heap.size w' w2) :
    Calls Tryd.prog 49 #[.slice aL nL cL, .slice aLB nLB cLB, .func (.func f) #[] #[]] w fun e w' => e = .returned (.int .i64 (lexN p nL nLB)) ∧ Below w.heap.size w w' := by
  obtain ⟨R, hR⟩ : ∃ R, R = lexN p nL nLB := ⟨_, rfl⟩
  rw [← hR]
  have HR := Lib.hid hR
  have HL := Lib.hid hL
  have HK := Lib.hid hK
  have HLB := Lib.hid hLB
  have HKB := Lib.hid hKB
  have HF := Lib.hid hf
  clear hL hK hLB hKB hf hR
  simp only [maxLen] at hcL _hcLB
  go_enter Tryd.func49, Tryd.ntmps49
  repeat any_goals (first | go_skip | go_guarded | go_step | go_upon | (simp only []; done))
  go_loopw [13] (fun i wr => ∃ k : Nat, k ≤ nL ∧ k ≤ nLB ∧ i = .int .i64 k ∧ fstC p k = 0 ∧ Below w.heap.size w wr) (fun i _ => nL - (intOf i).toNat)
  case atStart => exact ⟨0, Nat.zero_le _, Nat.zero_le _, rfl, rfl, Below.refl _ _⟩
  case round =>
    obtain ⟨k, hk, hk2, rfl, hA, hW⟩ := hrel
    have HA1 := Lib.hid hA
    clear hA
    by_cases hkn : k < nL
    · by_cases hkm : k < nLB
      · obtain ⟨b, off, kind', neg', V', bits', text', aL', nL', cL', kids', aK', nK', cK', keys', rfl, hb, hkid, ⟨c0, c1, c2, c3, c4, c5, c6, c7, c8, c9⟩, -⟩ := kid_lit HL.out HK.out hkn hW
        obtain ⟨b2, off2, kind'', neg'', V'', bits'', text'', aL'', nL'', cL'', kids'', aK'', nK'', cK'', keys'', rfl, hb2, hkid2, ⟨d0, d1, d2, d3, d4, d5, d6, d7, d8, d9⟩, -⟩ := kid_lit HLB.out HKB.out hkm hW
        have hl2 := World.block_lt_of_cell? wr _ d0
        have i1 : (k : Int) < (nL : Int) := by omega
        have i2 : (0 : Int) ≤ (k : Int) := by omega
        have i3 : ¬ (nLB : Int) ≤ (k : Int) := by omega
        have i5 : (k : Int).toNat = k := rfl
        obtain ⟨x, hx⟩ : ∃ x : Int, x = p k := ⟨_, rfl⟩
        have HC : ∀ w'' : World, Below wr.heap.size wr w'' → Calls Tryd.prog f #[(kids k).agg, (kidsB k).agg] w'' fun e w' => e = .returned (.int .i64 x) ∧ Below w''.heap.size w'' w' := fun w'' hb => by
          have := HF.out k hkn hkm w'' (below_trans hW hb)
          rwa [← hx] at this
        rw [hkid, hkid2] at HC
        simp only [VT.agg, VT.cells] at HC
        have HC := Lib.hid HC
        have HX := Lib.hid hx
        clear hkid hkid2 hx
        by_cases h0 : x = 0
        · subst h0
          repeat any_goals (first | (with_reducible refine calls_at f (HC.out _ (by (repeat first | with_reducible exact Below.refl _ _ | with_reducible assumption | with_reducible refine Below.drew ?_ | with_reducible refine below_alloc ?_ _ | ((with_reducible refine Below.setCell ?_ ?_ _); rotate_left; (focus (first | with_reducible exact Nat.le_refl _ | (simp; done) | (simp; omega) | omega))) | (with_reducible refine below_trans ?_ (by assumption))))) ?_; rintro e w1 ⟨rfl, hb1⟩) | go_skip | go_guarded | go_step | go_upon | (dsimp only []))
          go_roundw
          case rel => exact ⟨k + 1, by omega, by omega, rfl, by simp only [fstC]; rw [HA1.out, ← HX.out]; rfl, by (repeat first | with_reducible exact Below.refl _ _ | with_reducible assumption | with_reducible refine Below.drew ?_ | with_reducible refine below_alloc ?_ _ | ((with_reducible refine Below.setCell ?_ ?_ _); rotate_left; (focus (first | with_reducible exact Nat.le_refl _ | (simp; done) | (simp; omega) | omega))) | (with_reducible refine below_trans ?_ (by assumption)))⟩
          case measure => simp [intOf]; omega
        · have e : R = x := by rw [HR.out, lexN_at HA1.out hkn hkm (by rw [← HX.out]; exact h0), ← HX.out]
          have HE := Lib.hid e
          clear e
          repeat any_goals (first | (with_reducible refine calls_at f (HC.out _ (by (repeat first | with_reducible exact Below.refl _ _ | with_reducible assumption | with_reducible refine Below.drew ?_ | with_reducible refine below_alloc ?_ _ | ((with_reducible refine Below.setCell ?_ ?_ _); rotate_left; (focus (first | with_reducible exact Nat.le_refl _ | (simp; done) | (simp; omega) | omega))) | (with_reducible refine below_trans ?_ (by assumption))))) ?_; rintro e w1 ⟨rfl, hb1⟩) | go_skip | go_guarded | go_step | go_upon | (dsimp only []))
          exact bodyPost_ret (v := .int .i64 x) (by simp [results, Tryd.results49, go_sem]) rfl ⟨by rw [HE.out], by (repeat first | with_reducible exact Below.refl _ _ | with_reducible assumption | with_reducible refine Below.drew ?_ | with_reducible refine below_alloc ?_ _ | ((with_reducible refine Below.setCell ?_ ?_ _); rotate_left; (focus (first | with_reducible exact Nat.le_refl _ | (simp; done) | (simp; omega) | omega))) | (with_reducible refine below_trans ?_ (by assumption)))⟩
      · obtain ⟨b, off, kind', neg', V', bits', text', aL', nL', cL', kids', aK', nK', cK', keys', rfl, hb, hkid, ⟨c0, c1, c2, c3, c4, c5, c6, c7, c8, c9⟩, -⟩ := kid_lit HL.out HK.out hkn hW
        have i1 : (k : Int) < (nL : Int) := by omega
        have i2 : (0 : Int) ≤ (k : Int) := by omega
        have i3 : (nLB : Int) ≤ (k : Int) := by omega
        have i5 : (k : Int).toNat = k := rfl
        have e : R = 1 := by
          rw [HR.out, lexN_end HA1.out (by omega)]
          unfold cmpZZ
          rw [if_neg (by omega), if_pos (by omega)]
        subst e
        clear hkid
        repeat any_goals (first | go_skip | go_guarded | go_step | go_upon | (simp only []; done))
        exact bodyPost_ret (v := .int .i64 1) (by simp [results, Tryd.results49, go_sem]) rfl ⟨rfl, by (repeat first | with_reducible exact Below.refl _ _ | with_reducible assumption | with_reducible refine Below.drew ?_ | with_reducible refine below_alloc ?_ _ | ((with_reducible refine Below.setCell ?_ ?_ _); rotate_left; (focus (first | with_reducible exact Nat.le_refl _ | (simp; done) | (simp; omega) | omega))) | (with_reducible refine below_trans ?_ (by assumption)))⟩
    · have hk' : k = nL := by omega
      subst hk'
      have i1 : ¬ (k : Int) < (k : Int) := by omega
      by_cases hkm : k < nLB
      · have i3 : (k : Int) < (nLB : Int) := by omega
        have e : R = -1 := by
          rw [HR.out, lexN_end HA1.out (by omega)]
          unfold cmpZZ
          rw [if_pos (by omega)]
        subst e
        repeat any_goals (first | go_skip | go_guarded | go_step | go_upon | (simp only []; done))
        exact bodyPost_ret (v := .int .i64 (-1)) (by simp [results, Tryd.results49, go_sem]) rfl ⟨rfl, hW⟩
      · have i3 : ¬ (k : Int) < (nLB : Int) := by omega
        have e : R = 0 := by
          rw [HR.out, lexN_end HA1.out (by omega)]
          unfold cmpZZ
          rw [if_neg (by omega), if_neg (by omega)]
        subst e
        repeat any_goals (first | go_skip | go_guarded | go_step | go_upon | (simp only []; done))
        exact bodyPost_ret (v := .int .i64 0) (by simp [results, Tryd.results49, go_sem]) rfl ⟨rfl, hW⟩
theorem isNaNU_any (x : Nat) (w : World) : Calls Tryd.prog 86 #[.int .u64 (x : Nat)] w fun e w' => e = .returned (.bool false) ∧ w' = w := by
  go_enter Tryd.func86, Tryd.ntmps86
  repeat any_goals (first | go_skip | go_guarded | go_step | go_upon | (simp only []; done))
  exact bodyPost_ret (v := .bool false) (by simp [results, Tryd.results86, go_sem]) rfl ⟨rfl, rfl⟩
theorem isNaNS_any (x : ByteArray) (w : World) : Calls Tryd.prog 87 #[.string x] w fun e w' => e = .returned (.bool false) ∧ w' = w := by
  go_enter Tryd.func87, Tryd.ntmps87
  repeat any_goals (first | go_skip | go_guarded | go_step | go_upon | (simp only []; done))
  exact bodyPost_ret (v := .bool false) (by simp [results, Tryd.results87, go_sem]) rfl ⟨rfl, rfl⟩
theorem CmpU_any (x y : Nat) (w : World) : Calls Tryd.prog 52 #[.int .u64 (x : Nat), .int .u64 (y : Nat)] w fun e w' => e = .returned (.int .i64 (cmpZZ x y)) ∧ w' = w := by
  unfold cmpZZ
  by_cases h1 : (x : Int) < (y : Int)
  · rw [if_pos h1]
    have h3 : x < y := by omega
    go_enter Tryd.func52, Tryd.ntmps52
    repeat any_goals (first | (go_at_call 86; refine (isNaNU_any _ _).mono ?_; rintro e w' ⟨rfl, rfl⟩) | go_skip | go_guarded | go_step | go_upon | (dsimp only []))
    exact bodyPost_ret (v := .int .i64 (-1)) (by simp [results, Tryd.results52, go_sem]) rfl ⟨rfl, rfl⟩
  · rw [if_neg h1]
    have h3 : ¬ x < y := by omega
    by_cases h2 : (y : Int) < (x : Int)
    · rw [if_pos h2]
      have h4 : y < x := by omega
      go_enter Tryd.func52, Tryd.ntmps52
      repeat any_goals (first | (go_at_call 86; refine (isNaNU_any _ _).mono ?_; rintro e w' ⟨rfl, rfl⟩) | go_skip | go_guarded | go_step | go_upon | (dsimp only []))
      exact bodyPost_ret (v := .int .i64 1) (by simp [results, Tryd.results52, go_sem]) rfl ⟨rfl, rfl⟩
    · rw [if_neg h2]
      have h4 : ¬ y < x := by omega
      go_enter Tryd.func52, Tryd.ntmps52
      repeat any_goals (first | (go_at_call 86; refine (isNaNU_any _ _).mono ?_; rintro e w' ⟨rfl, rfl⟩) | go_skip | go_guarded | go_step | go_upon | (dsimp only []))
      exact bodyPost_ret (v := .int .i64 0) (by simp [results, Tryd.results52, go_sem]) rfl ⟨rfl, rfl⟩
theorem sgnS_cases (x y : ByteArray) : (Op.bytesLess x.toList y.toList = true ∧ sgnS x y = -1) ∨ (Op.bytesLess x.toList y.toList = false ∧ (x.toList == y.toList) = false ∧ sgnS x y = 1) ∨ (Op.bytesLess x.toList y.toList = false ∧ (x.toList == y.toList) = true ∧ sgnS x y = 0) := by
  unfold sgnS
  cases h1 : Op.bytesLess x.toList y.toList with
  | true => left; refine ⟨rfl, ?_⟩; unfold sgnL; rw [if_pos h1]
  | false =>
    cases h2 : (x.toList == y.toList) with
    | true => exact .inr (.inr ⟨rfl, rfl, (sgnL_zero _ _).2 (by simpa using h2)⟩)
    | false =>
      refine .inr (.inl ⟨rfl, rfl, ?_⟩)
      unfold sgnL
      rw [if_neg (by rw [h1]; exact Bool.false_ne_true), if_neg (by simpa using h2)]
theorem CmpS_any (x y : ByteArray) (w : World) : Calls Tryd.prog 53 #[.string x, .string y] w fun e w' => e = .returned (.int .i64 (sgnS x y)) ∧ w' = w := by
  rcases sgnS_cases x y with ⟨h1, h⟩ | ⟨h1, h2, h⟩ | ⟨h1, h2, h⟩
  · rw [h]
    go_enter Tryd.func53, Tryd.ntmps53
    repeat any_goals (first | (go_at_call 87; refine (isNaNS_any _ _).mono ?_; rintro e w' ⟨rfl, rfl⟩) | go_skip | go_guarded | go_step | go_upon | (dsimp only []))
    exact bodyPost_ret (v := .int .i64 (-1)) (by simp [results, Tryd.results53, go_sem]) rfl ⟨rfl, rfl⟩
  · rw [h]
    go_enter Tryd.func53, Tryd.ntmps53
    repeat any_goals (first | (go_at_call 87; refine (isNaNS_any _ _).mono ?_; rintro e w' ⟨rfl, rfl⟩) | go_skip | go_guarded | go_step | go_upon | (dsimp only []))
    exact bodyPost_ret (v := .int .i64 1) (by simp [results, Tryd.results53, go_sem]) rfl ⟨rfl, rfl⟩
  · rw [h]
    go_enter Tryd.func53, Tryd.ntmps53
    repeat any_goals (first | (go_at_call 87; refine (isNaNS_any _ _).mono ?_; rintro e w' ⟨rfl, rfl⟩) | go_skip | go_guarded | go_step | go_upon | (dsimp only []))
    exact bodyPost_ret (v := .int .i64 0) (by simp [results, Tryd.results53, go_sem]) rfl ⟨rfl, rfl⟩
theorem ROrder_any (x y : ByteArray) (w : World) : Calls Tryd.prog 56 #[.string x, .string y] w fun e w' => e = .returned (.int .i64 (sgnS x y)) ∧ w' = w := by
  rcases sgnS_cases x y with ⟨h1, h⟩ | ⟨h1, h2, h⟩ | ⟨h1, h2, h⟩
  · rw [h]
    go_enter Tryd.func56, Tryd.ntmps56
    repeat any_goals (first | go_skip | go_guarded | go_step | go_upon | (simp only []; done))
    exact bodyPost_ret (v := .int .i64 (-1)) (by simp [results, Tryd.results56, go_sem]) rfl ⟨rfl, rfl⟩
  · rw [h]
    go_enter Tryd.func56, Tryd.ntmps56
    repeat any_goals (first | go_skip | go_guarded | go_step | go_upon | (simp only []; done))
    exact bodyPost_ret (v := .int .i64 1) (by simp [results, Tryd.results56, go_sem]) rfl ⟨rfl, rfl⟩
  · rw [h]
    go_enter Tryd.func56, Tryd.ntmps56
    repeat any_goals (first | go_skip | go_guarded | go_step | go_upon | (simp only []; done))
    exact bodyPost_ret (v := .int .i64 0) (by simp [results, Tryd.results56, go_sem]) rfl ⟨rfl, rfl⟩
theorem RSign_any (x y : Int) (w : World) : Calls Tryd.prog 54 #[.int .u64 x, .int .u64 y] w fun e w' => e = .returned (.int .i64 (cmpZZ x y)) ∧ w' = w := by
  unfold cmpZZ
  by_cases h1 : x < y
  · rw [if_pos h1]
    go_enter Tryd.func54, Tryd.ntmps54
    repeat any_goals (first | go_skip | go_guarded | go_step | go_upon | (simp only []; done))
    exact bodyPost_ret (v := .int .i64 (-1)) (by simp [results, Tryd.results54, go_sem]) rfl ⟨rfl, rfl⟩
  · rw [if_neg h1]
    by_cases h2 : y < x
    · rw [if_pos h2]
      go_enter Tryd.func54, Tryd.ntmps54
      repeat any_goals (first | go_skip | go_guarded | go_step | go_upon | (simp only []; done))
      exact bodyPost_ret (v := .int .i64 1) (by simp [results, Tryd.results54, go_sem]) rfl ⟨rfl, rfl⟩
    · rw [if_neg h2]
      go_enter Tryd.func54, Tryd.ntmps54
      repeat any_goals (first | go_skip | go_guarded | go_step | go_upon | (simp only []; done))
      exact bodyPost_ret (v := .int .i64 0) (by simp [results, Tryd.results54, go_sem]) rfl ⟨rfl, rfl⟩
set_option maxRecDepth 20000 in
set_option maxHeartbeats 2000000 in
theorem CompareK_any (aK : Option Addr) (nK cK : Nat) (keys : Nat → ByteArray) (aKB : Option Addr) (nKB cKB : Nat) (keysB : Nat → ByteArray) (w : World) (hcK : cK ≤ maxLen) (hlK : nK ≤ cK) (_hcKB : cKB ≤ maxLen) (_hlKB : nKB ≤ cKB)
    (hK : nK = 0 ∨ ∃ b off, aK = some ⟨b, off, none⟩ ∧ b < w.heap.size ∧ ∀ i, i < nK → w.cell? ⟨b, off + i, none⟩ = some (.string (keys i)) ∧ (keys i).size ≤ maxLen) (hKB : nKB = 0 ∨ ∃ b off, aKB = some ⟨b, off, none⟩ ∧ b < w.heap.size ∧ ∀ i, i < nKB → w.cell? ⟨b, off + i, none⟩ = some (.string (keysB i)) ∧ (keysB i).size ≤ maxLen) :
    Calls Tryd.prog 51 #[.slice aK nK cK, .slice aKB nKB cKB] w fun e w' => e = .returned (.int .i64 (lexN (fun i => sgnS (keys i) (keysB i)) nK nKB)) ∧ Below w.heap.size w w' := by
  obtain ⟨R, hR⟩ : ∃ R, R = lexN (fun i => sgnS (keys i) (keysB i)) nK nKB := ⟨_, rfl⟩
  rw [← hR]
  have HR := Lib.hid hR
  have HK := Lib.hid hK
  have HKB := Lib.hid hKB
  clear hK hKB hR
  simp only [maxLen] at hcK _hcKB
  go_enter Tryd.func51, Tryd.ntmps51
  repeat any_goals (first | go_skip | go_guarded | go_step | go_upon | (simp only []; done))
  go_loop [11] (fun i => ∃ k : Nat, k ≤ nK ∧ k ≤ nKB ∧ i = .int .i64 k ∧ fstC (fun i => sgnS (keys i) (keysB i)) k = 0) (fun i => nK - (intOf i).toNat)
  case atStart => exact ⟨0, Nat.zero_le _, Nat.zero_le _, rfl, rfl⟩
  case round =>
    obtain ⟨k, hk, hk2, rfl, hA⟩ := hrel
    have HA1 := Lib.hid hA
    clear hA
    by_cases hkn : k < nK
    · obtain ⟨b, off, rfl, hb, hc, -⟩ := key_lit HK.out hkn (Below.refl _ _)
      have i1 : (k : Int) < (nK : Int) := by omega
      have i2 : (0 : Int) ≤ (k : Int) := by omega
      have i5 : (k : Int).toNat = k := rfl
      by_cases hkm : k < nKB
      · obtain ⟨b2, off2, rfl, hb2, hc2, -⟩ := key_lit HKB.out hkm (Below.refl _ _)
        have i3 : ¬ (nKB : Int) ≤ (k : Int) := by omega
        obtain ⟨x, hx⟩ : ∃ x : Int, x = sgnS (keys k) (keysB k) := ⟨_, rfl⟩
        have HC := Lib.hid fun w' : World => by
          have := CmpS_any (keys k) (keysB k) w'
          rwa [← hx] at this
        have HX := Lib.hid hx
        clear hx
        by_cases h0 : x = 0
        · subst h0
          repeat any_goals (first | (go_at_call 53; refine (HC.out _).mono ?_; rintro e w' ⟨rfl, rfl⟩) | go_skip | go_guarded | go_step | go_upon | (dsimp only []))
          go_round
          case rel => exact ⟨k + 1, by omega, by omega, rfl, by simp only [fstC]; rw [HA1.out, ← HX.out]; rfl⟩
          case measure => simp [intOf]; omega
        · have e : R = x := by rw [HR.out, lexN_at HA1.out hkn hkm (by rw [← HX.out]; exact h0), ← HX.out]
          have HE := Lib.hid e
          clear e
          repeat any_goals (first | (go_at_call 53; refine (HC.out _).mono ?_; rintro e w' ⟨rfl, rfl⟩) | go_skip | go_guarded | go_step | go_upon | (dsimp only []))
          exact bodyPost_ret (v := .int .i64 x) (by simp [results, Tryd.results51, go_sem]) rfl ⟨by rw [HE.out], Below.refl _ _⟩
      · have i3 : (nKB : Int) ≤ (k : Int) := by omega
        have e : R = 1 := by
          rw [HR.out, lexN_end HA1.out (by omega)]
          unfold cmpZZ
          rw [if_neg (by omega), if_pos (by omega)]
        subst e
        repeat any_goals (first | go_skip | go_guarded | go_step | go_upon | (simp only []; done))
        exact bodyPost_ret (v := .int .i64 1) (by simp [results, Tryd.results51, go_sem]) rfl ⟨rfl, Below.refl _ _⟩
    · have hk' : k = nK := by omega
      subst hk'
      have i1 : ¬ (k : Int) < (k : Int) := by omega
      by_cases hkm : k < nKB
      · have i3 : (k : Int) < (nKB : Int) := by omega
        have e : R = -1 := by
          rw [HR.out, lexN_end HA1.out (by omega)]
          unfold cmpZZ
          rw [if_pos (by omega)]
        subst e
        repeat any_goals (first | go_skip | go_guarded | go_step | go_upon | (simp only []; done))
        exact bodyPost_ret (v := .int .i64 (-1)) (by simp [results, Tryd.results51, go_sem]) rfl ⟨rfl, Below.refl _ _⟩
      · have i3 : ¬ (k : Int) < (nKB : Int) := by omega
        have e : R = 0 := by
          rw [HR.out, lexN_end HA1.out (by omega)]
          unfold cmpZZ
          rw [if_neg (by omega), if_neg (by omega)]
        subst e
        repeat any_goals (first | go_skip | go_guarded | go_step | go_upon | (simp only []; done))
        exact bodyPost_ret (v := .int .i64 0) (by simp [results, Tryd.results51, go_sem]) rfl ⟨rfl, Below.refl _ _⟩
set_option maxRecDepth 20000 in
/-- cmp.Or: the first that is not 0 -/
theorem Or_any (f : Nat → Int) (b off n c : Nat) (w : World) (hn : n ≤ c) (hc : c ≤ maxLen) (_hb : b < w.heap.size) (hf : ∀ i, i < n → w.cell? ⟨b, off + i, none⟩ = some (.int .i64 (f i))) :
    Calls Tryd.prog 50 #[.slice (some ⟨b, off, none⟩) n c] w fun e w' => e = .returned (.int .i64 (fstC f n)) ∧ Below w.heap.size w w' := by
  obtain ⟨R, hR⟩ : ∃ R, R = fstC f n := ⟨_, rfl⟩
  rw [← hR]
  have HR := Lib.hid hR
  have HF := Lib.hid hf
  clear hf hR
  simp only [maxLen] at hc
  go_enter Tryd.func50, Tryd.ntmps50
  repeat any_goals (first | go_skip | go_guarded | go_step | go_upon | (simp only []; done))
  go_loop [8] (fun i => ∃ k : Nat, k ≤ n ∧ i = .int .i64 k ∧ fstC f k = 0) (fun i => n - (intOf i).toNat)
  case atStart => exact ⟨0, Nat.zero_le _, rfl, rfl⟩
  case round =>
    obtain ⟨k, hk, rfl, hA⟩ := hrel
    have HA1 := Lib.hid hA
    clear hA
    by_cases hkn : k < n
    · have i1 : (k : Int) < (n : Int) := by omega
      have i2 : (0 : Int) ≤ (k : Int) := by omega
      have i5 : (k : Int).toNat = k := rfl
      have hc1 := HF.out k hkn
      obtain ⟨x, hx⟩ : ∃ x : Int, x = f k := ⟨_, rfl⟩
      rw [← hx] at hc1
      have HX := Lib.hid hx
      clear hx
      by_cases h0 : x = 0
      · subst h0
        repeat any_goals (first | go_skip | go_guarded | go_step | go_upon | (simp only []; done))
        go_round
        case rel => exact ⟨k + 1, by omega, rfl, by simp only [fstC]; rw [HA1.out, ← HX.out]; rfl⟩
        case measure => simp [intOf]; omega
      · have e : R = x := by
          have h1 : fstC f (k + 1) = f k := by
            simp only [fstC]
            rw [HA1.out]
            rfl
          rw [HR.out, fstC_keep (k := k + 1) (by rw [h1, ← HX.out]; exact h0) (by omega), h1, HX.out]
        have HE := Lib.hid e
        clear e
        repeat any_goals (first | go_skip | go_guarded | go_step | go_upon | (simp only []; done))
        exact bodyPost_ret (v := .int .i64 x) (by simp [results, Tryd.results50, go_sem]) rfl ⟨by rw [HE.out], Below.refl _ _⟩
    · have hk' : k = n := by omega
      subst hk'
      have i1 : ¬ (k : Int) < (k : Int) := by omega
      have e : R = 0 := by rw [HR.out]; exact HA1.out
      subst e
      repeat any_goals (first | go_skip | go_guarded | go_step | go_upon | (simp only []; done))
      exact bodyPost_ret (v := .int .i64 0) (by simp [results, Tryd.results50, go_sem]) rfl ⟨rfl, Below.refl _ _⟩
end Go.Proofs.YtminijokbeclhaaDoor
