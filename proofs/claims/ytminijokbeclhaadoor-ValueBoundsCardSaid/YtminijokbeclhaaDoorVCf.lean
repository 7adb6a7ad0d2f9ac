/- Contracts: slices.IndexFunc, slices.ContainsFunc. -/
import Derived.Test.YtminijokbeclhaaDoorVFew
namespace Go.Proofs.YtminijokbeclhaaDoor
open Go.RowKit
/-- the first of n at which it is so; -1 -/
def fstN (p : Nat → Bool) : Nat → Int
  | 0 => -1
  | k + 1 => if fstN p k = -1 then (if p k = true then (k : Int) else -1) else fstN p k
theorem fstN_le {p : Nat → Bool} : ∀ n, -1 ≤ fstN p n := by
  intro n
  induction n with
  | zero => exact Int.le_refl _
  | succ n ih =>
    simp only [fstN]
    split
    · split <;> omega
    · exact ih
theorem fstN_keep {p : Nat → Bool} {k n : Nat} (h : fstN p k ≠ -1) (hk : k ≤ n) : fstN p n = fstN p k := by
  induction n with
  | zero => have : k = 0 := by omega
            subst this; rfl
  | succ n ih =>
    by_cases c : k ≤ n
    · have := ih c
      simp only [fstN]
      rw [this, if_neg h]
    · have : k = n + 1 := by omega
      subst this
      rfl
theorem calls_at (f : FuncId) {P : Program} {args : Array Value} {w : World} {Q Q' : Ending → World → Prop} (h : Calls P f args w Q) (hq : ∀ e w', Q e w' → Q' e w') : Calls P f args w Q' := h.mono hq
theorem IndexV_any (f : FuncId) (eg : ∀ args W, (callFunc f args).run Tryd.prog W = .ok (.enter f args) W) (p : Nat → Bool) (aL : Option Addr) (nL cL : Nat) (kids : Nat → VT) (w : World) (hcL : cL ≤ maxLen) (hlL : nL ≤ cL)
    (hL : nL = 0 ∨ ∃ b off, aL = some ⟨b, off, none⟩ ∧ b < w.heap.size ∧ ∀ i, i < nL → ∀ j, j < 10 → w.cell? ⟨b, off + i * 10 + j, none⟩ = (kids i).cells[j]?) (hK : ∀ i, i < nL → (kids i).In w)
    (hf : ∀ i, i < nL → ∀ w' : World, Below w.heap.size w w' → Calls Tryd.prog f #[(kids i).agg] w' fun e w2 => e = .returned (.bool (p i)) ∧ Below w'.heap.size w' w2) :
    Calls Tryd.prog 91 #[.slice aL nL cL, .func (.func f) #[] #[]] w fun e w' => e = .returned (.int .i64 (fstN p nL)) ∧ Below w.heap.size w w' := by
  have HL := Lib.hid hL
  have HK := Lib.hid hK
  have HF := Lib.hid hf
  clear hL hK hf
  simp only [maxLen] at hcL
  go_enter Tryd.func91, Tryd.ntmps91
  repeat any_goals (first | go_skip | go_guarded | go_step | go_upon | (simp only []; done))
  go_loopw [8] (fun i wr => ∃ k : Nat, k ≤ nL ∧ i = .int .i64 k ∧ fstN p k = -1 ∧ Below w.heap.size w wr) (fun i _ => nL - (intOf i).toNat)
  case atStart => exact ⟨0, Nat.zero_le _, rfl, rfl, Below.refl _ _⟩
  case round =>
    obtain ⟨k, hk, rfl, hA, hW⟩ := hrel
    have HA1 := Lib.hid hA
    clear hA
    by_cases hkn : k < nL
    · obtain ⟨b, off, kind', neg', V', bits', text', aL', nL', cL', kids', aK', nK', cK', keys', rfl, hb, hkid, ⟨c0, c1, c2, c3, c4, c5, c6, c7, c8, c9⟩, -⟩ := kid_lit HL.out HK.out hkn hW
      have i1 : (k : Int) < (nL : Int) := by omega
      have i2 : (0 : Int) ≤ (k : Int) := by omega
      have i5 : (k : Int).toNat = k := rfl
      obtain ⟨x, hx⟩ : ∃ x : Bool, x = p k := ⟨_, rfl⟩
      have HC : ∀ w'' : World, Below wr.heap.size wr w'' → Calls Tryd.prog f #[(kids k).agg] w'' fun e w' => e = .returned (.bool x) ∧ Below w''.heap.size w'' w' := fun w'' hb => by
        have := HF.out k hkn w'' (below_trans hW hb)
        rwa [← hx] at this
      rw [hkid] at HC
      simp only [VT.agg, VT.cells] at HC
      have HC := Lib.hid HC
      have HX := Lib.hid hx
      clear hkid hx
      cases x with
      | true =>
        repeat any_goals (first | (with_reducible refine calls_at f (HC.out _ (by (repeat first | with_reducible exact Below.refl _ _ | with_reducible assumption | with_reducible refine Below.drew ?_ | with_reducible refine below_alloc ?_ _ | ((with_reducible refine Below.setCell ?_ ?_ _); rotate_left; (focus (first | with_reducible exact Nat.le_refl _ | (simp; done) | (simp; omega) | omega))) | (with_reducible refine below_trans ?_ (by assumption))))) ?_; rintro e w1 ⟨rfl, hb1⟩) | go_skip | go_guarded | go_step | go_upon | (dsimp only []))
        have e : fstN p nL = k := by
          have h1 : fstN p (k + 1) = k := by simp only [fstN]; rw [HA1.out, ← HX.out]; simp
          rw [fstN_keep (k := k + 1) (by rw [h1]; omega) (by omega), h1]
        exact bodyPost_ret (v := .int .i64 k) (by simp [results, Tryd.results91, go_sem]) rfl ⟨by rw [e], by (repeat first | with_reducible exact Below.refl _ _ | with_reducible assumption | with_reducible refine Below.drew ?_ | with_reducible refine below_alloc ?_ _ | ((with_reducible refine Below.setCell ?_ ?_ _); rotate_left; (focus (first | with_reducible exact Nat.le_refl _ | (simp; done) | (simp; omega) | omega))) | (with_reducible refine below_trans ?_ (by assumption)))⟩
      | false =>
        repeat any_goals (first | (with_reducible refine calls_at f (HC.out _ (by (repeat first | with_reducible exact Below.refl _ _ | with_reducible assumption | with_reducible refine Below.drew ?_ | with_reducible refine below_alloc ?_ _ | ((with_reducible refine Below.setCell ?_ ?_ _); rotate_left; (focus (first | with_reducible exact Nat.le_refl _ | (simp; done) | (simp; omega) | omega))) | (with_reducible refine below_trans ?_ (by assumption))))) ?_; rintro e w1 ⟨rfl, hb1⟩) | go_skip | go_guarded | go_step | go_upon | (dsimp only []))
        go_roundw
        case rel => exact ⟨k + 1, by omega, rfl, by simp only [fstN]; rw [HA1.out, ← HX.out]; simp, by (repeat first | with_reducible exact Below.refl _ _ | with_reducible assumption | with_reducible refine Below.drew ?_ | with_reducible refine below_alloc ?_ _ | ((with_reducible refine Below.setCell ?_ ?_ _); rotate_left; (focus (first | with_reducible exact Nat.le_refl _ | (simp; done) | (simp; omega) | omega))) | (with_reducible refine below_trans ?_ (by assumption)))⟩
        case measure => simp [intOf]; omega
    · have hk' : k = nL := by omega
      subst hk'
      have i1 : ¬ (k : Int) < (k : Int) := by omega
      repeat any_goals (first | go_skip | go_guarded | go_step | go_upon | (simp only []; done))
      exact bodyPost_ret (v := .int .i64 (-1)) (by simp [results, Tryd.results91, go_sem]) rfl ⟨by rw [HA1.out], hW⟩
/-- is it so at one of them? -/
theorem fstN_any {p : Nat → Bool} (n : Nat) : decide (0 ≤ fstN p n) = anyN p n := by
  induction n with
  | zero => rfl
  | succ n ih =>
    have h0 : fstN p (n + 1) = if fstN p n = -1 then (if p n = true then (n : Int) else -1) else fstN p n := rfl
    have h2 : anyN p (n + 1) = (anyN p n || p n) := rfl
    rw [h2, ← ih]
    have h1 := fstN_le (p := p) n
    by_cases c : fstN p n = -1
    · rw [if_pos c] at h0
      cases hp : p n
      · rw [hp, if_neg Bool.false_ne_true] at h0
        rw [decide_eq_false (show ¬ (0 : Int) ≤ fstN p (n + 1) by omega), decide_eq_false (show ¬ (0 : Int) ≤ fstN p n by omega)]
        rfl
      · rw [hp, if_pos rfl] at h0
        rw [decide_eq_true (show (0 : Int) ≤ fstN p (n + 1) by omega), Bool.or_true]
    · rw [if_neg c] at h0
      rw [decide_eq_true (show (0 : Int) ≤ fstN p (n + 1) by omega), decide_eq_true (show (0 : Int) ≤ fstN p n by omega)]
      rfl
theorem ContV_any (f : FuncId) (eg : ∀ args W, (callFunc f args).run Tryd.prog W = .ok (.enter f args) W) (p : Nat → Bool) (aL : Option Addr) (nL cL : Nat) (kids : Nat → VT) (w : World) (hcL : cL ≤ maxLen) (hlL : nL ≤ cL)
    (hL : nL = 0 ∨ ∃ b off, aL = some ⟨b, off, none⟩ ∧ b < w.heap.size ∧ ∀ i, i < nL → ∀ j, j < 10 → w.cell? ⟨b, off + i * 10 + j, none⟩ = (kids i).cells[j]?) (hK : ∀ i, i < nL → (kids i).In w)
    (hf : ∀ i, i < nL → ∀ w' : World, Below w.heap.size w w' → Calls Tryd.prog f #[(kids i).agg] w' fun e w2 => e = .returned (.bool (p i)) ∧ Below w'.heap.size w' w2) :
    Calls Tryd.prog 59 #[.slice aL nL cL, .func (.func f) #[] #[]] w fun e w' => e = .returned (.bool (anyN p nL)) ∧ Below w.heap.size w w' := by
  have C := IndexV_any f eg p aL nL cL kids w hcL hlL hL hK hf
  obtain ⟨z, hz⟩ : ∃ z, z = fstN p nL := ⟨_, rfl⟩
  have e := fstN_any (p := p) nL
  rw [← hz] at C e
  have C := Lib.hid C
  rw [← e]
  clear hL hK hf hz e
  go_enter Tryd.func59, Tryd.ntmps59
  repeat any_goals (first | (go_at_call 91; with_reducible refine C.out.mono ?_; rintro e w1 ⟨rfl, hb1⟩) | go_skip | go_guarded | go_step | go_upon | (dsimp only []))
  exact bodyPost_ret (v := .bool (decide (0 ≤ z))) (by simp [results, Tryd.results59, go_sem]) rfl ⟨rfl, by (repeat first | with_reducible exact Below.refl _ _ | with_reducible assumption | with_reducible refine Below.drew ?_ | with_reducible refine below_alloc ?_ _ | ((with_reducible refine Below.setCell ?_ ?_ _); rotate_left; (focus (first | with_reducible exact Nat.le_refl _ | (simp; done) | (simp; omega) | omega))) | (with_reducible refine below_trans ?_ (by assumption)))⟩
theorem IndexK_any (f : FuncId) (eg : ∀ args W, (callFunc f args).run Tryd.prog W = .ok (.enter f args) W) (p : Nat → Bool) (aK : Option Addr) (nK cK : Nat) (keys : Nat → ByteArray) (w : World) (hcK : cK ≤ maxLen) (hlK : nK ≤ cK)
    (hK : nK = 0 ∨ ∃ b off, aK = some ⟨b, off, none⟩ ∧ b < w.heap.size ∧ ∀ i, i < nK → w.cell? ⟨b, off + i, none⟩ = some (.string (keys i)) ∧ (keys i).size ≤ maxLen)
    (hf : ∀ i, i < nK → ∀ w' : World, Below w.heap.size w w' → Calls Tryd.prog f #[.string (keys i)] w' fun e w2 => e = .returned (.bool (p i)) ∧ Below w'.heap.size w' w2) :
    Calls Tryd.prog 99 #[.slice aK nK cK, .func (.func f) #[] #[]] w fun e w' => e = .returned (.int .i64 (fstN p nK)) ∧ Below w.heap.size w w' := by
  have HK := Lib.hid hK
  have HF := Lib.hid hf
  clear hK hf
  simp only [maxLen] at hcK
  go_enter Tryd.func99, Tryd.ntmps99
  repeat any_goals (first | go_skip | go_guarded | go_step | go_upon | (simp only []; done))
  go_loopw [8] (fun i wr => ∃ k : Nat, k ≤ nK ∧ i = .int .i64 k ∧ fstN p k = -1 ∧ Below w.heap.size w wr) (fun i _ => nK - (intOf i).toNat)
  case atStart => exact ⟨0, Nat.zero_le _, rfl, rfl, Below.refl _ _⟩
  case round =>
    obtain ⟨k, hk, rfl, hA, hW⟩ := hrel
    have HA1 := Lib.hid hA
    clear hA
    by_cases hkn : k < nK
    · obtain ⟨b, off, rfl, hb, hc, hs⟩ := key_lit HK.out hkn hW
      clear hs
      have i1 : (k : Int) < (nK : Int) := by omega
      have i2 : (0 : Int) ≤ (k : Int) := by omega
      have i5 : (k : Int).toNat = k := rfl
      obtain ⟨x, hx⟩ : ∃ x : Bool, x = p k := ⟨_, rfl⟩
      have HC : ∀ w'' : World, Below wr.heap.size wr w'' → Calls Tryd.prog f #[.string (keys k)] w'' fun e w' => e = .returned (.bool x) ∧ Below w''.heap.size w'' w' := fun w'' hb => by
        have := HF.out k hkn w'' (below_trans hW hb)
        rwa [← hx] at this
      have HC := Lib.hid HC
      have HX := Lib.hid hx
      clear hx
      cases x with
      | true =>
        repeat any_goals (first | (with_reducible refine calls_at f (HC.out _ (by (repeat first | with_reducible exact Below.refl _ _ | with_reducible assumption | with_reducible refine Below.drew ?_ | with_reducible refine below_alloc ?_ _ | ((with_reducible refine Below.setCell ?_ ?_ _); rotate_left; (focus (first | with_reducible exact Nat.le_refl _ | (simp; done) | (simp; omega) | omega))) | (with_reducible refine below_trans ?_ (by assumption))))) ?_; rintro e w1 ⟨rfl, hb1⟩) | go_skip | go_guarded | go_step | go_upon | (dsimp only []))
        have e : fstN p nK = k := by
          have h1 : fstN p (k + 1) = k := by simp only [fstN]; rw [HA1.out, ← HX.out]; simp
          rw [fstN_keep (k := k + 1) (by rw [h1]; omega) (by omega), h1]
        exact bodyPost_ret (v := .int .i64 k) (by simp [results, Tryd.results99, go_sem]) rfl ⟨by rw [e], by (repeat first | with_reducible exact Below.refl _ _ | with_reducible assumption | with_reducible refine Below.drew ?_ | with_reducible refine below_alloc ?_ _ | ((with_reducible refine Below.setCell ?_ ?_ _); rotate_left; (focus (first | with_reducible exact Nat.le_refl _ | (simp; done) | (simp; omega) | omega))) | (with_reducible refine below_trans ?_ (by assumption)))⟩
      | false =>
        repeat any_goals (first | (with_reducible refine calls_at f (HC.out _ (by (repeat first | with_reducible exact Below.refl _ _ | with_reducible assumption | with_reducible refine Below.drew ?_ | with_reducible refine below_alloc ?_ _ | ((with_reducible refine Below.setCell ?_ ?_ _); rotate_left; (focus (first | with_reducible exact Nat.le_refl _ | (simp; done) | (simp; omega) | omega))) | (with_reducible refine below_trans ?_ (by assumption))))) ?_; rintro e w1 ⟨rfl, hb1⟩) | go_skip | go_guarded | go_step | go_upon | (dsimp only []))
        go_roundw
        case rel => exact ⟨k + 1, by omega, rfl, by simp only [fstN]; rw [HA1.out, ← HX.out]; simp, by (repeat first | with_reducible exact Below.refl _ _ | with_reducible assumption | with_reducible refine Below.drew ?_ | with_reducible refine below_alloc ?_ _ | ((with_reducible refine Below.setCell ?_ ?_ _); rotate_left; (focus (first | with_reducible exact Nat.le_refl _ | (simp; done) | (simp; omega) | omega))) | (with_reducible refine below_trans ?_ (by assumption)))⟩
        case measure => simp [intOf]; omega
    · have hk' : k = nK := by omega
      subst hk'
      have i1 : ¬ (k : Int) < (k : Int) := by omega
      repeat any_goals (first | go_skip | go_guarded | go_step | go_upon | (simp only []; done))
      exact bodyPost_ret (v := .int .i64 (-1)) (by simp [results, Tryd.results99, go_sem]) rfl ⟨by rw [HA1.out], hW⟩
theorem ContK_any (f : FuncId) (eg : ∀ args W, (callFunc f args).run Tryd.prog W = .ok (.enter f args) W) (p : Nat → Bool) (aK : Option Addr) (nK cK : Nat) (keys : Nat → ByteArray) (w : World) (hcK : cK ≤ maxLen) (hlK : nK ≤ cK)
    (hK : nK = 0 ∨ ∃ b off, aK = some ⟨b, off, none⟩ ∧ b < w.heap.size ∧ ∀ i, i < nK → w.cell? ⟨b, off + i, none⟩ = some (.string (keys i)) ∧ (keys i).size ≤ maxLen)
    (hf : ∀ i, i < nK → ∀ w' : World, Below w.heap.size w w' → Calls Tryd.prog f #[.string (keys i)] w' fun e w2 => e = .returned (.bool (p i)) ∧ Below w'.heap.size w' w2) :
    Calls Tryd.prog 68 #[.slice aK nK cK, .func (.func f) #[] #[]] w fun e w' => e = .returned (.bool (anyN p nK)) ∧ Below w.heap.size w w' := by
  have C := IndexK_any f eg p aK nK cK keys w hcK hlK hK hf
  obtain ⟨z, hz⟩ : ∃ z, z = fstN p nK := ⟨_, rfl⟩
  have e := fstN_any (p := p) nK
  rw [← hz] at C e
  have C := Lib.hid C
  rw [← e]
  clear hK hf hz e
  go_enter Tryd.func68, Tryd.ntmps68
  repeat any_goals (first | (go_at_call 99; with_reducible refine C.out.mono ?_; rintro e w1 ⟨rfl, hb1⟩) | go_skip | go_guarded | go_step | go_upon | (dsimp only []))
  exact bodyPost_ret (v := .bool (decide (0 ≤ z))) (by simp [results, Tryd.results68, go_sem]) rfl ⟨rfl, by (repeat first | with_reducible exact Below.refl _ _ | with_reducible assumption | with_reducible refine Below.drew ?_ | with_reducible refine below_alloc ?_ _ | ((with_reducible refine Below.setCell ?_ ?_ _); rotate_left; (focus (first | with_reducible exact Nat.le_refl _ | (simp; done) | (simp; omega) | omega))) | (with_reducible refine below_trans ?_ (by assumption)))⟩
end Go.Proofs.YtminijokbeclhaaDoor
