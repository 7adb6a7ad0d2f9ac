/- Contracts: utf.Valid, rise: names rise strictly, and are valid. -/
import Derived.Test.YtminijokbeclhaaDoorUtfM
import Derived.Test.YtminijokbeclhaaDoorVFew
import Derived.Test.YtminijokbeclhaaDoorShelfV
namespace Go.Proofs.YtminijokbeclhaaDoor
open Go.RowKit
abbrev U8T (w : World) : Prop := Lib.Utf8Tabs 0 1 w
theorem PValid_any (s : ByteArray) (w : World) (hs : s.size ≤ maxLen) (hT : U8T w) :
    Calls Tryd.prog 73 #[.string s] w fun e w' => e = .returned (.bool (validS s)) ∧ Below w.heap.size w w' := by
  have C := Lib.hid (Tryd.utf8_ValidString s w (by simp only [maxLen] at hs; omega) hT)
  have e := Lib.hid (show validS s = Lib.validD s.data.toList from rfl)
  clear hT
  generalize validS s = x at *
  generalize Lib.validD s.data.toList = y at *
  obtain rfl : x = y := e.out
  clear e
  go_enter Tryd.func73, Tryd.ntmps73
  repeat any_goals (first | (go_at_call 100; refine (C.out).mono ?_; rintro e w1 ⟨rfl, hb1⟩) | go_skip | go_guarded | go_step | go_upon | (dsimp only []))
  exact bodyPost_ret (v := .bool x) (by simp [results, Tryd.results73, go_sem]) rfl ⟨rfl, by (repeat first | with_reducible exact Below.refl _ _ | with_reducible assumption | with_reducible refine Below.drew ?_ | with_reducible refine below_alloc ?_ _ | ((with_reducible refine Below.setCell ?_ ?_ _); rotate_left; (focus (first | with_reducible exact Nat.le_refl _ | (simp; done) | (simp; omega) | omega))) | (with_reducible refine below_trans ?_ (by assumption)))⟩
/-- do the first n names rise, each of them valid? -/
def badKey (keys : Nat → ByteArray) (i : Nat) : Bool := !validS (keys i) || (decide (0 < i) && !Op.bytesLess (keys (i - 1)).toList (keys i).toList)
def riseB (keys : Nat → ByteArray) (n : Nat) : Bool := !anyN (badKey keys) n
theorem key_two {w wr : World} {aK : Option Addr} {nK i : Nat} {keys : Nat → ByteArray} (hK : nK = 0 ∨ ∃ b off, aK = some ⟨b, off, none⟩ ∧ b < w.heap.size ∧ ∀ i, i < nK → w.cell? ⟨b, off + i, none⟩ = some (.string (keys i)) ∧ (keys i).size ≤ maxLen)
    (hi : i < nK) (hB : Below w.heap.size w wr) : ∃ b off : Nat, aK = some ⟨b, off, none⟩ ∧ b < w.heap.size ∧ wr.cell? ⟨b, off + i, none⟩ = some (.string (keys i)) ∧ wr.cell? ⟨b, off + (i - 1), none⟩ = some (.string (keys (i - 1))) ∧ (keys i).size ≤ maxLen := by
  rcases hK with h | ⟨b, off, rfl, hb, hc⟩
  · omega
  · exact ⟨b, off, rfl, hb, by rw [hB.cell (p := ⟨b, off + i, none⟩) hb]; exact (hc i hi).1, by rw [hB.cell (p := ⟨b, off + (i - 1), none⟩) hb]; exact (hc (i - 1) (by omega)).1, (hc i hi).2⟩
set_option maxRecDepth 20000 in
set_option maxHeartbeats 1000000 in
theorem rise_any (aK : Option Addr) (nK cK : Nat) (keys : Nat → ByteArray) (w : World) (hT : U8T w) (hcK : cK ≤ maxLen) (hlK : nK ≤ cK)
    (hK : nK = 0 ∨ ∃ b off, aK = some ⟨b, off, none⟩ ∧ b < w.heap.size ∧ ∀ i, i < nK → w.cell? ⟨b, off + i, none⟩ = some (.string (keys i)) ∧ (keys i).size ≤ maxLen) :
    Calls Tryd.prog 70 #[.slice aK nK cK] w fun e w' => e = .returned (.bool (riseB keys nK)) ∧ Below w.heap.size w w' := by
  obtain ⟨R, hR⟩ : ∃ R, R = riseB keys nK := ⟨_, rfl⟩
  rw [← hR]
  have HR := Lib.hid hR
  have HK := Lib.hid hK
  have HT := Lib.hid hT
  clear hR hK hT
  simp only [maxLen] at hcK
  go_enter Tryd.func70, Tryd.ntmps70
  repeat any_goals (first | go_skip | go_guarded | go_step | go_upon | (simp only []; done))
  go_loopw [7] (fun i wr => ∃ k : Nat, k ≤ nK ∧ i = .int .i64 k ∧ anyN (badKey keys) k = false ∧ Below w.heap.size w wr) (fun i _ => nK - (intOf i).toNat)
  case atStart => exact ⟨0, Nat.zero_le _, rfl, rfl, Below.refl _ _⟩
  case round =>
    obtain ⟨k, hk, rfl, hA, hW⟩ := hrel
    have HA := Lib.hid hA
    clear hA
    by_cases hkn : k < nK
    · obtain ⟨b, off, rfl, hb, hc, hc1, hs⟩ := key_two HK.out hkn hW
      have i1 : (k : Int) < (nK : Int) := by omega
      have i2 : (0 : Int) ≤ (k : Int) := by omega
      have i5 : (k : Int).toNat = k := rfl
      obtain ⟨x, hx⟩ : ∃ x : Bool, x = validS (keys k) := ⟨_, rfl⟩
      have HC : Hid (∀ w'' : World, Below w.heap.size w w'' → Calls Tryd.prog 73 #[.string (keys k)] w'' fun e w' => e = .returned (.bool x) ∧ Below w''.heap.size w'' w') := Lib.hid fun w'' hb => by
        have := PValid_any (keys k) w'' hs (Utf8Tabs_below HT.out hb)
        rwa [← hx] at this
      obtain ⟨y, hy⟩ : ∃ y : Bool, y = Op.bytesLess (keys (k - 1)).toList (keys k).toList := ⟨_, rfl⟩
      have HX := Lib.hid (show badKey keys k = (!x || (decide (0 < k) && !y)) by rw [hx, hy]; rfl)
      have HY := Lib.hid hy
      clear hx hy hs
      cases x with
      | false =>
        have e : R = false := by rw [HR.out]; unfold riseB; rw [anyN_of (p := badKey keys) (k := k) (by rw [HX.out]; rfl) hkn]; rfl
        subst e
        repeat any_goals (first | (go_at_call 73; refine (HC.out _ (by (repeat first | with_reducible exact Below.refl _ _ | with_reducible assumption | with_reducible refine Below.drew ?_ | with_reducible refine below_alloc ?_ _ | ((with_reducible refine Below.setCell ?_ ?_ _); rotate_left; (focus (first | with_reducible exact Nat.le_refl _ | (simp; done) | (simp; omega) | omega))) | (with_reducible refine below_trans ?_ (by assumption))))).mono ?_; rintro e w1 ⟨rfl, hb1⟩) | go_skip | go_guarded | go_step | go_upon | (dsimp only []))
        exact bodyPost_ret (v := .bool false) (by simp [results, Tryd.results70, go_sem]) rfl ⟨rfl, by (repeat first | with_reducible exact Below.refl _ _ | with_reducible assumption | with_reducible refine Below.drew ?_ | with_reducible refine below_alloc ?_ _ | ((with_reducible refine Below.setCell ?_ ?_ _); rotate_left; (focus (first | with_reducible exact Nat.le_refl _ | (simp; done) | (simp; omega) | omega))) | (with_reducible refine below_trans ?_ (by assumption)))⟩
      | true =>
        by_cases k0 : k = 0
        · subst k0
          rw [Nat.add_zero] at hc
          repeat any_goals (first | (go_at_call 73; refine (HC.out _ (by (repeat first | with_reducible exact Below.refl _ _ | with_reducible assumption | with_reducible refine Below.drew ?_ | with_reducible refine below_alloc ?_ _ | ((with_reducible refine Below.setCell ?_ ?_ _); rotate_left; (focus (first | with_reducible exact Nat.le_refl _ | (simp; done) | (simp; omega) | omega))) | (with_reducible refine below_trans ?_ (by assumption))))).mono ?_; rintro e w1 ⟨rfl, hb1⟩) | go_skip | go_guarded | go_step | go_upon | (dsimp only []))
          go_roundw
          case rel => exact ⟨1, by omega, rfl, by simp only [anyN]; rw [HX.out]; rfl, by (repeat first | with_reducible exact Below.refl _ _ | with_reducible assumption | with_reducible refine Below.drew ?_ | with_reducible refine below_alloc ?_ _ | ((with_reducible refine Below.setCell ?_ ?_ _); rotate_left; (focus (first | with_reducible exact Nat.le_refl _ | (simp; done) | (simp; omega) | omega))) | (with_reducible refine below_trans ?_ (by assumption)))⟩
          case measure => simp [intOf]; omega
        · have i6 : (0 : Int) < (k : Int) := by omega
          have i7 : (0 : Int) ≤ (k : Int) - 1 := by omega
          have i8 : ((k : Int) - 1).toNat = k - 1 := by omega
          have i9 : (k : Int) - 1 < (nK : Int) := by omega
          cases y with
          | false =>
            have e : R = false := by rw [HR.out]; unfold riseB; rw [anyN_of (p := badKey keys) (k := k) (by rw [HX.out, decide_eq_true (by omega)]; rfl) hkn]; rfl
            subst e
            have hyy := HY.out.symm
            repeat any_goals (first | (go_at_call 73; refine (HC.out _ (by (repeat first | with_reducible exact Below.refl _ _ | with_reducible assumption | with_reducible refine Below.drew ?_ | with_reducible refine below_alloc ?_ _ | ((with_reducible refine Below.setCell ?_ ?_ _); rotate_left; (focus (first | with_reducible exact Nat.le_refl _ | (simp; done) | (simp; omega) | omega))) | (with_reducible refine below_trans ?_ (by assumption))))).mono ?_; rintro e w1 ⟨rfl, hb1⟩; have hc2 := keep_cell hb1 hc1) | go_skip | go_guarded | go_step | go_upon | (dsimp only []))
            exact bodyPost_ret (v := .bool false) (by simp [results, Tryd.results70, go_sem]) rfl ⟨rfl, by (repeat first | with_reducible exact Below.refl _ _ | with_reducible assumption | with_reducible refine Below.drew ?_ | with_reducible refine below_alloc ?_ _ | ((with_reducible refine Below.setCell ?_ ?_ _); rotate_left; (focus (first | with_reducible exact Nat.le_refl _ | (simp; done) | (simp; omega) | omega))) | (with_reducible refine below_trans ?_ (by assumption)))⟩
          | true =>
            have hyy := HY.out.symm
            repeat any_goals (first | (go_at_call 73; refine (HC.out _ (by (repeat first | with_reducible exact Below.refl _ _ | with_reducible assumption | with_reducible refine Below.drew ?_ | with_reducible refine below_alloc ?_ _ | ((with_reducible refine Below.setCell ?_ ?_ _); rotate_left; (focus (first | with_reducible exact Nat.le_refl _ | (simp; done) | (simp; omega) | omega))) | (with_reducible refine below_trans ?_ (by assumption))))).mono ?_; rintro e w1 ⟨rfl, hb1⟩; have hc2 := keep_cell hb1 hc1) | go_skip | go_guarded | go_step | go_upon | (dsimp only []))
            go_roundw
            case rel => exact ⟨k + 1, by omega, rfl, by simp only [anyN]; rw [HA.out, HX.out]; simp, by (repeat first | with_reducible exact Below.refl _ _ | with_reducible assumption | with_reducible refine Below.drew ?_ | with_reducible refine below_alloc ?_ _ | ((with_reducible refine Below.setCell ?_ ?_ _); rotate_left; (focus (first | with_reducible exact Nat.le_refl _ | (simp; done) | (simp; omega) | omega))) | (with_reducible refine below_trans ?_ (by assumption)))⟩
            case measure => simp [intOf]; omega
    · have hk' : k = nK := by omega
      subst hk'
      have i1 : ¬ (k : Int) < (k : Int) := by omega
      have e : R = true := by rw [HR.out]; unfold riseB; rw [HA.out]; rfl
      subst e
      repeat any_goals (first | go_skip | go_guarded | go_step | go_upon | (simp only []; done))
      exact bodyPost_ret (v := .bool true) (by simp [results, Tryd.results70, go_sem]) rfl ⟨rfl, hW⟩
end Go.Proofs.YtminijokbeclhaaDoor
