/- Contracts: slices.Index over names; Get of the program and of the document. -/
import Derived.Test.YtminijokbeclhaaDoorCounts
namespace Go.Proofs.YtminijokbeclhaaDoor
open Go.RowKit
/-- at which place the name stands: -1: nowhere -/
def keyAt (keys : Nat → ByteArray) (name : ByteArray) (n : Nat) : Int := fstN (fun i => decide (keys i = name)) n
set_option maxRecDepth 20000 in
set_option maxHeartbeats 1000000 in
theorem Index_any (aK : Option Addr) (nK cK : Nat) (keys : Nat → ByteArray) (name : ByteArray) (w : World) (hcK : cK ≤ maxLen) (hlK : nK ≤ cK)
    (hK : nK = 0 ∨ ∃ b off, aK = some ⟨b, off, none⟩ ∧ b < w.heap.size ∧ ∀ i, i < nK → w.cell? ⟨b, off + i, none⟩ = some (.string (keys i)) ∧ (keys i).size ≤ maxLen) :
    Calls Tryd.prog 39 #[.slice aK nK cK, .string name] w fun e w' => e = .returned (.int .i64 (keyAt keys name nK)) ∧ Below w.heap.size w w' := by
  obtain ⟨R, hR⟩ : ∃ R, R = keyAt keys name nK := ⟨_, rfl⟩
  rw [← hR]
  have HR := Lib.hid hR
  have HK := Lib.hid hK
  clear hR hK
  simp only [maxLen] at hcK
  go_enter Tryd.func39, Tryd.ntmps39
  repeat any_goals (first | go_skip | go_guarded | go_step | go_upon | (simp only []; done))
  go_loop [8] (fun i => ∃ k : Nat, k ≤ nK ∧ i = .int .i64 k ∧ keyAt keys name k = -1) (fun i => nK - (intOf i).toNat)
  case atStart => exact ⟨0, Nat.zero_le _, rfl, rfl⟩
  case round =>
    obtain ⟨k, hk, rfl, hA⟩ := hrel
    have HA := Lib.hid hA
    clear hA
    by_cases hkn : k < nK
    · obtain ⟨b, off, rfl, hb, hc, -⟩ := key_lit HK.out hkn (Below.refl _ _)
      have i1 : (k : Int) < (nK : Int) := by omega
      have i2 : (0 : Int) ≤ (k : Int) := by omega
      have i5 : (k : Int).toNat = k := rfl
      by_cases he : keys k = name
      · have he2 : name.toList = (keys k).toList := by rw [he]
        have hs : keyAt keys name (k + 1) = k := by
          have h := HA.out
          unfold keyAt at h ⊢
          simp only [fstN]
          rw [if_pos h, if_pos (decide_eq_true he)]
        have e : R = k := by
          rw [HR.out]
          unfold keyAt at hs ⊢
          rw [fstN_keep (k := k + 1) (by rw [hs]; omega) (by omega), hs]
        have HE := Lib.hid e
        clear he hs e
        repeat any_goals (first | go_skip | go_guarded | go_step | go_upon | (simp only []; done))
        exact bodyPost_ret (v := .int .i64 k) (by simp [results, Tryd.results39, go_sem]) rfl ⟨by rw [HE.out], Below.refl _ _⟩
      · have he2 : ¬ name.toList = (keys k).toList := fun h => he (toList_inj h).symm
        have he3 : (name.toList == (keys k).toList) = false := beq_false_of_ne he2
        clear he2
        have hs : keyAt keys name (k + 1) = -1 := by
          have h := HA.out
          unfold keyAt at h ⊢
          simp only [fstN]
          rw [if_pos h, if_neg (by simp [he])]
        have HS := Lib.hid hs
        clear he hs
        repeat any_goals (first | go_skip | go_guarded | go_step | go_upon | (simp only []; done))
        go_round
        case rel =>
          exact ⟨k + 1, by omega, rfl, HS.out⟩
        case measure => simp [intOf]; omega
    · have hk' : k = nK := by omega
      subst hk'
      have i1 : ¬ (k : Int) < (k : Int) := by omega
      have e : R = -1 := by rw [HR.out]; exact HA.out
      subst e
      repeat any_goals (first | go_skip | go_guarded | go_step | go_upon | (simp only []; done))
      exact bodyPost_ret (v := .int .i64 (-1)) (by simp [results, Tryd.results39, go_sem]) rfl ⟨rfl, Below.refl _ _⟩
set_option maxRecDepth 20000 in
set_option maxHeartbeats 4000000 in
theorem Get_kind (kind : Int) (neg : Bool) (V bits : Nat) (text : ByteArray) (aL : Option Addr) (nL cL : Nat) (aK : Option Addr) (nK cK : Nat) (name : ByteArray) (i : Int) (w : World) (hk : ¬ kind = 8) (C1 : Hid (∀ wr : World, Below w.heap.size w wr → Calls Tryd.prog 39 #[.slice aK nK cK, .string name] wr fun e w' => e = .returned (.int .i64 i) ∧ Below wr.heap.size wr w')) :
    Calls Tryd.prog 22 #[.agg #[.int .i64 kind, .bool neg, .int .u64 (lm V 0 : Nat), .int .u64 (lm V 1 : Nat), .int .u64 (lm V 2 : Nat), .int .u64 (lm V 3 : Nat), .int .u64 (bits : Nat), .string text, .slice aL nL cL, .slice aK nK cK], .string name] w fun e w' => e = .returned (.tuple #[.agg #[.int .i64 0, .bool false, .int .u64 0, .int .u64 0, .int .u64 0, .int .u64 0, .int .u64 0, .string ⟨#[]⟩, .slice none 0 0, .slice none 0 0], .bool false]) ∧ Below w.heap.size w w' := by
  have V0 := Lib.hid (show VBx ((w.alloc (.cells #[.int .i64 kind, .bool neg, .int .u64 (lm V 0 : Nat), .int .u64 (lm V 1 : Nat), .int .u64 (lm V 2 : Nat), .int .u64 (lm V 3 : Nat), .int .u64 (bits : Nat), .string text, .slice aL nL cL, .slice aK nK cK] 30)).alloc (.cells #[.int .i64 0, .bool false, .int .u64 0, .int .u64 0, .int .u64 0, .int .u64 0, .int .u64 0, .string ⟨#[]⟩, .slice none 0 0, .slice none 0 0] 30)) w.heap.size kind neg V bits text aL nL cL aK nK cK from ⟨by simp [go_sem]⟩)
  have Z0 := Lib.hid (show ZV ((w.alloc (.cells #[.int .i64 kind, .bool neg, .int .u64 (lm V 0 : Nat), .int .u64 (lm V 1 : Nat), .int .u64 (lm V 2 : Nat), .int .u64 (lm V 3 : Nat), .int .u64 (bits : Nat), .string text, .slice aL nL cL, .slice aK nK cK] 30)).alloc (.cells #[.int .i64 0, .bool false, .int .u64 0, .int .u64 0, .int .u64 0, .int .u64 0, .int .u64 0, .string ⟨#[]⟩, .slice none 0 0, .slice none 0 0] 30)) (w.heap.size + 1) from ⟨by simp [go_sem]⟩)
  go_enter Tryd.func22, Tryd.ntmps22
  repeat any_goals (first | (go_at_call 39; with_reducible refine (C1.out _ (by (repeat first | with_reducible exact Below.refl _ _ | with_reducible assumption | with_reducible refine Below.drew ?_ | with_reducible refine below_alloc ?_ _ | ((with_reducible refine Below.setCell ?_ ?_ _); rotate_left; (focus (first | with_reducible exact Nat.le_refl _ | (simp; done) | (simp; omega) | omega))) | (with_reducible refine below_trans ?_ (by assumption))))).mono ?_; rintro e w1 ⟨rfl, hb1⟩; have V1 := Lib.hid (V0.out.below hb1); obtain ⟨_, _, _, _, _, _, _, _, _, _⟩ := V1.out.all; have z1 := Lib.hid (Z0.out.below hb1); obtain ⟨⟨_, _, _, _, _, _, _, _, _, _⟩, ⟨_, _, _, _, _, _, _, _, _, _⟩, _⟩ := z1.out.all) | go_skip | go_guarded | go_step | go_upon | (dsimp only []))
  refine bodyPost_ret (v := .tuple #[.agg #[.int .i64 0, .bool false, .int .u64 0, .int .u64 0, .int .u64 0, .int .u64 0, .int .u64 0, .string ⟨#[]⟩, .slice none 0 0, .slice none 0 0], .bool false]) ?_ rfl ⟨rfl, by (repeat first | with_reducible exact Below.refl _ _ | with_reducible assumption | with_reducible refine Below.drew ?_ | with_reducible refine below_alloc ?_ _ | ((with_reducible refine Below.setCell ?_ ?_ _); rotate_left; (focus (first | with_reducible exact Nat.le_refl _ | (simp; done) | (simp; omega) | omega))) | (with_reducible refine below_trans ?_ (by assumption)))⟩
  simp [results, Tryd.results22, go_sem, *]
set_option maxRecDepth 20000 in
set_option maxHeartbeats 4000000 in
theorem Get_none (neg : Bool) (V bits : Nat) (text : ByteArray) (aL : Option Addr) (nL cL : Nat) (aK : Option Addr) (nK cK : Nat) (name : ByteArray) (i : Int) (w : World) (hi : i < 0 ∨ 0 ≤ i ∧ (nL : Int) ≤ i) (_hl : nL ≤ cL) (_hc : cL ≤ 9223372036854775807) (C1 : Hid (∀ wr : World, Below w.heap.size w wr → Calls Tryd.prog 39 #[.slice aK nK cK, .string name] wr fun e w' => e = .returned (.int .i64 i) ∧ Below wr.heap.size wr w')) :
    Calls Tryd.prog 22 #[.agg #[.int .i64 8, .bool neg, .int .u64 (lm V 0 : Nat), .int .u64 (lm V 1 : Nat), .int .u64 (lm V 2 : Nat), .int .u64 (lm V 3 : Nat), .int .u64 (bits : Nat), .string text, .slice aL nL cL, .slice aK nK cK], .string name] w fun e w' => e = .returned (.tuple #[.agg #[.int .i64 0, .bool false, .int .u64 0, .int .u64 0, .int .u64 0, .int .u64 0, .int .u64 0, .string ⟨#[]⟩, .slice none 0 0, .slice none 0 0], .bool false]) ∧ Below w.heap.size w w' := by
  have V0 := Lib.hid (show VBx ((w.alloc (.cells #[.int .i64 8, .bool neg, .int .u64 (lm V 0 : Nat), .int .u64 (lm V 1 : Nat), .int .u64 (lm V 2 : Nat), .int .u64 (lm V 3 : Nat), .int .u64 (bits : Nat), .string text, .slice aL nL cL, .slice aK nK cK] 30)).alloc (.cells #[.int .i64 0, .bool false, .int .u64 0, .int .u64 0, .int .u64 0, .int .u64 0, .int .u64 0, .string ⟨#[]⟩, .slice none 0 0, .slice none 0 0] 30)) w.heap.size 8 neg V bits text aL nL cL aK nK cK from ⟨by simp [go_sem]⟩)
  have Z0 := Lib.hid (show ZV ((w.alloc (.cells #[.int .i64 8, .bool neg, .int .u64 (lm V 0 : Nat), .int .u64 (lm V 1 : Nat), .int .u64 (lm V 2 : Nat), .int .u64 (lm V 3 : Nat), .int .u64 (bits : Nat), .string text, .slice aL nL cL, .slice aK nK cK] 30)).alloc (.cells #[.int .i64 0, .bool false, .int .u64 0, .int .u64 0, .int .u64 0, .int .u64 0, .int .u64 0, .string ⟨#[]⟩, .slice none 0 0, .slice none 0 0] 30)) (w.heap.size + 1) from ⟨by simp [go_sem]⟩)
  rcases hi with hi | ⟨hi0, hi⟩
  · have hi2 : ¬ (0 : Int) ≤ i := by omega
    go_enter Tryd.func22, Tryd.ntmps22
    repeat any_goals (first | (go_at_call 39; with_reducible refine (C1.out _ (by (repeat first | with_reducible exact Below.refl _ _ | with_reducible assumption | with_reducible refine Below.drew ?_ | with_reducible refine below_alloc ?_ _ | ((with_reducible refine Below.setCell ?_ ?_ _); rotate_left; (focus (first | with_reducible exact Nat.le_refl _ | (simp; done) | (simp; omega) | omega))) | (with_reducible refine below_trans ?_ (by assumption))))).mono ?_; rintro e w1 ⟨rfl, hb1⟩; have V1 := Lib.hid (V0.out.below hb1); obtain ⟨_, _, _, _, _, _, _, _, _, _⟩ := V1.out.all; have z1 := Lib.hid (Z0.out.below hb1); obtain ⟨⟨_, _, _, _, _, _, _, _, _, _⟩, ⟨_, _, _, _, _, _, _, _, _, _⟩, _⟩ := z1.out.all) | go_skip | go_guarded | go_step | go_upon | (dsimp only []))
    refine bodyPost_ret (v := .tuple #[.agg #[.int .i64 0, .bool false, .int .u64 0, .int .u64 0, .int .u64 0, .int .u64 0, .int .u64 0, .string ⟨#[]⟩, .slice none 0 0, .slice none 0 0], .bool false]) ?_ rfl ⟨rfl, by (repeat first | with_reducible exact Below.refl _ _ | with_reducible assumption | with_reducible refine Below.drew ?_ | with_reducible refine below_alloc ?_ _ | ((with_reducible refine Below.setCell ?_ ?_ _); rotate_left; (focus (first | with_reducible exact Nat.le_refl _ | (simp; done) | (simp; omega) | omega))) | (with_reducible refine below_trans ?_ (by assumption)))⟩
    simp [results, Tryd.results22, go_sem, *]
  · have hi3 : ¬ i < 0 := by omega
    go_enter Tryd.func22, Tryd.ntmps22
    repeat any_goals (first | (go_at_call 39; with_reducible refine (C1.out _ (by (repeat first | with_reducible exact Below.refl _ _ | with_reducible assumption | with_reducible refine Below.drew ?_ | with_reducible refine below_alloc ?_ _ | ((with_reducible refine Below.setCell ?_ ?_ _); rotate_left; (focus (first | with_reducible exact Nat.le_refl _ | (simp; done) | (simp; omega) | omega))) | (with_reducible refine below_trans ?_ (by assumption))))).mono ?_; rintro e w1 ⟨rfl, hb1⟩; have V1 := Lib.hid (V0.out.below hb1); obtain ⟨_, _, _, _, _, _, _, _, _, _⟩ := V1.out.all; have z1 := Lib.hid (Z0.out.below hb1); obtain ⟨⟨_, _, _, _, _, _, _, _, _, _⟩, ⟨_, _, _, _, _, _, _, _, _, _⟩, _⟩ := z1.out.all) | go_skip | go_guarded | go_step | go_upon | (dsimp only []))
    refine bodyPost_ret (v := .tuple #[.agg #[.int .i64 0, .bool false, .int .u64 0, .int .u64 0, .int .u64 0, .int .u64 0, .int .u64 0, .string ⟨#[]⟩, .slice none 0 0, .slice none 0 0], .bool false]) ?_ rfl ⟨rfl, by (repeat first | with_reducible exact Below.refl _ _ | with_reducible assumption | with_reducible refine Below.drew ?_ | with_reducible refine below_alloc ?_ _ | ((with_reducible refine Below.setCell ?_ ?_ _); rotate_left; (focus (first | with_reducible exact Nat.le_refl _ | (simp; done) | (simp; omega) | omega))) | (with_reducible refine below_trans ?_ (by assumption)))⟩
    simp [results, Tryd.results22, go_sem, *]
set_option maxRecDepth 20000 in
set_option maxHeartbeats 4000000 in
theorem Get_some (neg : Bool) (V bits : Nat) (text : ByteArray) (nL cL : Nat) (aK : Option Addr) (nK cK : Nat) (kind' : Int) (neg' : Bool) (V' bits' : Nat) (text' : ByteArray) (aL' : Option Addr) (nL' cL' : Nat) (aK' : Option Addr) (nK' cK' : Nat) (name : ByteArray) (i b off : Nat) (w : World) (hi : i < nL) (_hl : nL ≤ cL) (_hc : cL ≤ 9223372036854775807) (K0 : Hid (KBx w b (off + i * 10) kind' neg' V' bits' text' aL' nL' cL' aK' nK' cK'))
    (C1 : Hid (∀ wr : World, Below w.heap.size w wr → Calls Tryd.prog 39 #[.slice aK nK cK, .string name] wr fun e w' => e = .returned (.int .i64 (i : Nat)) ∧ Below wr.heap.size wr w')) :
    Calls Tryd.prog 22 #[.agg #[.int .i64 8, .bool neg, .int .u64 (lm V 0 : Nat), .int .u64 (lm V 1 : Nat), .int .u64 (lm V 2 : Nat), .int .u64 (lm V 3 : Nat), .int .u64 (bits : Nat), .string text, .slice (some ⟨b, off, none⟩) nL cL, .slice aK nK cK], .string name] w fun e w' => e = .returned (.tuple #[.agg #[.int .i64 kind', .bool neg', .int .u64 (lm V' 0 : Nat), .int .u64 (lm V' 1 : Nat), .int .u64 (lm V' 2 : Nat), .int .u64 (lm V' 3 : Nat), .int .u64 (bits' : Nat), .string text', .slice aL' nL' cL', .slice aK' nK' cK'], .bool true]) ∧ Below w.heap.size w w' := by
  have V0 := Lib.hid (show VBx ((w.alloc (.cells #[.int .i64 8, .bool neg, .int .u64 (lm V 0 : Nat), .int .u64 (lm V 1 : Nat), .int .u64 (lm V 2 : Nat), .int .u64 (lm V 3 : Nat), .int .u64 (bits : Nat), .string text, .slice (some ⟨b, off, none⟩) nL cL, .slice aK nK cK] 30)).alloc (.cells #[.int .i64 0, .bool false, .int .u64 0, .int .u64 0, .int .u64 0, .int .u64 0, .int .u64 0, .string ⟨#[]⟩, .slice none 0 0, .slice none 0 0] 30)) w.heap.size 8 neg V bits text (some ⟨b, off, none⟩) nL cL aK nK cK from ⟨by simp [go_sem]⟩)
  have Z0 := Lib.hid (show ZV ((w.alloc (.cells #[.int .i64 8, .bool neg, .int .u64 (lm V 0 : Nat), .int .u64 (lm V 1 : Nat), .int .u64 (lm V 2 : Nat), .int .u64 (lm V 3 : Nat), .int .u64 (bits : Nat), .string text, .slice (some ⟨b, off, none⟩) nL cL, .slice aK nK cK] 30)).alloc (.cells #[.int .i64 0, .bool false, .int .u64 0, .int .u64 0, .int .u64 0, .int .u64 0, .int .u64 0, .string ⟨#[]⟩, .slice none 0 0, .slice none 0 0] 30)) (w.heap.size + 1) from ⟨by simp [go_sem]⟩)
  have i1 : (i : Int) < (nL : Int) := by omega
  have i2 : (0 : Int) ≤ (i : Int) := by omega
  have i3 : ¬ (i : Int) < 0 := by omega
  have i4 : ¬ (nL : Int) ≤ (i : Int) := by omega
  have i5 : (i : Int).toNat = i := rfl
  have hB0 : Below w.heap.size w (w.alloc (.cells #[.int .i64 8, .bool neg, .int .u64 (lm V 0 : Nat), .int .u64 (lm V 1 : Nat), .int .u64 (lm V 2 : Nat), .int .u64 (lm V 3 : Nat), .int .u64 (bits : Nat), .string text, .slice (some ⟨b, off, none⟩) nL cL, .slice aK nK cK] 30)) := by (repeat first | with_reducible exact Below.refl _ _ | with_reducible assumption | with_reducible refine Below.drew ?_ | with_reducible refine below_alloc ?_ _ | ((with_reducible refine Below.setCell ?_ ?_ _); rotate_left; (focus (first | with_reducible exact Nat.le_refl _ | (simp; done) | (simp; omega) | omega))) | (with_reducible refine below_trans ?_ (by assumption)))
  go_enter Tryd.func22, Tryd.ntmps22
  repeat any_goals (first | (go_at_call 39; with_reducible refine (C1.out _ (by (repeat first | with_reducible exact Below.refl _ _ | with_reducible assumption | with_reducible refine Below.drew ?_ | with_reducible refine below_alloc ?_ _ | ((with_reducible refine Below.setCell ?_ ?_ _); rotate_left; (focus (first | with_reducible exact Nat.le_refl _ | (simp; done) | (simp; omega) | omega))) | (with_reducible refine below_trans ?_ (by assumption))))).mono ?_; rintro e w1 ⟨rfl, hb1⟩; have V1 := Lib.hid (V0.out.below hb1); obtain ⟨_, _, _, _, _, _, _, _, _, _⟩ := V1.out.all; have z1 := Lib.hid (Z0.out.below hb1); obtain ⟨⟨_, _, _, _, _, _, _, _, _, _⟩, ⟨_, _, _, _, _, _, _, _, _, _⟩, _⟩ := z1.out.all; have K1 := Lib.hid (K0.out.below (show Below w.heap.size w w1 by (repeat first | with_reducible exact Below.refl _ _ | with_reducible assumption | with_reducible refine Below.drew ?_ | with_reducible refine below_alloc ?_ _ | ((with_reducible refine Below.setCell ?_ ?_ _); rotate_left; (focus (first | with_reducible exact Nat.le_refl _ | (simp; done) | (simp; omega) | omega))) | (with_reducible refine below_trans ?_ (by assumption))))); obtain ⟨_, _, _, _, _, _, _, _, _, _⟩ := K1.out.all) | go_skip | go_guarded | go_step | go_upon | (dsimp only []))
  refine bodyPost_ret (v := .tuple #[.agg #[.int .i64 kind', .bool neg', .int .u64 (lm V' 0 : Nat), .int .u64 (lm V' 1 : Nat), .int .u64 (lm V' 2 : Nat), .int .u64 (lm V' 3 : Nat), .int .u64 (bits' : Nat), .string text', .slice aL' nL' cL', .slice aK' nK' cK'], .bool true]) ?_ rfl ⟨rfl, by (repeat first | with_reducible exact Below.refl _ _ | with_reducible assumption | with_reducible refine Below.drew ?_ | with_reducible refine below_alloc ?_ _ | ((with_reducible refine Below.setCell ?_ ?_ _); rotate_left; (focus (first | with_reducible exact Nat.le_refl _ | (simp; done) | (simp; omega) | omega))) | (with_reducible refine below_trans ?_ (by assumption)))⟩
  simp [results, Tryd.results22, go_sem, *]
/-- at which place a map's member stands: -1: there is none -/
def VT.getI : VT → ByteArray → Int
  | .nil => fun _ => -1
  | .mk kind _ _ _ _ _ nL _ _ _ nK _ keys => fun name => if kind = 8 ∧ keyAt keys name nK < (nL : Int) then keyAt keys name nK else -1
def VT.kidAt : VT → Nat → VT
  | .nil => fun _ => .nil
  | .mk _ _ _ _ _ _ _ _ kids _ _ _ _ => kids
/-- a map's member; there is none: the value of noughts -/
def VT.getT (T : VT) (name : ByteArray) : VT := if 0 ≤ T.getI name then T.kidAt (T.getI name).toNat else leafT 0 false 0 0 ⟨#[]⟩
theorem keyAt_le (keys : Nat → ByteArray) (name : ByteArray) (n : Nat) : -1 ≤ keyAt keys name n := fstN_le n
theorem fstN_lt {p : Nat → Bool} : ∀ n, fstN p n < (n : Int) := by
  intro n
  induction n with
  | zero => simp only [fstN]; omega
  | succ n ih =>
    simp only [fstN]
    split
    · split <;> omega
    · omega
theorem fstN_ge {p : Nat → Bool} {k n : Nat} (h : fstN p k = -1) (hk : k ≤ n) : fstN p n = -1 ∨ (k : Int) ≤ fstN p n := by
  induction n with
  | zero => have : k = 0 := by omega
            subst this; exact .inl rfl
  | succ n ih =>
    by_cases c : k ≤ n
    · rcases ih c with h2 | h2
      · simp only [fstN]
        rw [if_pos h2]
        split
        · exact .inr (by omega)
        · exact .inl rfl
      · simp only [fstN]
        rw [if_neg (by omega)]
        exact .inr h2
    · have : k = n + 1 := by omega
      subst this
      exact .inl h
theorem getI_lt {kind : Int} {neg : Bool} {V bits : Nat} {text : ByteArray} {aL : Option Addr} {nL cL : Nat} {kids : Nat → VT} {aK : Option Addr} {nK cK : Nat} {keys : Nat → ByteArray} {name : ByteArray} (h : 0 ≤ (VT.mk kind neg V bits text aL nL cL kids aK nK cK keys).getI name) :
    kind = 8 ∧ (VT.mk kind neg V bits text aL nL cL kids aK nK cK keys).getI name = keyAt keys name nK ∧ keyAt keys name nK < (nL : Int) := by
  simp only [VT.getI] at h ⊢
  split
  · rename_i c
    exact ⟨c.1, rfl, c.2⟩
  · rename_i c
    rw [if_neg c] at h
    omega
theorem VT.getT_in {T : VT} {name : ByteArray} {w : World} (hin : T.In w) : (T.getT name).In w := by
  unfold VT.getT
  cases T with
  | nil => exact hin.elim
  | mk kind neg V bits text aL nL cL kids aK nK cK keys =>
    split
    · rename_i h
      obtain ⟨h1, h2, h3⟩ := getI_lt h
      exact hin.2.2.1 _ (by rw [h2] at h ⊢; omega)
    · exact leaf_in w (by decide) (by decide) (by decide) (by decide) (by decide)
theorem Get_any (T : VT) (name : ByteArray) (w : World) (hin : T.In w) : Calls Tryd.prog 22 #[T.agg, .string name] w fun e w' => e = .returned (.tuple #[(T.getT name).agg, .bool (decide (0 ≤ T.getI name))]) ∧ Below w.heap.size w w' := by
  cases T with
  | nil => exact hin.elim
  | mk kind neg V bits text aL nL cL kids aK nK cK keys =>
    obtain ⟨o, hL, hk, hK⟩ := hin
    have C1 : Hid (∀ wr : World, Below w.heap.size w wr → Calls Tryd.prog 39 #[.slice aK nK cK, .string name] wr fun e w' => e = .returned (.int .i64 (keyAt keys name nK)) ∧ Below wr.heap.size wr w') := Lib.hid fun wr hb => Index_any aK nK cK keys name wr o.nc o.n (by
      rcases hK with h | ⟨b, off, h1, h2, h3⟩
      · exact .inl h
      · exact .inr ⟨b, off, h1, Nat.lt_of_lt_of_le h2 hb.size, fun i hi => ⟨by rw [hb.cell (p := ⟨b, off + i, none⟩) h2]; exact (h3 i hi).1, (h3 i hi).2⟩⟩)
    have hl := o.l
    have hlc := o.lc
    simp only [maxLen] at hlc
    have hno : ¬ 0 ≤ (VT.mk kind neg V bits text aL nL cL kids aK nK cK keys).getI name → (VT.mk kind neg V bits text aL nL cL kids aK nK cK keys).getT name = leafT 0 false 0 0 ⟨#[]⟩ := fun h => by unfold VT.getT; rw [if_neg h]
    by_cases h8 : kind = 8
    · by_cases hi : 0 ≤ keyAt keys name nK ∧ keyAt keys name nK < (nL : Int)
      · obtain ⟨i, hii⟩ : ∃ i : Nat, keyAt keys name nK = (i : Int) := ⟨(keyAt keys name nK).toNat, by omega⟩
        have hg : (VT.mk kind neg V bits text aL nL cL kids aK nK cK keys).getI name = (i : Int) := by simp only [VT.getI]; rw [if_pos ⟨h8, hi.2⟩, hii]
        have hT : (VT.mk kind neg V bits text aL nL cL kids aK nK cK keys).getT name = kids i := by unfold VT.getT; rw [hg, if_pos (by omega)]; rfl
        obtain ⟨b, off, kind', neg', V', bits', text', aL', nL', cL', kids', aK', nK', cK', keys', rfl, hb, hkid, hc, hin'⟩ := kid_lit hL hk (show i < nL by omega) (Below.refl _ _)
        have hg2 : decide (0 ≤ (VT.mk kind neg V bits text (some ⟨b, off, none⟩) nL cL kids aK nK cK keys).getI name) = true := by rw [hg]; exact decide_eq_true (by omega)
        rw [hii] at C1
        have h := Get_some neg V bits text nL cL aK nK cK kind' neg' V' bits' text' aL' nL' cL' aK' nK' cK' name i b off w (by omega) hl hlc (Lib.hid ⟨hc⟩) C1
        rw [hg2]
        have e1 : ((VT.mk kind neg V bits text (some ⟨b, off, none⟩) nL cL kids aK nK cK keys).getT name).agg = .agg #[.int .i64 kind', .bool neg', .int .u64 (lm V' 0 : Nat), .int .u64 (lm V' 1 : Nat), .int .u64 (lm V' 2 : Nat), .int .u64 (lm V' 3 : Nat), .int .u64 (bits' : Nat), .string text', .slice aL' nL' cL', .slice aK' nK' cK'] := by rw [hT, hkid]; rfl
        rw [e1]
        subst h8
        exact h
      · have hg : ¬ 0 ≤ (VT.mk kind neg V bits text aL nL cL kids aK nK cK keys).getI name := fun h => hi ⟨by rw [← (getI_lt h).2.1]; exact h, (getI_lt h).2.2⟩
        rw [hno hg, decide_eq_false hg]
        have e1 : (leafT 0 false 0 0 ⟨#[]⟩).agg = .agg #[.int .i64 0, .bool false, .int .u64 0, .int .u64 0, .int .u64 0, .int .u64 0, .int .u64 0, .string ⟨#[]⟩, .slice none 0 0, .slice none 0 0] := by simp [leafT, VT.agg, VT.cells, lm_zero]
        rw [e1]
        have h := Get_none neg V bits text aL nL cL aK nK cK name _ w (by omega) hl hlc C1
        subst h8
        exact h
    · have hg : ¬ 0 ≤ (VT.mk kind neg V bits text aL nL cL kids aK nK cK keys).getI name := fun h => h8 (getI_lt h).1
      rw [hno hg, decide_eq_false hg]
      have e1 : (leafT 0 false 0 0 ⟨#[]⟩).agg = .agg #[.int .i64 0, .bool false, .int .u64 0, .int .u64 0, .int .u64 0, .int .u64 0, .int .u64 0, .string ⟨#[]⟩, .slice none 0 0, .slice none 0 0] := by simp [leafT, VT.agg, VT.cells, lm_zero]
      rw [e1]
      exact Get_kind kind neg V bits text aL nL cL aK nK cK name _ w h8 C1
end Go.Proofs.YtminijokbeclhaaDoor
