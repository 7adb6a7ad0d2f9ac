/- Contracts: Cmp of the document. -/
import Derived.Test.YtminijokbeclhaaDoorCmpV
import Derived.Test.YtminijokbeclhaaDoorVSame
import Derived.Test.YtminijokbeclhaaDoorRh6
import Derived.LoopN
namespace Go.Proofs.YtminijokbeclhaaDoor
open Go.RowKit
set_option maxRecDepth 20000 in
set_option maxHeartbeats 4000000 in
theorem RCmp_kinds (k1 k2 : Nat) (neg : Bool) (V bits : Nat) (text : ByteArray) (aL : Option Addr) (nL cL : Nat) (aK : Option Addr) (nK cK : Nat) (negB : Bool) (VB bitsB : Nat) (textB : ByteArray) (aLB : Option Addr) (nLB cLB : Nat) (aKB : Option Addr) (nKB cKB : Nat) (w : World) (h : ((k1 : Int) == (k2 : Int)) = false) (h1 : k1 ≤ 8) (h2 : k2 ≤ 8) :
    Calls Tryd.prog 29 #[.agg #[.int .i64 (k1 : Nat), .bool neg, .int .u64 (lm V 0 : Nat), .int .u64 (lm V 1 : Nat), .int .u64 (lm V 2 : Nat), .int .u64 (lm V 3 : Nat), .int .u64 (bits : Nat), .string text, .slice aL nL cL, .slice aK nK cK], .agg #[.int .i64 (k2 : Nat), .bool negB, .int .u64 (lm VB 0 : Nat), .int .u64 (lm VB 1 : Nat), .int .u64 (lm VB 2 : Nat), .int .u64 (lm VB 3 : Nat), .int .u64 (bitsB : Nat), .string textB, .slice aLB nLB cLB, .slice aKB nKB cKB]] w fun e w' => e = .returned (.int .i64 (cmpZZ k1 k2)) ∧ Below w.heap.size w w' := by
  go_enter Tryd.func29, Tryd.ntmps29
  repeat any_goals (first | (go_at_call 54; refine (RSign_any _ _ _).mono ?_; rintro e w' ⟨rfl, rfl⟩) | go_skip | go_guarded | go_step | go_upon | (dsimp only []))
  exact bodyPost_ret (v := .int .i64 (cmpZZ k1 k2)) (by simp [results, Tryd.results29, go_sem]) rfl ⟨rfl, by (repeat first | with_reducible exact Below.refl _ _ | with_reducible assumption | with_reducible refine Below.drew ?_ | with_reducible refine below_alloc ?_ _ | ((with_reducible refine Below.setCell ?_ ?_ _); rotate_left; (focus (first | with_reducible exact Nat.le_refl _ | (simp; done) | (simp; omega) | omega))) | (with_reducible refine below_trans ?_ (by assumption)))⟩
set_option maxRecDepth 20000 in
set_option maxHeartbeats 4000000 in
theorem RCmp_bits2 (neg : Bool) (V bits : Nat) (text : ByteArray) (aL : Option Addr) (nL cL : Nat) (aK : Option Addr) (nK cK : Nat) (negB : Bool) (VB bitsB : Nat) (textB : ByteArray) (aLB : Option Addr) (nLB cLB : Nat) (aKB : Option Addr) (nKB cKB : Nat)  (w : World) :
    Calls Tryd.prog 29 #[.agg #[.int .i64 2, .bool neg, .int .u64 (lm V 0 : Nat), .int .u64 (lm V 1 : Nat), .int .u64 (lm V 2 : Nat), .int .u64 (lm V 3 : Nat), .int .u64 (bits : Nat), .string text, .slice aL nL cL, .slice aK nK cK], .agg #[.int .i64 2, .bool negB, .int .u64 (lm VB 0 : Nat), .int .u64 (lm VB 1 : Nat), .int .u64 (lm VB 2 : Nat), .int .u64 (lm VB 3 : Nat), .int .u64 (bitsB : Nat), .string textB, .slice aLB nLB cLB, .slice aKB nKB cKB]] w fun e w' => e = .returned (.int .i64 (cmpZZ bits bitsB)) ∧ Below w.heap.size w w' := by
  go_enter Tryd.func29, Tryd.ntmps29
  repeat any_goals (first | (go_at_call 54; refine (RSign_any _ _ _).mono ?_; rintro e w' ⟨rfl, rfl⟩) | go_skip | go_guarded | go_step | go_upon | (dsimp only []))
  exact bodyPost_ret (v := .int .i64 (cmpZZ bits bitsB)) (by simp [results, Tryd.results29, go_sem]) rfl ⟨rfl, by (repeat first | with_reducible exact Below.refl _ _ | with_reducible assumption | with_reducible refine Below.drew ?_ | with_reducible refine below_alloc ?_ _ | ((with_reducible refine Below.setCell ?_ ?_ _); rotate_left; (focus (first | with_reducible exact Nat.le_refl _ | (simp; done) | (simp; omega) | omega))) | (with_reducible refine below_trans ?_ (by assumption)))⟩
set_option maxRecDepth 20000 in
set_option maxHeartbeats 4000000 in
theorem RCmp_bits4 (neg : Bool) (V bits : Nat) (text : ByteArray) (aL : Option Addr) (nL cL : Nat) (aK : Option Addr) (nK cK : Nat) (negB : Bool) (VB bitsB : Nat) (textB : ByteArray) (aLB : Option Addr) (nLB cLB : Nat) (aKB : Option Addr) (nKB cKB : Nat)  (w : World) :
    Calls Tryd.prog 29 #[.agg #[.int .i64 4, .bool neg, .int .u64 (lm V 0 : Nat), .int .u64 (lm V 1 : Nat), .int .u64 (lm V 2 : Nat), .int .u64 (lm V 3 : Nat), .int .u64 (bits : Nat), .string text, .slice aL nL cL, .slice aK nK cK], .agg #[.int .i64 4, .bool negB, .int .u64 (lm VB 0 : Nat), .int .u64 (lm VB 1 : Nat), .int .u64 (lm VB 2 : Nat), .int .u64 (lm VB 3 : Nat), .int .u64 (bitsB : Nat), .string textB, .slice aLB nLB cLB, .slice aKB nKB cKB]] w fun e w' => e = .returned (.int .i64 (cmpZZ bits bitsB)) ∧ Below w.heap.size w w' := by
  go_enter Tryd.func29, Tryd.ntmps29
  repeat any_goals (first | (go_at_call 54; refine (RSign_any _ _ _).mono ?_; rintro e w' ⟨rfl, rfl⟩) | go_skip | go_guarded | go_step | go_upon | (dsimp only []))
  exact bodyPost_ret (v := .int .i64 (cmpZZ bits bitsB)) (by simp [results, Tryd.results29, go_sem]) rfl ⟨rfl, by (repeat first | with_reducible exact Below.refl _ _ | with_reducible assumption | with_reducible refine Below.drew ?_ | with_reducible refine below_alloc ?_ _ | ((with_reducible refine Below.setCell ?_ ?_ _); rotate_left; (focus (first | with_reducible exact Nat.le_refl _ | (simp; done) | (simp; omega) | omega))) | (with_reducible refine below_trans ?_ (by assumption)))⟩
set_option maxRecDepth 20000 in
set_option maxHeartbeats 4000000 in
theorem RCmp_text5 (neg : Bool) (V bits : Nat) (text : ByteArray) (aL : Option Addr) (nL cL : Nat) (aK : Option Addr) (nK cK : Nat) (negB : Bool) (VB bitsB : Nat) (textB : ByteArray) (aLB : Option Addr) (nLB cLB : Nat) (aKB : Option Addr) (nKB cKB : Nat)  (w : World) :
    Calls Tryd.prog 29 #[.agg #[.int .i64 5, .bool neg, .int .u64 (lm V 0 : Nat), .int .u64 (lm V 1 : Nat), .int .u64 (lm V 2 : Nat), .int .u64 (lm V 3 : Nat), .int .u64 (bits : Nat), .string text, .slice aL nL cL, .slice aK nK cK], .agg #[.int .i64 5, .bool negB, .int .u64 (lm VB 0 : Nat), .int .u64 (lm VB 1 : Nat), .int .u64 (lm VB 2 : Nat), .int .u64 (lm VB 3 : Nat), .int .u64 (bitsB : Nat), .string textB, .slice aLB nLB cLB, .slice aKB nKB cKB]] w fun e w' => e = .returned (.int .i64 (sgnS text textB)) ∧ Below w.heap.size w w' := by
  go_enter Tryd.func29, Tryd.ntmps29
  repeat any_goals (first | (go_at_call 56; refine (ROrder_any _ _ _).mono ?_; rintro e w' ⟨rfl, rfl⟩) | go_skip | go_guarded | go_step | go_upon | (dsimp only []))
  exact bodyPost_ret (v := .int .i64 (sgnS text textB)) (by simp [results, Tryd.results29, go_sem]) rfl ⟨rfl, by (repeat first | with_reducible exact Below.refl _ _ | with_reducible assumption | with_reducible refine Below.drew ?_ | with_reducible refine below_alloc ?_ _ | ((with_reducible refine Below.setCell ?_ ?_ _); rotate_left; (focus (first | with_reducible exact Nat.le_refl _ | (simp; done) | (simp; omega) | omega))) | (with_reducible refine below_trans ?_ (by assumption)))⟩
set_option maxRecDepth 20000 in
set_option maxHeartbeats 4000000 in
theorem RCmp_text6 (neg : Bool) (V bits : Nat) (text : ByteArray) (aL : Option Addr) (nL cL : Nat) (aK : Option Addr) (nK cK : Nat) (negB : Bool) (VB bitsB : Nat) (textB : ByteArray) (aLB : Option Addr) (nLB cLB : Nat) (aKB : Option Addr) (nKB cKB : Nat)  (w : World) :
    Calls Tryd.prog 29 #[.agg #[.int .i64 6, .bool neg, .int .u64 (lm V 0 : Nat), .int .u64 (lm V 1 : Nat), .int .u64 (lm V 2 : Nat), .int .u64 (lm V 3 : Nat), .int .u64 (bits : Nat), .string text, .slice aL nL cL, .slice aK nK cK], .agg #[.int .i64 6, .bool negB, .int .u64 (lm VB 0 : Nat), .int .u64 (lm VB 1 : Nat), .int .u64 (lm VB 2 : Nat), .int .u64 (lm VB 3 : Nat), .int .u64 (bitsB : Nat), .string textB, .slice aLB nLB cLB, .slice aKB nKB cKB]] w fun e w' => e = .returned (.int .i64 (sgnS text textB)) ∧ Below w.heap.size w w' := by
  go_enter Tryd.func29, Tryd.ntmps29
  repeat any_goals (first | (go_at_call 56; refine (ROrder_any _ _ _).mono ?_; rintro e w' ⟨rfl, rfl⟩) | go_skip | go_guarded | go_step | go_upon | (dsimp only []))
  exact bodyPost_ret (v := .int .i64 (sgnS text textB)) (by simp [results, Tryd.results29, go_sem]) rfl ⟨rfl, by (repeat first | with_reducible exact Below.refl _ _ | with_reducible assumption | with_reducible refine Below.drew ?_ | with_reducible refine below_alloc ?_ _ | ((with_reducible refine Below.setCell ?_ ?_ _); rotate_left; (focus (first | with_reducible exact Nat.le_refl _ | (simp; done) | (simp; omega) | omega))) | (with_reducible refine below_trans ?_ (by assumption)))⟩
set_option maxRecDepth 20000 in
set_option maxHeartbeats 4000000 in
theorem RCmp_int (neg : Bool) (V bits : Nat) (text : ByteArray) (aL : Option Addr) (nL cL : Nat) (aK : Option Addr) (nK cK : Nat) (negB : Bool) (VB bitsB : Nat) (textB : ByteArray) (aLB : Option Addr) (nLB cLB : Nat) (aKB : Option Addr) (nKB cKB : Nat) (hV : V < 2 ^ 256) (hVB : VB < 2 ^ 256) (h1 : mayI neg V = true) (h2 : mayI negB VB = true) (w : World) :
    Calls Tryd.prog 29 #[.agg #[.int .i64 3, .bool neg, .int .u64 (lm V 0 : Nat), .int .u64 (lm V 1 : Nat), .int .u64 (lm V 2 : Nat), .int .u64 (lm V 3 : Nat), .int .u64 (bits : Nat), .string text, .slice aL nL cL, .slice aK nK cK], .agg #[.int .i64 3, .bool negB, .int .u64 (lm VB 0 : Nat), .int .u64 (lm VB 1 : Nat), .int .u64 (lm VB 2 : Nat), .int .u64 (lm VB 3 : Nat), .int .u64 (bitsB : Nat), .string textB, .slice aLB nLB cLB, .slice aKB nKB cKB]] w fun e w' => e = .returned (.int .i64 (cmpI neg V negB VB)) ∧ Below w.heap.size w w' := by
  have C : Hid (∀ wr : World, Calls Tryd.prog 55 #[.agg #[.bool (neg ), .int .u64 (lm ( V) 0 : Nat), .int .u64 (lm ( V) 1 : Nat), .int .u64 (lm ( V) 2 : Nat), .int .u64 (lm ( V) 3 : Nat)], .agg #[.bool (negB ), .int .u64 (lm ( VB) 0 : Nat), .int .u64 (lm ( VB) 1 : Nat), .int .u64 (lm ( VB) 2 : Nat), .int .u64 (lm ( VB) 3 : Nat)]] wr fun e w' => e = .returned (.int .i64 (cmpI neg V negB VB)) ∧ Below wr.heap.size wr w') := Lib.hid fun wr => RCmp_any neg V hV negB VB hVB h1 h2 wr
  generalize cmpI neg V negB VB = z at *
  go_enter Tryd.func29, Tryd.ntmps29
  repeat any_goals (first | (go_at_call 55; refine (C.out _).mono ?_; rintro e w1 ⟨rfl, hb1⟩) | go_skip | go_guarded | go_step | go_upon | (dsimp only []))
  exact bodyPost_ret (v := .int .i64 (z)) (by simp [results, Tryd.results29, go_sem]) rfl ⟨rfl, by (repeat first | with_reducible exact Below.refl _ _ | with_reducible assumption | with_reducible refine Below.drew ?_ | with_reducible refine below_alloc ?_ _ | ((with_reducible refine Below.setCell ?_ ?_ _); rotate_left; (focus (first | with_reducible exact Nat.le_refl _ | (simp; done) | (simp; omega) | omega))) | (with_reducible refine below_trans ?_ (by assumption)))⟩
set_option maxRecDepth 20000 in
set_option maxHeartbeats 4000000 in
theorem RCmp_list (kind : Int) (neg : Bool) (V bits : Nat) (text : ByteArray) (aL : Option Addr) (nL cL : Nat) (aK : Option Addr) (nK cK : Nat) (negB : Bool) (VB bitsB : Nat) (textB : ByteArray) (aLB : Option Addr) (nLB cLB : Nat) (aKB : Option Addr) (nKB cKB : Nat) (kids kidsB : Nat → VT) (p : Nat → Int) (R : Int) (w : World) (h2 : (kind == 2) = false) (h3 : (kind == 3) = false) (h4 : (kind == 4) = false) (h5 : (kind == 5) = false) (h6 : (kind == 6) = false) (h8 : (kind == 8) = false)
    (HR : Hid (R = lexN p nL nLB)) (HL : Hid (nL = 0 ∨ ∃ b off, aL = some ⟨b, off, none⟩ ∧ b < w.heap.size ∧ ∀ i, i < nL → ∀ j, j < 10 → w.cell? ⟨b, off + i * 10 + j, none⟩ = (kids i).cells[j]?)) (HI : Hid (∀ i, i < nL → (kids i).In w)) (HLB : Hid (nLB = 0 ∨ ∃ b off, aLB = some ⟨b, off, none⟩ ∧ b < w.heap.size ∧ ∀ i, i < nLB → ∀ j, j < 10 → w.cell? ⟨b, off + i * 10 + j, none⟩ = (kidsB i).cells[j]?)) (HIB : Hid (∀ i, i < nLB → (kidsB i).In w)) (hcL : cL ≤ 9223372036854775807) (hlL : nL ≤ cL) (hcLB : cLB ≤ 9223372036854775807) (hlLB : nLB ≤ cLB)
    (HF : Hid (∀ i, i < nL → i < nLB → ∀ w' : World, Below w.heap.size w w' → Calls Tryd.prog 29 #[(kids i).agg, (kidsB i).agg] w' fun e w2 => e = .returned (.int .i64 (p i)) ∧ Below w'.heap.size w' w2)) :
    Calls Tryd.prog 29 #[.agg #[.int .i64 kind, .bool neg, .int .u64 (lm V 0 : Nat), .int .u64 (lm V 1 : Nat), .int .u64 (lm V 2 : Nat), .int .u64 (lm V 3 : Nat), .int .u64 (bits : Nat), .string text, .slice aL nL cL, .slice aK nK cK], .agg #[.int .i64 kind, .bool negB, .int .u64 (lm VB 0 : Nat), .int .u64 (lm VB 1 : Nat), .int .u64 (lm VB 2 : Nat), .int .u64 (lm VB 3 : Nat), .int .u64 (bitsB : Nat), .string textB, .slice aLB nLB cLB, .slice aKB nKB cKB]] w fun e w' => e = .returned (.int .i64 R) ∧ Below w.heap.size w w' := by
  obtain ⟨W0, hW0⟩ : ∃ W0, W0 = (w.alloc (.cells #[.int .i64 kind, .bool neg, .int .u64 (lm V 0 : Nat), .int .u64 (lm V 1 : Nat), .int .u64 (lm V 2 : Nat), .int .u64 (lm V 3 : Nat), .int .u64 (bits : Nat), .string text, .slice aL nL cL, .slice aK nK cK] 30)).alloc (.cells #[.int .i64 kind, .bool negB, .int .u64 (lm VB 0 : Nat), .int .u64 (lm VB 1 : Nat), .int .u64 (lm VB 2 : Nat), .int .u64 (lm VB 3 : Nat), .int .u64 (bitsB : Nat), .string textB, .slice aLB nLB cLB, .slice aKB nKB cKB] 30) := ⟨_, rfl⟩
  have Va := Lib.hid (show VBx W0 w.heap.size kind neg V bits text aL nL cL aK nK cK by rw [hW0]; exact ⟨by simp [go_sem]⟩)
  have Vb := Lib.hid (show VBx W0 (w.heap.size + 1) kind negB VB bitsB textB aLB nLB cLB aKB nKB cKB by rw [hW0]; exact ⟨by simp [go_sem]⟩)
  have hB0 : Below w.heap.size w W0 := by rw [hW0]; (repeat first | with_reducible exact Below.refl _ _ | with_reducible assumption | with_reducible refine Below.drew ?_ | with_reducible refine below_alloc ?_ _ | ((with_reducible refine Below.setCell ?_ ?_ _); rotate_left; (focus (first | with_reducible exact Nat.le_refl _ | (simp; done) | (simp; omega) | omega))) | (with_reducible refine below_trans ?_ (by assumption)))
  have HW := Lib.hid hW0
  clear hW0
  go_enter Tryd.func29, Tryd.ntmps29
  repeat any_goals (first | go_skip | go_guarded | go_step | go_upon | (simp only []; done))
  rw [← HW.out]
  clear HW
  go_loopw [7] (fun i wr => ∃ k : Nat, k ≤ nL ∧ k ≤ nLB ∧ i = .int .i64 k ∧ fstC p k = 0 ∧ VBx wr w.heap.size kind neg V bits text aL nL cL aK nK cK ∧ VBx wr (w.heap.size + 1) kind negB VB bitsB textB aLB nLB cLB aKB nKB cKB ∧ Below w.heap.size w wr) (fun i _ => nL - (intOf i).toNat)
  case atStart => exact ⟨0, Nat.zero_le _, Nat.zero_le _, rfl, rfl, Va.out, Vb.out, hB0⟩
  case round =>
    clear Va Vb hB0
    obtain ⟨k, hk, hk2, rfl, hA, hVa, hVb, hW⟩ := hrel
    have HA := Lib.hid hA
    have Va := Lib.hid hVa
    have Vb := Lib.hid hVb
    obtain ⟨_, _, _, _, _, _, _, _, _, _⟩ := hVa.all
    obtain ⟨_, _, _, _, _, _, _, _, _, _⟩ := hVb.all
    clear hA hVa hVb
    by_cases hkn : k < nL
    · have i1 : (k : Int) < (nL : Int) := by omega
      by_cases hkm : k < nLB
      · have i3 : (k : Int) < (nLB : Int) := by omega
        obtain ⟨b, off, kind', neg', V', bits', text', aL', nL', cL', kids', aK', nK', cK', keys', rfl, hb, hkid, hc, -⟩ := kid_lit HL.out HI.out hkn hW
        obtain ⟨b2, off2, kind'', neg'', V'', bits'', text'', aL'', nL'', cL'', kids'', aK'', nK'', cK'', keys'', rfl, hb2, hkid2, hc2, -⟩ := kid_lit HLB.out HIB.out hkm hW
        have K1 := Lib.hid (show KBx wr b (off + k * 10) kind' neg' V' bits' text' aL' nL' cL' aK' nK' cK' from ⟨hc⟩)
        have K2 := Lib.hid (show KBx wr b2 (off2 + k * 10) kind'' neg'' V'' bits'' text'' aL'' nL'' cL'' aK'' nK'' cK'' from ⟨hc2⟩)
        have i2 : (0 : Int) ≤ (k : Int) := by omega
        have i5 : (k : Int).toNat = k := rfl
        obtain ⟨x, hx⟩ : ∃ x : Int, x = p k := ⟨_, rfl⟩
        have HC0 : ∀ w'' : World, Below wr.heap.size wr w'' → Calls Tryd.prog 29 #[(kids k).agg, (kidsB k).agg] w'' fun e w' => e = .returned (.int .i64 x) ∧ Below w''.heap.size w'' w' := fun w'' hb => by
          have := HF.out k hkn hkm w'' (below_trans hW hb)
          rwa [← hx] at this
        rw [hkid, hkid2] at HC0
        simp only [VT.agg, VT.cells] at HC0
        have HCK := Lib.hid HC0
        have HX := Lib.hid hx
        clear hkid hkid2 hx hc hc2 HC0
        go_upto_region 24 with fail
        (obtain ⟨C_, hC⟩ : ∃ C : World → Prop, C = fun w' => Below (wr).heap.size (wr) w' := ⟨_, rfl⟩; have HC := Lib.hid hC; have hne : ∀ p : Prop, (∀ w1 : World, C_ w1 → p) = p := fun p => propext ⟨fun h => h (wr) (by rw [hC]; exact Below.refl _ _), fun h _ _ => h⟩; clear hC; refine wp_region_quiet_cls (C := C_) (by kernel_rfl) (by kernel_rfl) (by rw [HC.out]; exact (Below.refl _ _).drew) ?_)
        (go_big_quiet_want; go_big_quiet_op; go_big_quiet_on)
        (go_big_quiet_want; refine ⟨.slice (some ⟨b, off, none⟩) nL cL, fun w1 hw1 => ?_, ?_⟩; (rw [HC.out] at hw1; obtain ⟨_, _, _, _, _⟩ := (Va.out.below hw1).all; simp [Oper.quietAt, go_sem, *]); (try simp only [Act.put, List.setIfInBounds_toArray, List.set_cons_zero, List.set_cons_succ]); go_big_quiet_on)
        (go_big_quiet_want; go_big_quiet_op; go_big_quiet_on)
        (go_big_quiet_want; go_big_quiet_op; go_big_quiet_on)
        (go_big_quiet_want; refine ⟨.agg #[.int .i64 kind', .bool neg', .int .u64 (lm V' 0 : Nat), .int .u64 (lm V' 1 : Nat), .int .u64 (lm V' 2 : Nat), .int .u64 (lm V' 3 : Nat), .int .u64 (bits' : Nat), .string text', .slice aL' nL' cL', .slice aK' nK' cK'], fun w1 hw1 => ?_, ?_⟩; (rw [HC.out] at hw1; obtain ⟨_, _, _, _, _⟩ := (K1.out.below hw1).all; simp [Oper.quietAt, go_sem, *]); (try simp only [Act.put, List.setIfInBounds_toArray, List.set_cons_zero, List.set_cons_succ]); go_big_quiet_on)
        (go_big_quiet_want; go_big_quiet_op; go_big_quiet_on)
        (go_big_quiet_want; refine ⟨.slice (some ⟨b2, off2, none⟩) nLB cLB, fun w1 hw1 => ?_, ?_⟩; (rw [HC.out] at hw1; obtain ⟨_, _, _, _, _⟩ := (Vb.out.below hw1).all; simp [Oper.quietAt, go_sem, *]); (try simp only [Act.put, List.setIfInBounds_toArray, List.set_cons_zero, List.set_cons_succ]); go_big_quiet_on)
        (go_big_quiet_want; go_big_quiet_op; go_big_quiet_on)
        (go_big_quiet_want; go_big_quiet_op; go_big_quiet_on)
        (go_big_quiet_want; refine ⟨.agg #[.int .i64 kind'', .bool neg'', .int .u64 (lm V'' 0 : Nat), .int .u64 (lm V'' 1 : Nat), .int .u64 (lm V'' 2 : Nat), .int .u64 (lm V'' 3 : Nat), .int .u64 (bits'' : Nat), .string text'', .slice aL'' nL'' cL'', .slice aK'' nK'' cK''], fun w1 hw1 => ?_, ?_⟩; (rw [HC.out] at hw1; obtain ⟨_, _, _, _, _⟩ := (K2.out.below hw1).all; simp [Oper.quietAt, go_sem, *]); (try simp only [Act.put, List.setIfInBounds_toArray, List.set_cons_zero, List.set_cons_succ]); go_big_quiet_on)
        (go_big_quiet_want; go_big_quiet_op; refine ⟨.int .i64 x, fun w1 hw1 => ?_, ?_⟩; (rw [HC.out] at hw1 ⊢; with_reducible refine (HCK.out _ hw1).mono ?_; rintro e w4 ⟨rfl, hb4⟩; exact ⟨rfl, below_trans hw1 hb4⟩); go_big_quiet_on)
        (go_big_quiet_want; go_big_quiet_op; go_big_quiet_on)
        (refine wpQuiet_nil ?_; intro w2 hw2; rw [HC.out] at hw2)
        by_cases h0 : x = 0
        · subst h0
          repeat any_goals (first | go_skip | go_guarded | go_step | go_upon | (simp only []; done))
          go_roundw
          case rel => exact ⟨k + 1, by omega, by omega, rfl, by simp only [fstC]; rw [HA.out, ← HX.out]; rfl, Va.out.below hw2, Vb.out.below hw2, below_trans hW hw2⟩
          case measure => simp [intOf]; omega
        · have e : R = x := by rw [HR.out, lexN_at HA.out hkn hkm (by rw [← HX.out]; exact h0), ← HX.out]
          have HE := Lib.hid e
          clear e
          repeat any_goals (first | go_skip | go_guarded | go_step | go_upon | (simp only []; done))
          exact bodyPost_ret (v := .int .i64 x) (by simp [results, Tryd.results29, go_sem]) rfl ⟨by rw [HE.out], below_trans hW hw2⟩
      · have i3 : ¬ (k : Int) < (nLB : Int) := by omega
        have e : R = cmpZZ nL nLB := by rw [HR.out, lexN_end HA.out (by omega)]
        have HE := Lib.hid e
        clear e
        repeat any_goals (first | (go_at_call 54; refine (RSign_any _ _ _).mono ?_; rintro e w' ⟨rfl, rfl⟩) | go_skip | go_guarded | go_step | go_upon | (dsimp only []))
        exact bodyPost_ret (v := .int .i64 (cmpZZ nL nLB)) (by simp [results, Tryd.results29, go_sem]) rfl ⟨by rw [HE.out], hW⟩
    · have i1 : ¬ (k : Int) < (nL : Int) := by omega
      have e : R = cmpZZ nL nLB := by rw [HR.out, lexN_end HA.out (by omega)]
      have HE := Lib.hid e
      clear e
      repeat any_goals (first | (go_at_call 54; refine (RSign_any _ _ _).mono ?_; rintro e w' ⟨rfl, rfl⟩) | go_skip | go_guarded | go_step | go_upon | (dsimp only []))
      exact bodyPost_ret (v := .int .i64 (cmpZZ nL nLB)) (by simp [results, Tryd.results29, go_sem]) rfl ⟨by rw [HE.out], hW⟩
set_option maxRecDepth 20000 in
set_option maxHeartbeats 4000000 in
theorem RCmp_lens (neg : Bool) (V bits : Nat) (text : ByteArray) (aL : Option Addr) (nL cL : Nat) (aK : Option Addr) (nK cK : Nat) (negB : Bool) (VB bitsB : Nat) (textB : ByteArray) (aLB : Option Addr) (nLB cLB : Nat) (aKB : Option Addr) (nKB cKB : Nat) (hn : ((nK : Int) == (nKB : Int)) = false) (hcK : cK ≤ 9223372036854775807) (hlK : nK ≤ cK) (hcKB : cKB ≤ 9223372036854775807) (hlKB : nKB ≤ cKB) (w : World) :
    Calls Tryd.prog 29 #[.agg #[.int .i64 8, .bool neg, .int .u64 (lm V 0 : Nat), .int .u64 (lm V 1 : Nat), .int .u64 (lm V 2 : Nat), .int .u64 (lm V 3 : Nat), .int .u64 (bits : Nat), .string text, .slice aL nL cL, .slice aK nK cK], .agg #[.int .i64 8, .bool negB, .int .u64 (lm VB 0 : Nat), .int .u64 (lm VB 1 : Nat), .int .u64 (lm VB 2 : Nat), .int .u64 (lm VB 3 : Nat), .int .u64 (bitsB : Nat), .string textB, .slice aLB nLB cLB, .slice aKB nKB cKB]] w fun e w' => e = .returned (.int .i64 (cmpZZ nK nKB)) ∧ Below w.heap.size w w' := by
  go_enter Tryd.func29, Tryd.ntmps29
  repeat any_goals (first | (go_at_call 54; refine (RSign_any _ _ _).mono ?_; rintro e w' ⟨rfl, rfl⟩) | go_skip | go_guarded | go_step | go_upon | (dsimp only []))
  exact bodyPost_ret (v := .int .i64 (cmpZZ nK nKB)) (by simp [results, Tryd.results29, go_sem]) rfl ⟨rfl, by (repeat first | with_reducible exact Below.refl _ _ | with_reducible assumption | with_reducible refine Below.drew ?_ | with_reducible refine below_alloc ?_ _ | ((with_reducible refine Below.setCell ?_ ?_ _); rotate_left; (focus (first | with_reducible exact Nat.le_refl _ | (simp; done) | (simp; omega) | omega))) | (with_reducible refine below_trans ?_ (by assumption)))⟩
set_option maxRecDepth 20000 in
set_option maxHeartbeats 4000000 in
theorem RCmp_map (neg : Bool) (V bits : Nat) (text : ByteArray) (aL : Option Addr) (nL cL : Nat) (aK : Option Addr) (nK cK : Nat) (negB : Bool) (VB bitsB : Nat) (textB : ByteArray) (aLB : Option Addr) (nLB cLB : Nat) (aKB : Option Addr) (cKB : Nat) (keys keysB : Nat → ByteArray) (kids kidsB : Nat → VT) (p : Nat → Int) (R0 R : Int) (w : World)
    (HR0 : Hid (R0 = or2 (lexN (fun i => sgnS (keys i) (keysB i)) nK nK) R)) (HR : Hid (R = lexN p nL nLB)) (HK : Hid (nK = 0 ∨ ∃ b off, aK = some ⟨b, off, none⟩ ∧ b < w.heap.size ∧ ∀ i, i < nK → w.cell? ⟨b, off + i, none⟩ = some (.string (keys i)) ∧ (keys i).size ≤ maxLen)) (HKB : Hid (nK = 0 ∨ ∃ b off, aKB = some ⟨b, off, none⟩ ∧ b < w.heap.size ∧ ∀ i, i < nK → w.cell? ⟨b, off + i, none⟩ = some (.string (keysB i)) ∧ (keysB i).size ≤ maxLen)) (hcK : cK ≤ 9223372036854775807) (hlK : nK ≤ cK) (_hcKB : cKB ≤ 9223372036854775807) (hlKB : nK ≤ cKB)
    (HL : Hid (nL = 0 ∨ ∃ b off, aL = some ⟨b, off, none⟩ ∧ b < w.heap.size ∧ ∀ i, i < nL → ∀ j, j < 10 → w.cell? ⟨b, off + i * 10 + j, none⟩ = (kids i).cells[j]?)) (HI : Hid (∀ i, i < nL → (kids i).In w)) (HLB : Hid (nLB = 0 ∨ ∃ b off, aLB = some ⟨b, off, none⟩ ∧ b < w.heap.size ∧ ∀ i, i < nLB → ∀ j, j < 10 → w.cell? ⟨b, off + i * 10 + j, none⟩ = (kidsB i).cells[j]?)) (HIB : Hid (∀ i, i < nLB → (kidsB i).In w)) (hcL : cL ≤ 9223372036854775807) (hlL : nL ≤ cL) (hcLB : cLB ≤ 9223372036854775807) (hlLB : nLB ≤ cLB)
    (HF : Hid (∀ i, i < nL → i < nLB → ∀ w' : World, Below w.heap.size w w' → Calls Tryd.prog 29 #[(kids i).agg, (kidsB i).agg] w' fun e w2 => e = .returned (.int .i64 (p i)) ∧ Below w'.heap.size w' w2)) :
    Calls Tryd.prog 29 #[.agg #[.int .i64 8, .bool neg, .int .u64 (lm V 0 : Nat), .int .u64 (lm V 1 : Nat), .int .u64 (lm V 2 : Nat), .int .u64 (lm V 3 : Nat), .int .u64 (bits : Nat), .string text, .slice aL nL cL, .slice aK nK cK], .agg #[.int .i64 8, .bool negB, .int .u64 (lm VB 0 : Nat), .int .u64 (lm VB 1 : Nat), .int .u64 (lm VB 2 : Nat), .int .u64 (lm VB 3 : Nat), .int .u64 (bitsB : Nat), .string textB, .slice aLB nLB cLB, .slice aKB nK cKB]] w fun e w' => e = .returned (.int .i64 R0) ∧ Below w.heap.size w w' := by
  obtain ⟨W0, hW0⟩ : ∃ W0, W0 = (w.alloc (.cells #[.int .i64 8, .bool neg, .int .u64 (lm V 0 : Nat), .int .u64 (lm V 1 : Nat), .int .u64 (lm V 2 : Nat), .int .u64 (lm V 3 : Nat), .int .u64 (bits : Nat), .string text, .slice aL nL cL, .slice aK nK cK] 30)).alloc (.cells #[.int .i64 8, .bool negB, .int .u64 (lm VB 0 : Nat), .int .u64 (lm VB 1 : Nat), .int .u64 (lm VB 2 : Nat), .int .u64 (lm VB 3 : Nat), .int .u64 (bitsB : Nat), .string textB, .slice aLB nLB cLB, .slice aKB nK cKB] 30) := ⟨_, rfl⟩
  have Va := Lib.hid (show VBx W0 w.heap.size 8 neg V bits text aL nL cL aK nK cK by rw [hW0]; exact ⟨by simp [go_sem]⟩)
  have Vb := Lib.hid (show VBx W0 (w.heap.size + 1) 8 negB VB bitsB textB aLB nLB cLB aKB nK cKB by rw [hW0]; exact ⟨by simp [go_sem]⟩)
  have hB0 : Below w.heap.size w W0 := by rw [hW0]; (repeat first | with_reducible exact Below.refl _ _ | with_reducible assumption | with_reducible refine Below.drew ?_ | with_reducible refine below_alloc ?_ _ | ((with_reducible refine Below.setCell ?_ ?_ _); rotate_left; (focus (first | with_reducible exact Nat.le_refl _ | (simp; done) | (simp; omega) | omega))) | (with_reducible refine below_trans ?_ (by assumption)))
  have HW := Lib.hid hW0
  clear hW0
  go_enter Tryd.func29, Tryd.ntmps29
  repeat any_goals (first | go_skip | go_guarded | go_step | go_upon | (simp only []; done))
  rw [← HW.out]
  clear HW
  go_loopw [5] (fun i wr => ∃ k : Nat, k ≤ nK ∧ i = .int .i64 k ∧ fstC (fun i => sgnS (keys i) (keysB i)) k = 0 ∧ VBx wr w.heap.size 8 neg V bits text aL nL cL aK nK cK ∧ VBx wr (w.heap.size + 1) 8 negB VB bitsB textB aLB nLB cLB aKB nK cKB ∧ Below w.heap.size w wr) (fun i _ => nK - (intOf i).toNat)
  case atStart => exact ⟨0, Nat.zero_le _, rfl, rfl, Va.out, Vb.out, hB0⟩
  case round =>
    clear Va Vb hB0
    obtain ⟨k, hk, rfl, hA, hVa, hVb, hW⟩ := hrel
    have HA := Lib.hid hA
    have Va := Lib.hid hVa
    have Vb := Lib.hid hVb
    obtain ⟨_, _, _, _, _, _, _, _, _, _⟩ := hVa.all
    obtain ⟨_, _, _, _, _, _, _, _, _, _⟩ := hVb.all
    clear hA hVa hVb
    by_cases hkn : k < nK
    · obtain ⟨b, off, rfl, hb, hc, -⟩ := key_lit HK.out hkn hW
      obtain ⟨b2, off2, rfl, hb2, hc2, -⟩ := key_lit HKB.out hkn hW
      have K0 := Lib.hid (show SKx wr ⟨b, off + k, none⟩ ⟨b2, off2 + k, none⟩ (keys k) (keysB k) from ⟨hc, hc2, trivial, trivial, trivial⟩)
      have i1 : (k : Int) < (nK : Int) := by omega
      have i2 : (0 : Int) ≤ (k : Int) := by omega
      have i5 : (k : Int).toNat = k := rfl
      obtain ⟨x, hx⟩ : ∃ x : Int, x = sgnS (keys k) (keysB k) := ⟨_, rfl⟩
      have HCK := Lib.hid fun w' : World => by
        have := ROrder_any (keys k) (keysB k) w'
        rwa [← hx] at this
      have HX := Lib.hid hx
      clear hc hc2 hx
      go_upto_region 18 with fail
      (obtain ⟨C_, hC⟩ : ∃ C : World → Prop, C = fun w' => Below (wr).heap.size (wr) w' := ⟨_, rfl⟩; have HC := Lib.hid hC; have hne : ∀ p : Prop, (∀ w1 : World, C_ w1 → p) = p := fun p => propext ⟨fun h => h (wr) (by rw [hC]; exact Below.refl _ _), fun h _ _ => h⟩; clear hC; refine wp_region_quiet_cls (C := C_) (by kernel_rfl) (by kernel_rfl) (by rw [HC.out]; exact (Below.refl _ _).drew) ?_)
      (go_big_quiet_want; go_big_quiet_op; go_big_quiet_on)
      (go_big_quiet_want; refine ⟨.slice (some ⟨b, off, none⟩) nK cK, fun w1 hw1 => ?_, ?_⟩; (rw [HC.out] at hw1; obtain ⟨_, _, _, _, _⟩ := (Va.out.below hw1).all; simp [Oper.quietAt, go_sem, *]); (try simp only [Act.put, List.setIfInBounds_toArray, List.set_cons_zero, List.set_cons_succ]); go_big_quiet_on)
      (go_big_quiet_want; go_big_quiet_op; go_big_quiet_on)
      (go_big_quiet_want; go_big_quiet_op; go_big_quiet_on)
      (go_big_quiet_want; refine ⟨.string (keys k), fun w1 hw1 => ?_, ?_⟩; (rw [HC.out] at hw1; obtain ⟨_, _, _, _, _⟩ := (K0.out.below hw1).all; simp [Oper.quietAt, go_sem, *]); (try simp only [Act.put, List.setIfInBounds_toArray, List.set_cons_zero, List.set_cons_succ]); go_big_quiet_on)
      (go_big_quiet_want; go_big_quiet_op; go_big_quiet_on)
      (go_big_quiet_want; refine ⟨.slice (some ⟨b2, off2, none⟩) nK cKB, fun w1 hw1 => ?_, ?_⟩; (rw [HC.out] at hw1; obtain ⟨_, _, _, _, _⟩ := (Vb.out.below hw1).all; simp [Oper.quietAt, go_sem, *]); (try simp only [Act.put, List.setIfInBounds_toArray, List.set_cons_zero, List.set_cons_succ]); go_big_quiet_on)
      (go_big_quiet_want; go_big_quiet_op; go_big_quiet_on)
      (go_big_quiet_want; go_big_quiet_op; go_big_quiet_on)
      (go_big_quiet_want; refine ⟨.string (keysB k), fun w1 hw1 => ?_, ?_⟩; (rw [HC.out] at hw1; obtain ⟨_, _, _, _, _⟩ := (K0.out.below hw1).all; simp [Oper.quietAt, go_sem, *]); (try simp only [Act.put, List.setIfInBounds_toArray, List.set_cons_zero, List.set_cons_succ]); go_big_quiet_on)
      (go_big_quiet_want; go_big_quiet_op; refine ⟨.int .i64 x, fun w1 hw1 => ?_, ?_⟩; (rw [HC.out] at hw1 ⊢; with_reducible refine (HCK.out _).mono ?_; rintro e w4 ⟨rfl, rfl⟩; exact ⟨rfl, hw1⟩); go_big_quiet_on)
      (go_big_quiet_want; go_big_quiet_op; go_big_quiet_on)
      (refine wpQuiet_nil ?_; intro w2 hw2; rw [HC.out] at hw2)
      by_cases h0 : x = 0
      · subst h0
        repeat any_goals (first | go_skip | go_guarded | go_step | go_upon | (simp only []; done))
        go_roundw
        case rel => exact ⟨k + 1, by omega, rfl, by simp only [fstC]; rw [HA.out, ← HX.out]; rfl, Va.out.below hw2, Vb.out.below hw2, below_trans hW hw2⟩
        case measure => simp [intOf]; omega
      · have e : R0 = x := by
          rw [HR0.out, lexN_at (f := fun i => sgnS (keys i) (keysB i)) HA.out hkn hkn (by show sgnS (keys k) (keysB k) ≠ 0; rw [← HX.out]; exact h0), ← HX.out]
          unfold or2
          rw [if_neg h0]
        have HE := Lib.hid e
        clear e
        repeat any_goals (first | go_skip | go_guarded | go_step | go_upon | (simp only []; done))
        exact bodyPost_ret (v := .int .i64 x) (by simp [results, Tryd.results29, go_sem]) rfl ⟨by rw [HE.out], below_trans hW hw2⟩
    · have hk' : k = nK := by omega
      subst hk'
      have i1 : ¬ (k : Int) < (k : Int) := by omega
      have e : R0 = R := by
        rw [HR0.out, lexN_end HA.out (by omega)]
        have : cmpZZ (k : Int) (k : Int) = 0 := cmpZZ_zero.2 rfl
        rw [this]
        rfl
      clear HR0
      subst R0
      repeat any_goals (first | go_skip | go_guarded | go_step | go_upon | (simp only []; done))
      go_loopw [7] (fun i wr => ∃ j : Nat, j ≤ nL ∧ j ≤ nLB ∧ i = .int .i64 j ∧ fstC p j = 0 ∧ VBx wr w.heap.size 8 neg V bits text aL nL cL aK k cK ∧ VBx wr (w.heap.size + 1) 8 negB VB bitsB textB aLB nLB cLB aKB k cKB ∧ Below w.heap.size w wr) (fun i _ => nL - (intOf i).toNat)
      case atStart => exact ⟨0, Nat.zero_le _, Nat.zero_le _, rfl, rfl, Va.out, Vb.out, hW⟩
      case round =>
        clear Va Vb hW
        obtain ⟨j, hk, hk2, rfl, hA, hVa, hVb, hW⟩ := hrel
        have HA := Lib.hid hA
        have Va := Lib.hid hVa
        have Vb := Lib.hid hVb
        obtain ⟨_, _, _, _, _, _, _, _, _, _⟩ := hVa.all
        obtain ⟨_, _, _, _, _, _, _, _, _, _⟩ := hVb.all
        clear hA hVa hVb
        by_cases hkn : j < nL
        · have i1 : (j : Int) < (nL : Int) := by omega
          by_cases hkm : j < nLB
          · have i3 : (j : Int) < (nLB : Int) := by omega
            obtain ⟨b, off, kind', neg', V', bits', text', aL', nL', cL', kids', aK', nK', cK', keys', rfl, hb, hkid, hc, -⟩ := kid_lit HL.out HI.out hkn hW
            obtain ⟨b2, off2, kind'', neg'', V'', bits'', text'', aL'', nL'', cL'', kids'', aK'', nK'', cK'', keys'', rfl, hb2, hkid2, hc2, -⟩ := kid_lit HLB.out HIB.out hkm hW
            have K1 := Lib.hid (show KBx wr b (off + j * 10) kind' neg' V' bits' text' aL' nL' cL' aK' nK' cK' from ⟨hc⟩)
            have K2 := Lib.hid (show KBx wr b2 (off2 + j * 10) kind'' neg'' V'' bits'' text'' aL'' nL'' cL'' aK'' nK'' cK'' from ⟨hc2⟩)
            have i2 : (0 : Int) ≤ (j : Int) := by omega
            have i5 : (j : Int).toNat = j := rfl
            obtain ⟨x, hx⟩ : ∃ x : Int, x = p j := ⟨_, rfl⟩
            have HC0 : ∀ w'' : World, Below wr.heap.size wr w'' → Calls Tryd.prog 29 #[(kids j).agg, (kidsB j).agg] w'' fun e w' => e = .returned (.int .i64 x) ∧ Below w''.heap.size w'' w' := fun w'' hb => by
              have := HF.out j hkn hkm w'' (below_trans hW hb)
              rwa [← hx] at this
            rw [hkid, hkid2] at HC0
            simp only [VT.agg, VT.cells] at HC0
            have HCK := Lib.hid HC0
            have HX := Lib.hid hx
            clear hkid hkid2 hx hc hc2 HC0
            go_upto_region 24 with fail
            (obtain ⟨C_, hC⟩ : ∃ C : World → Prop, C = fun w' => Below (wr).heap.size (wr) w' := ⟨_, rfl⟩; have HC := Lib.hid hC; have hne : ∀ p : Prop, (∀ w1 : World, C_ w1 → p) = p := fun p => propext ⟨fun h => h (wr) (by rw [hC]; exact Below.refl _ _), fun h _ _ => h⟩; clear hC; refine wp_region_quiet_cls (C := C_) (by kernel_rfl) (by kernel_rfl) (by rw [HC.out]; exact (Below.refl _ _).drew) ?_)
            (go_big_quiet_want; go_big_quiet_op; go_big_quiet_on)
            (go_big_quiet_want; refine ⟨.slice (some ⟨b, off, none⟩) nL cL, fun w1 hw1 => ?_, ?_⟩; (rw [HC.out] at hw1; obtain ⟨_, _, _, _, _⟩ := (Va.out.below hw1).all; simp [Oper.quietAt, go_sem, *]); (try simp only [Act.put, List.setIfInBounds_toArray, List.set_cons_zero, List.set_cons_succ]); go_big_quiet_on)
            (go_big_quiet_want; go_big_quiet_op; go_big_quiet_on)
            (go_big_quiet_want; go_big_quiet_op; go_big_quiet_on)
            (go_big_quiet_want; refine ⟨.agg #[.int .i64 kind', .bool neg', .int .u64 (lm V' 0 : Nat), .int .u64 (lm V' 1 : Nat), .int .u64 (lm V' 2 : Nat), .int .u64 (lm V' 3 : Nat), .int .u64 (bits' : Nat), .string text', .slice aL' nL' cL', .slice aK' nK' cK'], fun w1 hw1 => ?_, ?_⟩; (rw [HC.out] at hw1; obtain ⟨_, _, _, _, _⟩ := (K1.out.below hw1).all; simp [Oper.quietAt, go_sem, *]); (try simp only [Act.put, List.setIfInBounds_toArray, List.set_cons_zero, List.set_cons_succ]); go_big_quiet_on)
            (go_big_quiet_want; go_big_quiet_op; go_big_quiet_on)
            (go_big_quiet_want; refine ⟨.slice (some ⟨b2, off2, none⟩) nLB cLB, fun w1 hw1 => ?_, ?_⟩; (rw [HC.out] at hw1; obtain ⟨_, _, _, _, _⟩ := (Vb.out.below hw1).all; simp [Oper.quietAt, go_sem, *]); (try simp only [Act.put, List.setIfInBounds_toArray, List.set_cons_zero, List.set_cons_succ]); go_big_quiet_on)
            (go_big_quiet_want; go_big_quiet_op; go_big_quiet_on)
            (go_big_quiet_want; go_big_quiet_op; go_big_quiet_on)
            (go_big_quiet_want; refine ⟨.agg #[.int .i64 kind'', .bool neg'', .int .u64 (lm V'' 0 : Nat), .int .u64 (lm V'' 1 : Nat), .int .u64 (lm V'' 2 : Nat), .int .u64 (lm V'' 3 : Nat), .int .u64 (bits'' : Nat), .string text'', .slice aL'' nL'' cL'', .slice aK'' nK'' cK''], fun w1 hw1 => ?_, ?_⟩; (rw [HC.out] at hw1; obtain ⟨_, _, _, _, _⟩ := (K2.out.below hw1).all; simp [Oper.quietAt, go_sem, *]); (try simp only [Act.put, List.setIfInBounds_toArray, List.set_cons_zero, List.set_cons_succ]); go_big_quiet_on)
            (go_big_quiet_want; go_big_quiet_op; refine ⟨.int .i64 x, fun w1 hw1 => ?_, ?_⟩; (rw [HC.out] at hw1 ⊢; with_reducible refine (HCK.out _ hw1).mono ?_; rintro e w4 ⟨rfl, hb4⟩; exact ⟨rfl, below_trans hw1 hb4⟩); go_big_quiet_on)
            (go_big_quiet_want; go_big_quiet_op; go_big_quiet_on)
            (refine wpQuiet_nil ?_; intro w2 hw2; rw [HC.out] at hw2)
            by_cases h0 : x = 0
            · subst h0
              repeat any_goals (first | go_skip | go_guarded | go_step | go_upon | (simp only []; done))
              go_roundw
              case rel => exact ⟨j + 1, by omega, by omega, rfl, by simp only [fstC]; rw [HA.out, ← HX.out]; rfl, Va.out.below hw2, Vb.out.below hw2, below_trans hW hw2⟩
              case measure => simp [intOf]; omega
            · have e : R = x := by rw [HR.out, lexN_at HA.out hkn hkm (by rw [← HX.out]; exact h0), ← HX.out]
              have HE := Lib.hid e
              clear e
              repeat any_goals (first | go_skip | go_guarded | go_step | go_upon | (simp only []; done))
              exact bodyPost_ret (v := .int .i64 x) (by simp [results, Tryd.results29, go_sem]) rfl ⟨by rw [HE.out], below_trans hW hw2⟩
          · have i3 : ¬ (j : Int) < (nLB : Int) := by omega
            have e : R = cmpZZ nL nLB := by rw [HR.out, lexN_end HA.out (by omega)]
            have HE := Lib.hid e
            clear e
            repeat any_goals (first | (go_at_call 54; refine (RSign_any _ _ _).mono ?_; rintro e w' ⟨rfl, rfl⟩) | go_skip | go_guarded | go_step | go_upon | (dsimp only []))
            exact bodyPost_ret (v := .int .i64 (cmpZZ nL nLB)) (by simp [results, Tryd.results29, go_sem]) rfl ⟨by rw [HE.out], hW⟩
        · have i1 : ¬ (j : Int) < (nL : Int) := by omega
          have e : R = cmpZZ nL nLB := by rw [HR.out, lexN_end HA.out (by omega)]
          have HE := Lib.hid e
          clear e
          repeat any_goals (first | (go_at_call 54; refine (RSign_any _ _ _).mono ?_; rintro e w' ⟨rfl, rfl⟩) | go_skip | go_guarded | go_step | go_upon | (dsimp only []))
          exact bodyPost_ret (v := .int .i64 (cmpZZ nL nLB)) (by simp [results, Tryd.results29, go_sem]) rfl ⟨by rw [HE.out], hW⟩
theorem or2_nought' (x : Int) : or2 0 x = x := rfl
theorem or2_right (x : Int) : or2 x 0 = x := by
  unfold or2
  split <;> omega
theorem cmpZZ_self (x : Int) : cmpZZ x x = 0 := cmpZZ_zero.2 rfl
theorem sgnS_self (x : ByteArray) : sgnS x x = 0 := sgnS_zero.2 rfl
theorem right_own {kind : Int} {neg : Bool} {V bits : Nat} {text : ByteArray} {aL : Option Addr} {nL cL : Nat} {kids : Nat → VT} {aK : Option Addr} {nK cK : Nat} {keys : Nat → ByteArray} (h : (VT.mk kind neg V bits text aL nL cL kids aK nK cK keys).right = true) :
    (1 ≤ kind ∧ kind ≤ 8) ∧ (kind ≠ 7 → kind ≠ 8 → nL = 0) ∧ (kind = 2 ∨ kind = 4 ∨ kind = 1 → text = ⟨#[]⟩) ∧ (kind = 5 ∨ kind = 6 ∨ kind = 1 → bits = 0) := by
  simp only [VT.right, Bool.and_eq_true] at h
  obtain ⟨⟨m1, e1⟩, -⟩ := h
  unfold eqB at e1
  simp only [decide_eq_true_eq] at e1
  obtain ⟨-, -, a3, a4⟩ := e1
  unfold midB at m1
  refine ⟨?_, ?_, ?_, ?_⟩
  · by_cases h7 : kind = 7
    · omega
    · by_cases h8 : kind = 8
      · omega
      · rw [if_neg h7, if_neg h8] at m1
        simp only [Bool.and_eq_true, Bool.or_eq_true, decide_eq_true_eq] at m1
        omega
  · intro h7 h8
    rw [if_neg h7, if_neg h8] at m1
    simp only [Bool.and_eq_true, beq_iff_eq] at m1
    exact m1.1.1
  · intro hk
    rw [a4]
    unfold bareT
    rw [if_neg (by omega)]
  · intro hk
    rw [a3]
    unfold bareB
    rw [if_neg (by omega), if_neg (by omega)]
theorem RCmpV_any : ∀ (T U : VT) (w : World), T.In w → U.In w → T.right = true → U.right = true → Calls Tryd.prog 29 #[T.agg, U.agg] w fun e w' => e = .returned (.int .i64 (T.cmpT U)) ∧ Below w.heap.size w w' := by
  intro T
  induction T with
  | nil => exact fun U w h => h.elim
  | mk kind neg V bits text aL nL cL kids aK nK cK keys ih =>
    intro U w hin hinB hT hU
    cases U with
    | nil => exact hinB.elim
    | mk kindB negB VB bitsB textB aLB nLB cLB kidsB aKB nKB cKB keysB =>
    obtain ⟨o, hL, hk, hKy⟩ := hin
    obtain ⟨oB, hLB, hkB, hKyB⟩ := hinB
    have hcL := o.lc
    have hcK := o.nc
    have hcLB := oB.lc
    have hcKB := oB.nc
    simp only [maxLen] at hcL hcK hcLB hcKB
    have hF : ∀ i, i < nL → i < nLB → ∀ w' : World, Below w.heap.size w w' → Calls Tryd.prog 29 #[(kids i).agg, (kidsB i).agg] w' fun e w2 => e = .returned (.int .i64 ((kids i).cmpT (kidsB i))) ∧ Below w'.heap.size w' w2 := fun i hi hiB w' hb =>
      ih i _ w' ((hk i hi).below hb) ((hkB i hiB).below hb) (VT.right_kid hT hi) (VT.right_kid hU hiB)
    have r1 := right_own hT
    have r2 := right_own hU
    by_cases h0 : kind = kindB
    · subst h0
      simp only [VT.cmpT, if_true]
      by_cases h3 : kind = 3
      · subst h3
        rw [if_pos rfl]
        exact RCmp_int neg V bits text aL nL cL aK nK cK negB VB bitsB textB aLB nLB cLB aKB nKB cKB o.v oB.v (VT.right_int hT) (VT.right_int hU) w
      rw [if_neg h3]
      by_cases h7 : kind = 7
      · subst h7
        rw [if_pos rfl]
        exact RCmp_list 7 neg V bits text aL nL cL aK nK cK negB VB bitsB textB aLB nLB cLB aKB nKB cKB kids kidsB _ _ w rfl rfl rfl rfl rfl rfl (Lib.hid rfl) (Lib.hid hL) (Lib.hid hk) (Lib.hid hLB) (Lib.hid hkB) (by omega) o.l (by omega) oB.l (Lib.hid hF)
      rw [if_neg h7]
      by_cases h8 : kind = 8
      · subst h8
        rw [if_pos rfl]
        by_cases hn : nK = nKB
        · subst hn
          rw [cmpZZ_self, or2_nought']
          exact RCmp_map neg V bits text aL nL cL aK nK cK negB VB bitsB textB aLB nLB cLB aKB cKB keys keysB kids kidsB _ _ _ w (Lib.hid rfl) (Lib.hid rfl) (Lib.hid hKy) (Lib.hid hKyB) (by omega) o.n (by omega) oB.n (Lib.hid hL) (Lib.hid hk) (Lib.hid hLB) (Lib.hid hkB) (by omega) o.l (by omega) oB.l (Lib.hid hF)
        · have hc : cmpZZ (nK : Int) (nKB : Int) ≠ 0 := fun h => hn (by have := cmpZZ_zero.1 h; omega)
          have e : ∀ y, or2 (cmpZZ (nK : Int) (nKB : Int)) y = cmpZZ (nK : Int) (nKB : Int) := fun y => by unfold or2; rw [if_neg hc]
          rw [e]
          exact RCmp_lens neg V bits text aL nL cL aK nK cK negB VB bitsB textB aLB nLB cLB aKB nKB cKB (beq_false_of_ne (by omega)) (by omega) o.n (by omega) oB.n w
      rw [if_neg h8]
      by_cases h2 : kind = 2
      · subst h2
        rw [r1.2.2.1 (.inl rfl), r2.2.2.1 (.inl rfl), sgnS_self, or2_right]
        exact RCmp_bits2 neg V bits _ aL nL cL aK nK cK negB VB bitsB _ aLB nLB cLB aKB nKB cKB w
      by_cases h4 : kind = 4
      · subst h4
        rw [r1.2.2.1 (.inr (.inl rfl)), r2.2.2.1 (.inr (.inl rfl)), sgnS_self, or2_right]
        exact RCmp_bits4 neg V bits _ aL nL cL aK nK cK negB VB bitsB _ aLB nLB cLB aKB nKB cKB w
      by_cases h5 : kind = 5
      · subst h5
        rw [r1.2.2.2 (.inl rfl), r2.2.2.2 (.inl rfl), cmpZZ_self, or2_nought']
        exact RCmp_text5 neg V 0 text aL nL cL aK nK cK negB VB 0 textB aLB nLB cLB aKB nKB cKB w
      by_cases h6 : kind = 6
      · subst h6
        rw [r1.2.2.2 (.inr (.inl rfl)), r2.2.2.2 (.inr (.inl rfl)), cmpZZ_self, or2_nought']
        exact RCmp_text6 neg V 0 text aL nL cL aK nK cK negB VB 0 textB aLB nLB cLB aKB nKB cKB w
      have h1 : kind = 1 := by omega
      have e : or2 (cmpZZ (bits : Int) (bitsB : Int)) (sgnS text textB) = lexN (fun i => (kids i).cmpT (kidsB i)) nL nLB := by
        rw [r1.2.2.1 (.inr (.inr h1)), r2.2.2.1 (.inr (.inr h1)), r1.2.2.2 (.inr (.inr h1)), r2.2.2.2 (.inr (.inr h1)), r1.2.1 h7 h8, r2.2.1 h7 h8, sgnS_self, or2_right]
        rfl
      rw [e]
      exact RCmp_list kind neg V bits text aL nL cL aK nK cK negB VB bitsB textB aLB nLB cLB aKB nKB cKB kids kidsB _ _ w (beq_false_of_ne h2) (beq_false_of_ne h3) (beq_false_of_ne h4) (beq_false_of_ne h5) (beq_false_of_ne h6) (beq_false_of_ne h8) (Lib.hid rfl) (Lib.hid hL) (Lib.hid hk) (Lib.hid hLB) (Lib.hid hkB) (by omega) o.l (by omega) oB.l (Lib.hid hF)
    · simp only [VT.cmpT]
      rw [if_neg h0]
      obtain ⟨k1, rfl⟩ : ∃ k1 : Nat, kind = k1 := ⟨kind.toNat, by omega⟩
      obtain ⟨k2, rfl⟩ : ∃ k2 : Nat, kindB = k2 := ⟨kindB.toNat, by omega⟩
      exact RCmp_kinds k1 k2 neg V bits text aL nL cL aK nK cK negB VB bitsB textB aLB nLB cLB aKB nKB cKB w (beq_false_of_ne h0) (by omega) (by omega)
end Go.Proofs.YtminijokbeclhaaDoor
