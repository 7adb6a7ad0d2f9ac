/- VIns, Asks in one text. IBOX -/
import Derived.Test.YtminijokbeclhaaDoorOwnM
import Derived.Test.YtminijokbeclhaaDoorRh6
namespace Go.Proofs.YtminijokbeclhaaDoor
open Go.RowKit
def range64B (neg : Bool) (V : Nat) : Bool := toUOk neg V || toIOk neg V
structure R64C (w : World) (neg : Bool) (V : Nat) (x : Nat) (y : Int) (a b : Bool) : Prop where
  c1 : ∀ wr : World, Calls Tryd.prog 95 #[.agg #[.bool (neg ), .int .u64 (lm ( V) 0 : Nat), .int .u64 (lm ( V) 1 : Nat), .int .u64 (lm ( V) 2 : Nat), .int .u64 (lm ( V) 3 : Nat)]] wr fun e w' => e = .returned (.tuple #[.int .u64 (x : Nat), .bool a]) ∧ Below wr.heap.size wr w'
  c2 : ∀ wr : World, Calls Tryd.prog 96 #[.agg #[.bool (neg ), .int .u64 (lm ( V) 0 : Nat), .int .u64 (lm ( V) 1 : Nat), .int .u64 (lm ( V) 2 : Nat), .int .u64 (lm ( V) 3 : Nat)]] wr fun e w' => e = .returned (.tuple #[.int .i64 y, .bool b]) ∧ Below wr.heap.size wr w'
set_option maxRecDepth 20000 in
theorem Range64_walk (neg : Bool) (V : Nat) (x : Nat) (y : Int) (a b : Bool) (w : World) (C : Hid (R64C w neg V x y a b)) : Calls Tryd.prog 66 #[.agg #[.bool (neg ), .int .u64 (lm ( V) 0 : Nat), .int .u64 (lm ( V) 1 : Nat), .int .u64 (lm ( V) 2 : Nat), .int .u64 (lm ( V) 3 : Nat)]] w fun e w' => e = .returned (.bool (a || b)) ∧ Below w.heap.size w w' := by
  cases a with
  | true =>
    rw [Bool.true_or]
    go_enter Tryd.func66, Tryd.ntmps66
    repeat any_goals (first | (go_at_call 95; with_reducible refine (C.out.c1 _).mono ?_; rintro e w1 ⟨rfl, hb1⟩; (first | have X1 := Lib.hid (box_hb hb1) | have X1 := Lib.hid (ibox_hb hb1)); obtain ⟨_, _, _, _, _⟩ := X1.out.all) | (go_at_call 96; refine (C.out.c2 _).mono ?_; rintro e w2 ⟨rfl, hb2⟩) | go_skip | go_guarded | go_step | go_upon | (dsimp only []))
    exact bodyPost_ret (v := .bool true) (by simp [results, Tryd.results66, go_sem]) rfl ⟨rfl, by (repeat first | with_reducible exact Below.refl _ _ | with_reducible assumption | with_reducible refine Below.drew ?_ | with_reducible refine below_alloc ?_ _ | ((with_reducible refine Below.setCell ?_ ?_ _); rotate_left; (focus (first | with_reducible exact Nat.le_refl _ | (simp; done) | (simp; omega) | omega))) | (with_reducible refine below_trans ?_ (by assumption)))⟩
  | false =>
    rw [Bool.false_or]
    go_enter Tryd.func66, Tryd.ntmps66
    repeat any_goals (first | (go_at_call 95; with_reducible refine (C.out.c1 _).mono ?_; rintro e w1 ⟨rfl, hb1⟩; (first | have X1 := Lib.hid (box_hb hb1) | have X1 := Lib.hid (ibox_hb hb1)); obtain ⟨_, _, _, _, _⟩ := X1.out.all) | (go_at_call 96; refine (C.out.c2 _).mono ?_; rintro e w2 ⟨rfl, hb2⟩) | go_skip | go_guarded | go_step | go_upon | (dsimp only []))
    exact bodyPost_ret (v := .bool b) (by simp [results, Tryd.results66, go_sem]) rfl ⟨rfl, by (repeat first | with_reducible exact Below.refl _ _ | with_reducible assumption | with_reducible refine Below.drew ?_ | with_reducible refine below_alloc ?_ _ | ((with_reducible refine Below.setCell ?_ ?_ _); rotate_left; (focus (first | with_reducible exact Nat.le_refl _ | (simp; done) | (simp; omega) | omega))) | (with_reducible refine below_trans ?_ (by assumption)))⟩
theorem Range64_any (neg : Bool) (V : Nat) (hV : V < 2 ^ 256) (w : World) : Calls Tryd.prog 66 #[.agg #[.bool (neg ), .int .u64 (lm ( V) 0 : Nat), .int .u64 (lm ( V) 1 : Nat), .int .u64 (lm ( V) 2 : Nat), .int .u64 (lm ( V) 3 : Nat)]] w fun e w' => e = .returned (.bool (range64B neg V)) ∧ Below w.heap.size w w' :=
  Range64_walk neg V _ _ _ _ w (Lib.hid ⟨fun wr => RToUint_any neg V hV wr, fun wr => RToInt_any neg V hV wr⟩)
/-- what is asked ahead of the elements -/
def earlyB (kind : Int) (lang c : Int) (r x below array : Bool) : Bool :=
  (decide (lang = 1) && (decide (kind = 6) || decide (kind = 4) && decide (c ≠ 1))) ||
  (decide (lang = 3) && (decide (kind = 1) || (!below && decide (kind ≠ 8)) || (array && decide (kind = 7)))) || (decide (lang = 3) && decide (kind = 3) && !r && !x)
def VT.insideB : VT → Int → Bool → Bool → Bool
  | .nil => fun _ _ _ => false
  | .mk kind neg V bits _ _ nL _ kids _ _ _ _ => fun lang below array => !earlyB kind lang (cls bits) (range64B neg V) (exactI neg V) below array && !anyN (fun i => !(kids i).insideB lang true (decide (kind = 7))) nL
structure InsC (neg : Bool) (V bits : Nat) (c : Int) (r x : Bool) : Prop where
  c1 : ∀ wr : World, Calls Tryd.prog 57 #[.int .u64 (bits : Nat)] wr fun e w' => e = .returned (.int .i64 c) ∧ Below wr.heap.size wr w'
  c2 : ∀ wr : World, Calls Tryd.prog 66 #[.agg #[.bool (neg ), .int .u64 (lm ( V) 0 : Nat), .int .u64 (lm ( V) 1 : Nat), .int .u64 (lm ( V) 2 : Nat), .int .u64 (lm ( V) 3 : Nat)]] wr fun e w' => e = .returned (.bool r) ∧ Below wr.heap.size wr w'
  c3 : ∀ wr : World, Calls Tryd.prog 67 #[.agg #[.bool (neg ), .int .u64 (lm ( V) 0 : Nat), .int .u64 (lm ( V) 1 : Nat), .int .u64 (lm ( V) 2 : Nat), .int .u64 (lm ( V) 3 : Nat)]] wr fun e w' => e = .returned (.bool x) ∧ Below wr.heap.size wr w'
set_option maxRecDepth 20000 in
set_option maxHeartbeats 4000000 in
theorem Inside_any : ∀ (T : VT) (w : World) (lang : Int) (below array : Bool), T.In w → Calls Tryd.prog 34 #[T.agg, .int .i64 lang, .bool below, .bool array] w fun e w' => e = .returned (.bool (T.insideB lang below array)) ∧ Below w.heap.size w w' := by
  intro T
  induction T with
  | nil => exact fun w _ _ _ h => h.elim
  | mk kind neg V bits text aL nL cL kids aK nK cK keys ih =>
    intro w lang below array hin
    obtain ⟨o, hL, hk, -⟩ := hin
    simp only [VT.agg, VT.cells]
    have C : Hid (InsC neg V bits (cls bits) (range64B neg V) (exactI neg V)) := Lib.hid ⟨fun wr => RClass_any bits o.b wr, fun wr => Range64_any neg V o.v wr, fun wr => RExact_any neg V o.v wr⟩
    obtain ⟨R, hR0⟩ : ∃ R, R = (VT.mk kind neg V bits text aL nL cL kids aK nK cK keys).insideB lang below array := ⟨_, rfl⟩
    rw [← hR0]
    obtain ⟨b7, h7⟩ : ∃ b, b = decide (kind = 7) := ⟨_, rfl⟩
    have hR : R = (!earlyB kind lang (cls bits) (range64B neg V) (exactI neg V) below array && !anyN (fun i => !(kids i).insideB lang true b7) nL) := by rw [hR0, h7]; rfl
    have h7i : (kind == 7) = b7 := by rw [h7]; rfl
    clear hR0 h7
    generalize cls bits = c at *
    generalize range64B neg V = r at *
    generalize exactI neg V = x at *
    have HL := Lib.hid hL
    have HK := Lib.hid hk
    have HR := Lib.hid hR
    have IH := Lib.hid ih
    have H7 := Lib.hid h7i
    have hcL := o.lc
    have hlL := o.l
    clear hL hk hR ih h7i o
    simp only [maxLen] at hcL
    by_cases l1 : lang = 1
    · subst l1
      have l3i : ((1 : Int) == 3) = false := rfl
      by_cases k6 : kind = 6
      · subst k6
        have V0 := Lib.hid (show VBx (w.alloc (.cells #[.int .i64 6, .bool neg, .int .u64 (lm V 0 : Nat), .int .u64 (lm V 1 : Nat), .int .u64 (lm V 2 : Nat), .int .u64 (lm V 3 : Nat), .int .u64 (bits : Nat), .string text, .slice aL nL cL, .slice aK nK cK] 30)) w.heap.size 6 neg V bits text aL nL cL aK nK cK from ⟨by simp [go_sem]⟩)
        have e : R = false := by rw [HR.out]; simp [earlyB, *]
        subst e
        clear HR
        go_enter Tryd.func34, Tryd.ntmps34
        repeat any_goals (first | (go_at_call 57; with_reducible refine (C.out.c1 _).mono ?_; rintro e w1 ⟨rfl, hb1⟩; (first | have V1 := Lib.hid (V0.out.below hb1) | have V1 := Lib.hid (V0.out.step hb1) | have V1 := Lib.hid (V0.out.step2 hb1)); obtain ⟨_, _, _, _, _, _, _, _, _, _⟩ := V1.out.all) | (go_at_call 66; with_reducible refine (C.out.c2 _).mono ?_; rintro e w2 ⟨rfl, hb2⟩; (first | have V2 := Lib.hid (V0.out.below hb2) | have V2 := Lib.hid (V0.out.step hb2) | have V2 := Lib.hid (V0.out.step2 hb2)); obtain ⟨_, _, _, _, _, _, _, _, _, _⟩ := V2.out.all) | (go_at_call 67; with_reducible refine (C.out.c3 _).mono ?_; rintro e w3 ⟨rfl, hb3⟩; (first | have V3 := Lib.hid (V2.out.below hb3) | have V3 := Lib.hid (V2.out.step hb3) | have V3 := Lib.hid (V2.out.step2 hb3)); obtain ⟨_, _, _, _, _, _, _, _, _, _⟩ := V3.out.all) | go_skip | go_guarded | go_step | go_upon | (dsimp only []))
        exact bodyPost_ret (v := .bool false) (by simp [results, Tryd.results34, go_sem]) rfl ⟨rfl, by (repeat first | with_reducible exact Below.refl _ _ | with_reducible assumption | with_reducible refine Below.drew ?_ | with_reducible refine below_alloc ?_ _ | ((with_reducible refine Below.setCell ?_ ?_ _); rotate_left; (focus (first | with_reducible exact Nat.le_refl _ | (simp; done) | (simp; omega) | omega))) | (with_reducible refine below_trans ?_ (by assumption)))⟩
      have k6i : (kind == 6) = false := by simpa using k6
      by_cases k4 : kind = 4
      · subst k4
        by_cases c1 : c = 1
        · subst c1
          have V0 := Lib.hid (show VBx (w.alloc (.cells #[.int .i64 4, .bool neg, .int .u64 (lm V 0 : Nat), .int .u64 (lm V 1 : Nat), .int .u64 (lm V 2 : Nat), .int .u64 (lm V 3 : Nat), .int .u64 (bits : Nat), .string text, .slice aL nL cL, .slice aK nK cK] 30)) w.heap.size 4 neg V bits text aL nL cL aK nK cK from ⟨by simp [go_sem]⟩)
          have HR2 : Hid (R = !anyN (fun i => !(kids i).insideB 1 true b7) nL) := Lib.hid (by rw [HR.out]; simp [earlyB, *])
          clear HR
          go_enter Tryd.func34, Tryd.ntmps34
          repeat any_goals (first | (go_at_call 57; with_reducible refine (C.out.c1 _).mono ?_; rintro e w1 ⟨rfl, hb1⟩; (first | have V1 := Lib.hid (V0.out.below hb1) | have V1 := Lib.hid (V0.out.step hb1) | have V1 := Lib.hid (V0.out.step2 hb1)); obtain ⟨_, _, _, _, _, _, _, _, _, _⟩ := V1.out.all) | (go_at_call 66; with_reducible refine (C.out.c2 _).mono ?_; rintro e w2 ⟨rfl, hb2⟩; (first | have V2 := Lib.hid (V0.out.below hb2) | have V2 := Lib.hid (V0.out.step hb2) | have V2 := Lib.hid (V0.out.step2 hb2)); obtain ⟨_, _, _, _, _, _, _, _, _, _⟩ := V2.out.all) | (go_at_call 67; with_reducible refine (C.out.c3 _).mono ?_; rintro e w3 ⟨rfl, hb3⟩; (first | have V3 := Lib.hid (V2.out.below hb3) | have V3 := Lib.hid (V2.out.step hb3) | have V3 := Lib.hid (V2.out.step2 hb3)); obtain ⟨_, _, _, _, _, _, _, _, _, _⟩ := V3.out.all) | go_skip | go_guarded | go_step | go_upon | (dsimp only []))
          go_loopw [9] (fun i wr => ∃ k : Nat, k ≤ nL ∧ i = .int .i64 k ∧ anyN (fun i => !(kids i).insideB 1 true b7) k = false ∧ VBx wr w.heap.size 4 neg V bits text aL nL cL aK nK cK ∧ Below w.heap.size w wr) (fun i _ => nL - (intOf i).toNat)
          case atStart => exact ⟨0, Nat.zero_le _, rfl, rfl, V1.out, by (repeat first | with_reducible exact Below.refl _ _ | with_reducible assumption | with_reducible refine Below.drew ?_ | with_reducible refine below_alloc ?_ _ | ((with_reducible refine Below.setCell ?_ ?_ _); rotate_left; (focus (first | with_reducible exact Nat.le_refl _ | (simp; done) | (simp; omega) | omega))) | (with_reducible refine below_trans ?_ (by assumption)))⟩
          case round =>
            obtain ⟨k, hk, rfl, hA, hV, hW⟩ := hrel
            have HA := Lib.hid hA
            have VV := Lib.hid hV
            obtain ⟨_, _, _, _, _, _, _, _, _, _⟩ := hV.all
            clear hA hV
            by_cases hkn : k < nL
            · obtain ⟨b, off, kind', neg', V', bits', text', aL', nL', cL', kids', aK', nK', cK', keys', rfl, hb, hkid, hc, hin'⟩ := kid_lit HL.out HK.out hkn hW
              have K0 := Lib.hid (show KBx wr b (off + k * 10) kind' neg' V' bits' text' aL' nL' cL' aK' nK' cK' from ⟨hc⟩)
              have i1 : (k : Int) < (nL : Int) := by omega
              have i2 : (0 : Int) ≤ (k : Int) := by omega
              have i5 : (k : Int).toNat = k := rfl
              obtain ⟨z, hz⟩ : ∃ z : Bool, z = (kids k).insideB 1 true b7 := ⟨_, rfl⟩
              have HC : ∀ w'' : World, Below wr.heap.size wr w'' → Calls Tryd.prog 34 #[(kids k).agg, .int .i64 1, .bool true, .bool b7] w'' fun e w' => e = .returned (.bool z) ∧ Below w''.heap.size w'' w' := fun w'' hb => by
                have := IH.out k w'' 1 true b7 (hin'.below hb)
                rwa [← hz] at this
              rw [hkid] at HC
              simp only [VT.agg, VT.cells] at HC
              have HCK := Lib.hid HC
              have HX := Lib.hid hz
              have h7i := H7.out
              clear hin' hkid hz hc HC
              cases z with
              | false =>
                have e : R = false := by rw [HR2.out, anyN_of (p := fun i => !(kids i).insideB 1 true b7) (by rw [← HX.out]; rfl) hkn]; rfl
                subst e
                go_upto_region 10 with fail
                (obtain ⟨C_, hC⟩ : ∃ C : World → Prop, C = fun w' => Below (wr).heap.size (wr) w' := ⟨_, rfl⟩; have HC := Lib.hid hC; have hne : ∀ p : Prop, (∀ w1 : World, C_ w1 → p) = p := fun p => propext ⟨fun h => h (wr) (by rw [hC]; exact Below.refl _ _), fun h _ _ => h⟩; clear hC; refine wp_region_quiet_cls (C := C_) (by kernel_rfl) (by kernel_rfl) (by rw [HC.out]; exact (Below.refl _ _).drew) ?_)
                (go_big_quiet_want; go_big_quiet_op; go_big_quiet_on)
                (go_big_quiet_want; refine ⟨.slice (some ⟨b, off, none⟩) nL cL, fun w1 hw1 => ?_, ?_⟩; (rw [HC.out] at hw1; obtain ⟨_, _, _, _, _⟩ := (VV.out.below hw1).all; simp [Oper.quietAt, go_sem, *]); (try simp only [Act.put, List.setIfInBounds_toArray, List.set_cons_zero, List.set_cons_succ]); go_big_quiet_on)
                (go_big_quiet_want; go_big_quiet_op; go_big_quiet_on)
                (go_big_quiet_want; go_big_quiet_op; go_big_quiet_on)
                (go_big_quiet_want; refine ⟨.agg #[.int .i64 kind', .bool neg', .int .u64 (lm V' 0 : Nat), .int .u64 (lm V' 1 : Nat), .int .u64 (lm V' 2 : Nat), .int .u64 (lm V' 3 : Nat), .int .u64 (bits' : Nat), .string text', .slice aL' nL' cL', .slice aK' nK' cK'], fun w1 hw1 => ?_, ?_⟩; (rw [HC.out] at hw1; obtain ⟨_, _, _, _, _⟩ := (K0.out.below hw1).all; simp [Oper.quietAt, go_sem, *]); (try simp only [Act.put, List.setIfInBounds_toArray, List.set_cons_zero, List.set_cons_succ]); go_big_quiet_on)
                (go_big_quiet_want; go_big_quiet_op; go_big_quiet_on)
                (go_big_quiet_want; go_big_quiet_op; go_big_quiet_on)
                (go_big_quiet_want; refine ⟨.int .i64 4, fun w1 hw1 => ?_, ?_⟩; (rw [HC.out] at hw1; obtain ⟨_, _, _, _, _⟩ := (VV.out.below hw1).all; simp [Oper.quietAt, go_sem, *]); (try simp only [Act.put, List.setIfInBounds_toArray, List.set_cons_zero, List.set_cons_succ]); go_big_quiet_on)
                (go_big_quiet_want; refine ⟨.bool b7, fun w1 hw1 => ?_, ?_⟩; (rw [HC.out] at hw1; obtain ⟨_, _, _, _, _⟩ := (VV.out.below hw1).all; simp [Oper.quietAt, go_sem, *]); (try simp only [Act.put, List.setIfInBounds_toArray, List.set_cons_zero, List.set_cons_succ]); go_big_quiet_on)
                (go_big_quiet_want; go_big_quiet_op; refine ⟨.bool false, fun w1 hw1 => ?_, ?_⟩; (rw [HC.out] at hw1 ⊢; with_reducible refine (HCK.out _ hw1).mono ?_; rintro e w4 ⟨rfl, hb4⟩; exact ⟨rfl, below_trans hw1 hb4⟩); go_big_quiet_on)
                (go_big_quiet_want; go_big_quiet_op; go_big_quiet_on)
                (refine wpQuiet_nil ?_; intro w2 hw2; rw [HC.out] at hw2)
                repeat any_goals (first | go_skip | go_guarded | go_step | go_upon | (simp only []; done))
                exact bodyPost_ret (v := .bool false) (by simp [results, Tryd.results34, go_sem]) rfl ⟨rfl, below_trans hW hw2⟩
              | true =>
                go_upto_region 10 with fail
                (obtain ⟨C_, hC⟩ : ∃ C : World → Prop, C = fun w' => Below (wr).heap.size (wr) w' := ⟨_, rfl⟩; have HC := Lib.hid hC; have hne : ∀ p : Prop, (∀ w1 : World, C_ w1 → p) = p := fun p => propext ⟨fun h => h (wr) (by rw [hC]; exact Below.refl _ _), fun h _ _ => h⟩; clear hC; refine wp_region_quiet_cls (C := C_) (by kernel_rfl) (by kernel_rfl) (by rw [HC.out]; exact (Below.refl _ _).drew) ?_)
                (go_big_quiet_want; go_big_quiet_op; go_big_quiet_on)
                (go_big_quiet_want; refine ⟨.slice (some ⟨b, off, none⟩) nL cL, fun w1 hw1 => ?_, ?_⟩; (rw [HC.out] at hw1; obtain ⟨_, _, _, _, _⟩ := (VV.out.below hw1).all; simp [Oper.quietAt, go_sem, *]); (try simp only [Act.put, List.setIfInBounds_toArray, List.set_cons_zero, List.set_cons_succ]); go_big_quiet_on)
                (go_big_quiet_want; go_big_quiet_op; go_big_quiet_on)
                (go_big_quiet_want; go_big_quiet_op; go_big_quiet_on)
                (go_big_quiet_want; refine ⟨.agg #[.int .i64 kind', .bool neg', .int .u64 (lm V' 0 : Nat), .int .u64 (lm V' 1 : Nat), .int .u64 (lm V' 2 : Nat), .int .u64 (lm V' 3 : Nat), .int .u64 (bits' : Nat), .string text', .slice aL' nL' cL', .slice aK' nK' cK'], fun w1 hw1 => ?_, ?_⟩; (rw [HC.out] at hw1; obtain ⟨_, _, _, _, _⟩ := (K0.out.below hw1).all; simp [Oper.quietAt, go_sem, *]); (try simp only [Act.put, List.setIfInBounds_toArray, List.set_cons_zero, List.set_cons_succ]); go_big_quiet_on)
                (go_big_quiet_want; go_big_quiet_op; go_big_quiet_on)
                (go_big_quiet_want; go_big_quiet_op; go_big_quiet_on)
                (go_big_quiet_want; refine ⟨.int .i64 4, fun w1 hw1 => ?_, ?_⟩; (rw [HC.out] at hw1; obtain ⟨_, _, _, _, _⟩ := (VV.out.below hw1).all; simp [Oper.quietAt, go_sem, *]); (try simp only [Act.put, List.setIfInBounds_toArray, List.set_cons_zero, List.set_cons_succ]); go_big_quiet_on)
                (go_big_quiet_want; refine ⟨.bool b7, fun w1 hw1 => ?_, ?_⟩; (rw [HC.out] at hw1; obtain ⟨_, _, _, _, _⟩ := (VV.out.below hw1).all; simp [Oper.quietAt, go_sem, *]); (try simp only [Act.put, List.setIfInBounds_toArray, List.set_cons_zero, List.set_cons_succ]); go_big_quiet_on)
                (go_big_quiet_want; go_big_quiet_op; refine ⟨.bool true, fun w1 hw1 => ?_, ?_⟩; (rw [HC.out] at hw1 ⊢; with_reducible refine (HCK.out _ hw1).mono ?_; rintro e w4 ⟨rfl, hb4⟩; exact ⟨rfl, below_trans hw1 hb4⟩); go_big_quiet_on)
                (go_big_quiet_want; go_big_quiet_op; go_big_quiet_on)
                (refine wpQuiet_nil ?_; intro w2 hw2; rw [HC.out] at hw2)
                repeat any_goals (first | go_skip | go_guarded | go_step | go_upon | (simp only []; done))
                go_roundw
                case rel => exact ⟨k + 1, by omega, rfl, by simp only [anyN]; rw [HA.out, ← HX.out]; rfl, VV.out.below hw2, below_trans hW hw2⟩
                case measure => simp [intOf]; omega
            · have hk' : k = nL := by omega
              subst hk'
              have i1 : ¬ (k : Int) < (k : Int) := by omega
              have e : R = true := by rw [HR2.out, HA.out]; rfl
              subst e
              repeat any_goals (first | go_skip | go_guarded | go_step | go_upon | (simp only []; done))
              exact bodyPost_ret (v := .bool true) (by simp [results, Tryd.results34, go_sem]) rfl ⟨rfl, hW⟩
        · have c1i : (c == 1) = false := by simpa using c1
          have V0 := Lib.hid (show VBx (w.alloc (.cells #[.int .i64 4, .bool neg, .int .u64 (lm V 0 : Nat), .int .u64 (lm V 1 : Nat), .int .u64 (lm V 2 : Nat), .int .u64 (lm V 3 : Nat), .int .u64 (bits : Nat), .string text, .slice aL nL cL, .slice aK nK cK] 30)) w.heap.size 4 neg V bits text aL nL cL aK nK cK from ⟨by simp [go_sem]⟩)
          have e : R = false := by rw [HR.out]; simp [earlyB, *]
          subst e
          clear HR
          go_enter Tryd.func34, Tryd.ntmps34
          repeat any_goals (first | (go_at_call 57; with_reducible refine (C.out.c1 _).mono ?_; rintro e w1 ⟨rfl, hb1⟩; (first | have V1 := Lib.hid (V0.out.below hb1) | have V1 := Lib.hid (V0.out.step hb1) | have V1 := Lib.hid (V0.out.step2 hb1)); obtain ⟨_, _, _, _, _, _, _, _, _, _⟩ := V1.out.all) | (go_at_call 66; with_reducible refine (C.out.c2 _).mono ?_; rintro e w2 ⟨rfl, hb2⟩; (first | have V2 := Lib.hid (V0.out.below hb2) | have V2 := Lib.hid (V0.out.step hb2) | have V2 := Lib.hid (V0.out.step2 hb2)); obtain ⟨_, _, _, _, _, _, _, _, _, _⟩ := V2.out.all) | (go_at_call 67; with_reducible refine (C.out.c3 _).mono ?_; rintro e w3 ⟨rfl, hb3⟩; (first | have V3 := Lib.hid (V2.out.below hb3) | have V3 := Lib.hid (V2.out.step hb3) | have V3 := Lib.hid (V2.out.step2 hb3)); obtain ⟨_, _, _, _, _, _, _, _, _, _⟩ := V3.out.all) | go_skip | go_guarded | go_step | go_upon | (dsimp only []))
          exact bodyPost_ret (v := .bool false) (by simp [results, Tryd.results34, go_sem]) rfl ⟨rfl, by (repeat first | with_reducible exact Below.refl _ _ | with_reducible assumption | with_reducible refine Below.drew ?_ | with_reducible refine below_alloc ?_ _ | ((with_reducible refine Below.setCell ?_ ?_ _); rotate_left; (focus (first | with_reducible exact Nat.le_refl _ | (simp; done) | (simp; omega) | omega))) | (with_reducible refine below_trans ?_ (by assumption)))⟩
      · have k4i : (kind == 4) = false := by simpa using k4
        have V0 := Lib.hid (show VBx (w.alloc (.cells #[.int .i64 kind, .bool neg, .int .u64 (lm V 0 : Nat), .int .u64 (lm V 1 : Nat), .int .u64 (lm V 2 : Nat), .int .u64 (lm V 3 : Nat), .int .u64 (bits : Nat), .string text, .slice aL nL cL, .slice aK nK cK] 30)) w.heap.size kind neg V bits text aL nL cL aK nK cK from ⟨by simp [go_sem]⟩)
        have HR2 : Hid (R = !anyN (fun i => !(kids i).insideB 1 true b7) nL) := Lib.hid (by rw [HR.out]; simp [earlyB, *])
        clear HR
        go_enter Tryd.func34, Tryd.ntmps34
        repeat any_goals (first | (go_at_call 57; with_reducible refine (C.out.c1 _).mono ?_; rintro e w1 ⟨rfl, hb1⟩; (first | have V1 := Lib.hid (V0.out.below hb1) | have V1 := Lib.hid (V0.out.step hb1) | have V1 := Lib.hid (V0.out.step2 hb1)); obtain ⟨_, _, _, _, _, _, _, _, _, _⟩ := V1.out.all) | (go_at_call 66; with_reducible refine (C.out.c2 _).mono ?_; rintro e w2 ⟨rfl, hb2⟩; (first | have V2 := Lib.hid (V0.out.below hb2) | have V2 := Lib.hid (V0.out.step hb2) | have V2 := Lib.hid (V0.out.step2 hb2)); obtain ⟨_, _, _, _, _, _, _, _, _, _⟩ := V2.out.all) | (go_at_call 67; with_reducible refine (C.out.c3 _).mono ?_; rintro e w3 ⟨rfl, hb3⟩; (first | have V3 := Lib.hid (V2.out.below hb3) | have V3 := Lib.hid (V2.out.step hb3) | have V3 := Lib.hid (V2.out.step2 hb3)); obtain ⟨_, _, _, _, _, _, _, _, _, _⟩ := V3.out.all) | go_skip | go_guarded | go_step | go_upon | (dsimp only []))
        go_loopw [9] (fun i wr => ∃ k : Nat, k ≤ nL ∧ i = .int .i64 k ∧ anyN (fun i => !(kids i).insideB 1 true b7) k = false ∧ VBx wr w.heap.size kind neg V bits text aL nL cL aK nK cK ∧ Below w.heap.size w wr) (fun i _ => nL - (intOf i).toNat)
        case atStart => exact ⟨0, Nat.zero_le _, rfl, rfl, V0.out, by (repeat first | with_reducible exact Below.refl _ _ | with_reducible assumption | with_reducible refine Below.drew ?_ | with_reducible refine below_alloc ?_ _ | ((with_reducible refine Below.setCell ?_ ?_ _); rotate_left; (focus (first | with_reducible exact Nat.le_refl _ | (simp; done) | (simp; omega) | omega))) | (with_reducible refine below_trans ?_ (by assumption)))⟩
        case round =>
          obtain ⟨k, hk, rfl, hA, hV, hW⟩ := hrel
          have HA := Lib.hid hA
          have VV := Lib.hid hV
          obtain ⟨_, _, _, _, _, _, _, _, _, _⟩ := hV.all
          clear hA hV
          by_cases hkn : k < nL
          · obtain ⟨b, off, kind', neg', V', bits', text', aL', nL', cL', kids', aK', nK', cK', keys', rfl, hb, hkid, hc, hin'⟩ := kid_lit HL.out HK.out hkn hW
            have K0 := Lib.hid (show KBx wr b (off + k * 10) kind' neg' V' bits' text' aL' nL' cL' aK' nK' cK' from ⟨hc⟩)
            have i1 : (k : Int) < (nL : Int) := by omega
            have i2 : (0 : Int) ≤ (k : Int) := by omega
            have i5 : (k : Int).toNat = k := rfl
            obtain ⟨z, hz⟩ : ∃ z : Bool, z = (kids k).insideB 1 true b7 := ⟨_, rfl⟩
            have HC : ∀ w'' : World, Below wr.heap.size wr w'' → Calls Tryd.prog 34 #[(kids k).agg, .int .i64 1, .bool true, .bool b7] w'' fun e w' => e = .returned (.bool z) ∧ Below w''.heap.size w'' w' := fun w'' hb => by
              have := IH.out k w'' 1 true b7 (hin'.below hb)
              rwa [← hz] at this
            rw [hkid] at HC
            simp only [VT.agg, VT.cells] at HC
            have HCK := Lib.hid HC
            have HX := Lib.hid hz
            have h7i := H7.out
            clear hin' hkid hz hc HC
            cases z with
            | false =>
              have e : R = false := by rw [HR2.out, anyN_of (p := fun i => !(kids i).insideB 1 true b7) (by rw [← HX.out]; rfl) hkn]; rfl
              subst e
              go_upto_region 10 with fail
              (obtain ⟨C_, hC⟩ : ∃ C : World → Prop, C = fun w' => Below (wr).heap.size (wr) w' := ⟨_, rfl⟩; have HC := Lib.hid hC; have hne : ∀ p : Prop, (∀ w1 : World, C_ w1 → p) = p := fun p => propext ⟨fun h => h (wr) (by rw [hC]; exact Below.refl _ _), fun h _ _ => h⟩; clear hC; refine wp_region_quiet_cls (C := C_) (by kernel_rfl) (by kernel_rfl) (by rw [HC.out]; exact (Below.refl _ _).drew) ?_)
              (go_big_quiet_want; go_big_quiet_op; go_big_quiet_on)
              (go_big_quiet_want; refine ⟨.slice (some ⟨b, off, none⟩) nL cL, fun w1 hw1 => ?_, ?_⟩; (rw [HC.out] at hw1; obtain ⟨_, _, _, _, _⟩ := (VV.out.below hw1).all; simp [Oper.quietAt, go_sem, *]); (try simp only [Act.put, List.setIfInBounds_toArray, List.set_cons_zero, List.set_cons_succ]); go_big_quiet_on)
              (go_big_quiet_want; go_big_quiet_op; go_big_quiet_on)
              (go_big_quiet_want; go_big_quiet_op; go_big_quiet_on)
              (go_big_quiet_want; refine ⟨.agg #[.int .i64 kind', .bool neg', .int .u64 (lm V' 0 : Nat), .int .u64 (lm V' 1 : Nat), .int .u64 (lm V' 2 : Nat), .int .u64 (lm V' 3 : Nat), .int .u64 (bits' : Nat), .string text', .slice aL' nL' cL', .slice aK' nK' cK'], fun w1 hw1 => ?_, ?_⟩; (rw [HC.out] at hw1; obtain ⟨_, _, _, _, _⟩ := (K0.out.below hw1).all; simp [Oper.quietAt, go_sem, *]); (try simp only [Act.put, List.setIfInBounds_toArray, List.set_cons_zero, List.set_cons_succ]); go_big_quiet_on)
              (go_big_quiet_want; go_big_quiet_op; go_big_quiet_on)
              (go_big_quiet_want; go_big_quiet_op; go_big_quiet_on)
              (go_big_quiet_want; refine ⟨.int .i64 kind, fun w1 hw1 => ?_, ?_⟩; (rw [HC.out] at hw1; obtain ⟨_, _, _, _, _⟩ := (VV.out.below hw1).all; simp [Oper.quietAt, go_sem, *]); (try simp only [Act.put, List.setIfInBounds_toArray, List.set_cons_zero, List.set_cons_succ]); go_big_quiet_on)
              (go_big_quiet_want; refine ⟨.bool b7, fun w1 hw1 => ?_, ?_⟩; (rw [HC.out] at hw1; obtain ⟨_, _, _, _, _⟩ := (VV.out.below hw1).all; simp [Oper.quietAt, go_sem, *]); (try simp only [Act.put, List.setIfInBounds_toArray, List.set_cons_zero, List.set_cons_succ]); go_big_quiet_on)
              (go_big_quiet_want; go_big_quiet_op; refine ⟨.bool false, fun w1 hw1 => ?_, ?_⟩; (rw [HC.out] at hw1 ⊢; with_reducible refine (HCK.out _ hw1).mono ?_; rintro e w4 ⟨rfl, hb4⟩; exact ⟨rfl, below_trans hw1 hb4⟩); go_big_quiet_on)
              (go_big_quiet_want; go_big_quiet_op; go_big_quiet_on)
              (refine wpQuiet_nil ?_; intro w2 hw2; rw [HC.out] at hw2)
              repeat any_goals (first | go_skip | go_guarded | go_step | go_upon | (simp only []; done))
              exact bodyPost_ret (v := .bool false) (by simp [results, Tryd.results34, go_sem]) rfl ⟨rfl, below_trans hW hw2⟩
            | true =>
              go_upto_region 10 with fail
              (obtain ⟨C_, hC⟩ : ∃ C : World → Prop, C = fun w' => Below (wr).heap.size (wr) w' := ⟨_, rfl⟩; have HC := Lib.hid hC; have hne : ∀ p : Prop, (∀ w1 : World, C_ w1 → p) = p := fun p => propext ⟨fun h => h (wr) (by rw [hC]; exact Below.refl _ _), fun h _ _ => h⟩; clear hC; refine wp_region_quiet_cls (C := C_) (by kernel_rfl) (by kernel_rfl) (by rw [HC.out]; exact (Below.refl _ _).drew) ?_)
              (go_big_quiet_want; go_big_quiet_op; go_big_quiet_on)
              (go_big_quiet_want; refine ⟨.slice (some ⟨b, off, none⟩) nL cL, fun w1 hw1 => ?_, ?_⟩; (rw [HC.out] at hw1; obtain ⟨_, _, _, _, _⟩ := (VV.out.below hw1).all; simp [Oper.quietAt, go_sem, *]); (try simp only [Act.put, List.setIfInBounds_toArray, List.set_cons_zero, List.set_cons_succ]); go_big_quiet_on)
              (go_big_quiet_want; go_big_quiet_op; go_big_quiet_on)
              (go_big_quiet_want; go_big_quiet_op; go_big_quiet_on)
              (go_big_quiet_want; refine ⟨.agg #[.int .i64 kind', .bool neg', .int .u64 (lm V' 0 : Nat), .int .u64 (lm V' 1 : Nat), .int .u64 (lm V' 2 : Nat), .int .u64 (lm V' 3 : Nat), .int .u64 (bits' : Nat), .string text', .slice aL' nL' cL', .slice aK' nK' cK'], fun w1 hw1 => ?_, ?_⟩; (rw [HC.out] at hw1; obtain ⟨_, _, _, _, _⟩ := (K0.out.below hw1).all; simp [Oper.quietAt, go_sem, *]); (try simp only [Act.put, List.setIfInBounds_toArray, List.set_cons_zero, List.set_cons_succ]); go_big_quiet_on)
              (go_big_quiet_want; go_big_quiet_op; go_big_quiet_on)
              (go_big_quiet_want; go_big_quiet_op; go_big_quiet_on)
              (go_big_quiet_want; refine ⟨.int .i64 kind, fun w1 hw1 => ?_, ?_⟩; (rw [HC.out] at hw1; obtain ⟨_, _, _, _, _⟩ := (VV.out.below hw1).all; simp [Oper.quietAt, go_sem, *]); (try simp only [Act.put, List.setIfInBounds_toArray, List.set_cons_zero, List.set_cons_succ]); go_big_quiet_on)
              (go_big_quiet_want; refine ⟨.bool b7, fun w1 hw1 => ?_, ?_⟩; (rw [HC.out] at hw1; obtain ⟨_, _, _, _, _⟩ := (VV.out.below hw1).all; simp [Oper.quietAt, go_sem, *]); (try simp only [Act.put, List.setIfInBounds_toArray, List.set_cons_zero, List.set_cons_succ]); go_big_quiet_on)
              (go_big_quiet_want; go_big_quiet_op; refine ⟨.bool true, fun w1 hw1 => ?_, ?_⟩; (rw [HC.out] at hw1 ⊢; with_reducible refine (HCK.out _ hw1).mono ?_; rintro e w4 ⟨rfl, hb4⟩; exact ⟨rfl, below_trans hw1 hb4⟩); go_big_quiet_on)
              (go_big_quiet_want; go_big_quiet_op; go_big_quiet_on)
              (refine wpQuiet_nil ?_; intro w2 hw2; rw [HC.out] at hw2)
              repeat any_goals (first | go_skip | go_guarded | go_step | go_upon | (simp only []; done))
              go_roundw
              case rel => exact ⟨k + 1, by omega, rfl, by simp only [anyN]; rw [HA.out, ← HX.out]; rfl, VV.out.below hw2, below_trans hW hw2⟩
              case measure => simp [intOf]; omega
          · have hk' : k = nL := by omega
            subst hk'
            have i1 : ¬ (k : Int) < (k : Int) := by omega
            have e : R = true := by rw [HR2.out, HA.out]; rfl
            subst e
            repeat any_goals (first | go_skip | go_guarded | go_step | go_upon | (simp only []; done))
            exact bodyPost_ret (v := .bool true) (by simp [results, Tryd.results34, go_sem]) rfl ⟨rfl, hW⟩
    have l1i : (lang == 1) = false := by simpa using l1
    by_cases l3 : lang = 3
    · subst l3
      by_cases k1 : kind = 1
      · subst k1
        have V0 := Lib.hid (show VBx (w.alloc (.cells #[.int .i64 1, .bool neg, .int .u64 (lm V 0 : Nat), .int .u64 (lm V 1 : Nat), .int .u64 (lm V 2 : Nat), .int .u64 (lm V 3 : Nat), .int .u64 (bits : Nat), .string text, .slice aL nL cL, .slice aK nK cK] 30)) w.heap.size 1 neg V bits text aL nL cL aK nK cK from ⟨by simp [go_sem]⟩)
        have e : R = false := by rw [HR.out]; simp [earlyB, *]
        subst e
        clear HR
        go_enter Tryd.func34, Tryd.ntmps34
        repeat any_goals (first | (go_at_call 57; with_reducible refine (C.out.c1 _).mono ?_; rintro e w1 ⟨rfl, hb1⟩; (first | have V1 := Lib.hid (V0.out.below hb1) | have V1 := Lib.hid (V0.out.step hb1) | have V1 := Lib.hid (V0.out.step2 hb1)); obtain ⟨_, _, _, _, _, _, _, _, _, _⟩ := V1.out.all) | (go_at_call 66; with_reducible refine (C.out.c2 _).mono ?_; rintro e w2 ⟨rfl, hb2⟩; (first | have V2 := Lib.hid (V0.out.below hb2) | have V2 := Lib.hid (V0.out.step hb2) | have V2 := Lib.hid (V0.out.step2 hb2)); obtain ⟨_, _, _, _, _, _, _, _, _, _⟩ := V2.out.all) | (go_at_call 67; with_reducible refine (C.out.c3 _).mono ?_; rintro e w3 ⟨rfl, hb3⟩; (first | have V3 := Lib.hid (V2.out.below hb3) | have V3 := Lib.hid (V2.out.step hb3) | have V3 := Lib.hid (V2.out.step2 hb3)); obtain ⟨_, _, _, _, _, _, _, _, _, _⟩ := V3.out.all) | go_skip | go_guarded | go_step | go_upon | (dsimp only []))
        exact bodyPost_ret (v := .bool false) (by simp [results, Tryd.results34, go_sem]) rfl ⟨rfl, by (repeat first | with_reducible exact Below.refl _ _ | with_reducible assumption | with_reducible refine Below.drew ?_ | with_reducible refine below_alloc ?_ _ | ((with_reducible refine Below.setCell ?_ ?_ _); rotate_left; (focus (first | with_reducible exact Nat.le_refl _ | (simp; done) | (simp; omega) | omega))) | (with_reducible refine below_trans ?_ (by assumption)))⟩
      have k1i : (kind == 1) = false := by simpa using k1
      cases below with
      | false =>
        by_cases k8 : kind = 8
        · subst k8
          cases array with
          | false =>
            have V0 := Lib.hid (show VBx (w.alloc (.cells #[.int .i64 8, .bool neg, .int .u64 (lm V 0 : Nat), .int .u64 (lm V 1 : Nat), .int .u64 (lm V 2 : Nat), .int .u64 (lm V 3 : Nat), .int .u64 (bits : Nat), .string text, .slice aL nL cL, .slice aK nK cK] 30)) w.heap.size 8 neg V bits text aL nL cL aK nK cK from ⟨by simp [go_sem]⟩)
            have HR2 : Hid (R = !anyN (fun i => !(kids i).insideB 3 true b7) nL) := Lib.hid (by rw [HR.out]; simp [earlyB, *])
            clear HR
            go_enter Tryd.func34, Tryd.ntmps34
            repeat any_goals (first | (go_at_call 57; with_reducible refine (C.out.c1 _).mono ?_; rintro e w1 ⟨rfl, hb1⟩; (first | have V1 := Lib.hid (V0.out.below hb1) | have V1 := Lib.hid (V0.out.step hb1) | have V1 := Lib.hid (V0.out.step2 hb1)); obtain ⟨_, _, _, _, _, _, _, _, _, _⟩ := V1.out.all) | (go_at_call 66; with_reducible refine (C.out.c2 _).mono ?_; rintro e w2 ⟨rfl, hb2⟩; (first | have V2 := Lib.hid (V0.out.below hb2) | have V2 := Lib.hid (V0.out.step hb2) | have V2 := Lib.hid (V0.out.step2 hb2)); obtain ⟨_, _, _, _, _, _, _, _, _, _⟩ := V2.out.all) | (go_at_call 67; with_reducible refine (C.out.c3 _).mono ?_; rintro e w3 ⟨rfl, hb3⟩; (first | have V3 := Lib.hid (V2.out.below hb3) | have V3 := Lib.hid (V2.out.step hb3) | have V3 := Lib.hid (V2.out.step2 hb3)); obtain ⟨_, _, _, _, _, _, _, _, _, _⟩ := V3.out.all) | go_skip | go_guarded | go_step | go_upon | (dsimp only []))
            go_loopw [9] (fun i wr => ∃ k : Nat, k ≤ nL ∧ i = .int .i64 k ∧ anyN (fun i => !(kids i).insideB 3 true b7) k = false ∧ VBx wr w.heap.size 8 neg V bits text aL nL cL aK nK cK ∧ Below w.heap.size w wr) (fun i _ => nL - (intOf i).toNat)
            case atStart => exact ⟨0, Nat.zero_le _, rfl, rfl, V0.out, by (repeat first | with_reducible exact Below.refl _ _ | with_reducible assumption | with_reducible refine Below.drew ?_ | with_reducible refine below_alloc ?_ _ | ((with_reducible refine Below.setCell ?_ ?_ _); rotate_left; (focus (first | with_reducible exact Nat.le_refl _ | (simp; done) | (simp; omega) | omega))) | (with_reducible refine below_trans ?_ (by assumption)))⟩
            case round =>
              obtain ⟨k, hk, rfl, hA, hV, hW⟩ := hrel
              have HA := Lib.hid hA
              have VV := Lib.hid hV
              obtain ⟨_, _, _, _, _, _, _, _, _, _⟩ := hV.all
              clear hA hV
              by_cases hkn : k < nL
              · obtain ⟨b, off, kind', neg', V', bits', text', aL', nL', cL', kids', aK', nK', cK', keys', rfl, hb, hkid, hc, hin'⟩ := kid_lit HL.out HK.out hkn hW
                have K0 := Lib.hid (show KBx wr b (off + k * 10) kind' neg' V' bits' text' aL' nL' cL' aK' nK' cK' from ⟨hc⟩)
                have i1 : (k : Int) < (nL : Int) := by omega
                have i2 : (0 : Int) ≤ (k : Int) := by omega
                have i5 : (k : Int).toNat = k := rfl
                obtain ⟨z, hz⟩ : ∃ z : Bool, z = (kids k).insideB 3 true b7 := ⟨_, rfl⟩
                have HC : ∀ w'' : World, Below wr.heap.size wr w'' → Calls Tryd.prog 34 #[(kids k).agg, .int .i64 3, .bool true, .bool b7] w'' fun e w' => e = .returned (.bool z) ∧ Below w''.heap.size w'' w' := fun w'' hb => by
                  have := IH.out k w'' 3 true b7 (hin'.below hb)
                  rwa [← hz] at this
                rw [hkid] at HC
                simp only [VT.agg, VT.cells] at HC
                have HCK := Lib.hid HC
                have HX := Lib.hid hz
                have h7i := H7.out
                clear hin' hkid hz hc HC
                cases z with
                | false =>
                  have e : R = false := by rw [HR2.out, anyN_of (p := fun i => !(kids i).insideB 3 true b7) (by rw [← HX.out]; rfl) hkn]; rfl
                  subst e
                  go_upto_region 10 with fail
                  (obtain ⟨C_, hC⟩ : ∃ C : World → Prop, C = fun w' => Below (wr).heap.size (wr) w' := ⟨_, rfl⟩; have HC := Lib.hid hC; have hne : ∀ p : Prop, (∀ w1 : World, C_ w1 → p) = p := fun p => propext ⟨fun h => h (wr) (by rw [hC]; exact Below.refl _ _), fun h _ _ => h⟩; clear hC; refine wp_region_quiet_cls (C := C_) (by kernel_rfl) (by kernel_rfl) (by rw [HC.out]; exact (Below.refl _ _).drew) ?_)
                  (go_big_quiet_want; go_big_quiet_op; go_big_quiet_on)
                  (go_big_quiet_want; refine ⟨.slice (some ⟨b, off, none⟩) nL cL, fun w1 hw1 => ?_, ?_⟩; (rw [HC.out] at hw1; obtain ⟨_, _, _, _, _⟩ := (VV.out.below hw1).all; simp [Oper.quietAt, go_sem, *]); (try simp only [Act.put, List.setIfInBounds_toArray, List.set_cons_zero, List.set_cons_succ]); go_big_quiet_on)
                  (go_big_quiet_want; go_big_quiet_op; go_big_quiet_on)
                  (go_big_quiet_want; go_big_quiet_op; go_big_quiet_on)
                  (go_big_quiet_want; refine ⟨.agg #[.int .i64 kind', .bool neg', .int .u64 (lm V' 0 : Nat), .int .u64 (lm V' 1 : Nat), .int .u64 (lm V' 2 : Nat), .int .u64 (lm V' 3 : Nat), .int .u64 (bits' : Nat), .string text', .slice aL' nL' cL', .slice aK' nK' cK'], fun w1 hw1 => ?_, ?_⟩; (rw [HC.out] at hw1; obtain ⟨_, _, _, _, _⟩ := (K0.out.below hw1).all; simp [Oper.quietAt, go_sem, *]); (try simp only [Act.put, List.setIfInBounds_toArray, List.set_cons_zero, List.set_cons_succ]); go_big_quiet_on)
                  (go_big_quiet_want; go_big_quiet_op; go_big_quiet_on)
                  (go_big_quiet_want; go_big_quiet_op; go_big_quiet_on)
                  (go_big_quiet_want; refine ⟨.int .i64 8, fun w1 hw1 => ?_, ?_⟩; (rw [HC.out] at hw1; obtain ⟨_, _, _, _, _⟩ := (VV.out.below hw1).all; simp [Oper.quietAt, go_sem, *]); (try simp only [Act.put, List.setIfInBounds_toArray, List.set_cons_zero, List.set_cons_succ]); go_big_quiet_on)
                  (go_big_quiet_want; refine ⟨.bool b7, fun w1 hw1 => ?_, ?_⟩; (rw [HC.out] at hw1; obtain ⟨_, _, _, _, _⟩ := (VV.out.below hw1).all; simp [Oper.quietAt, go_sem, *]); (try simp only [Act.put, List.setIfInBounds_toArray, List.set_cons_zero, List.set_cons_succ]); go_big_quiet_on)
                  (go_big_quiet_want; go_big_quiet_op; refine ⟨.bool false, fun w1 hw1 => ?_, ?_⟩; (rw [HC.out] at hw1 ⊢; with_reducible refine (HCK.out _ hw1).mono ?_; rintro e w4 ⟨rfl, hb4⟩; exact ⟨rfl, below_trans hw1 hb4⟩); go_big_quiet_on)
                  (go_big_quiet_want; go_big_quiet_op; go_big_quiet_on)
                  (refine wpQuiet_nil ?_; intro w2 hw2; rw [HC.out] at hw2)
                  repeat any_goals (first | go_skip | go_guarded | go_step | go_upon | (simp only []; done))
                  exact bodyPost_ret (v := .bool false) (by simp [results, Tryd.results34, go_sem]) rfl ⟨rfl, below_trans hW hw2⟩
                | true =>
                  go_upto_region 10 with fail
                  (obtain ⟨C_, hC⟩ : ∃ C : World → Prop, C = fun w' => Below (wr).heap.size (wr) w' := ⟨_, rfl⟩; have HC := Lib.hid hC; have hne : ∀ p : Prop, (∀ w1 : World, C_ w1 → p) = p := fun p => propext ⟨fun h => h (wr) (by rw [hC]; exact Below.refl _ _), fun h _ _ => h⟩; clear hC; refine wp_region_quiet_cls (C := C_) (by kernel_rfl) (by kernel_rfl) (by rw [HC.out]; exact (Below.refl _ _).drew) ?_)
                  (go_big_quiet_want; go_big_quiet_op; go_big_quiet_on)
                  (go_big_quiet_want; refine ⟨.slice (some ⟨b, off, none⟩) nL cL, fun w1 hw1 => ?_, ?_⟩; (rw [HC.out] at hw1; obtain ⟨_, _, _, _, _⟩ := (VV.out.below hw1).all; simp [Oper.quietAt, go_sem, *]); (try simp only [Act.put, List.setIfInBounds_toArray, List.set_cons_zero, List.set_cons_succ]); go_big_quiet_on)
                  (go_big_quiet_want; go_big_quiet_op; go_big_quiet_on)
                  (go_big_quiet_want; go_big_quiet_op; go_big_quiet_on)
                  (go_big_quiet_want; refine ⟨.agg #[.int .i64 kind', .bool neg', .int .u64 (lm V' 0 : Nat), .int .u64 (lm V' 1 : Nat), .int .u64 (lm V' 2 : Nat), .int .u64 (lm V' 3 : Nat), .int .u64 (bits' : Nat), .string text', .slice aL' nL' cL', .slice aK' nK' cK'], fun w1 hw1 => ?_, ?_⟩; (rw [HC.out] at hw1; obtain ⟨_, _, _, _, _⟩ := (K0.out.below hw1).all; simp [Oper.quietAt, go_sem, *]); (try simp only [Act.put, List.setIfInBounds_toArray, List.set_cons_zero, List.set_cons_succ]); go_big_quiet_on)
                  (go_big_quiet_want; go_big_quiet_op; go_big_quiet_on)
                  (go_big_quiet_want; go_big_quiet_op; go_big_quiet_on)
                  (go_big_quiet_want; refine ⟨.int .i64 8, fun w1 hw1 => ?_, ?_⟩; (rw [HC.out] at hw1; obtain ⟨_, _, _, _, _⟩ := (VV.out.below hw1).all; simp [Oper.quietAt, go_sem, *]); (try simp only [Act.put, List.setIfInBounds_toArray, List.set_cons_zero, List.set_cons_succ]); go_big_quiet_on)
                  (go_big_quiet_want; refine ⟨.bool b7, fun w1 hw1 => ?_, ?_⟩; (rw [HC.out] at hw1; obtain ⟨_, _, _, _, _⟩ := (VV.out.below hw1).all; simp [Oper.quietAt, go_sem, *]); (try simp only [Act.put, List.setIfInBounds_toArray, List.set_cons_zero, List.set_cons_succ]); go_big_quiet_on)
                  (go_big_quiet_want; go_big_quiet_op; refine ⟨.bool true, fun w1 hw1 => ?_, ?_⟩; (rw [HC.out] at hw1 ⊢; with_reducible refine (HCK.out _ hw1).mono ?_; rintro e w4 ⟨rfl, hb4⟩; exact ⟨rfl, below_trans hw1 hb4⟩); go_big_quiet_on)
                  (go_big_quiet_want; go_big_quiet_op; go_big_quiet_on)
                  (refine wpQuiet_nil ?_; intro w2 hw2; rw [HC.out] at hw2)
                  repeat any_goals (first | go_skip | go_guarded | go_step | go_upon | (simp only []; done))
                  go_roundw
                  case rel => exact ⟨k + 1, by omega, rfl, by simp only [anyN]; rw [HA.out, ← HX.out]; rfl, VV.out.below hw2, below_trans hW hw2⟩
                  case measure => simp [intOf]; omega
              · have hk' : k = nL := by omega
                subst hk'
                have i1 : ¬ (k : Int) < (k : Int) := by omega
                have e : R = true := by rw [HR2.out, HA.out]; rfl
                subst e
                repeat any_goals (first | go_skip | go_guarded | go_step | go_upon | (simp only []; done))
                exact bodyPost_ret (v := .bool true) (by simp [results, Tryd.results34, go_sem]) rfl ⟨rfl, hW⟩
          | true =>
            have V0 := Lib.hid (show VBx (w.alloc (.cells #[.int .i64 8, .bool neg, .int .u64 (lm V 0 : Nat), .int .u64 (lm V 1 : Nat), .int .u64 (lm V 2 : Nat), .int .u64 (lm V 3 : Nat), .int .u64 (bits : Nat), .string text, .slice aL nL cL, .slice aK nK cK] 30)) w.heap.size 8 neg V bits text aL nL cL aK nK cK from ⟨by simp [go_sem]⟩)
            have HR2 : Hid (R = !anyN (fun i => !(kids i).insideB 3 true b7) nL) := Lib.hid (by rw [HR.out]; simp [earlyB, *])
            clear HR
            go_enter Tryd.func34, Tryd.ntmps34
            repeat any_goals (first | (go_at_call 57; with_reducible refine (C.out.c1 _).mono ?_; rintro e w1 ⟨rfl, hb1⟩; (first | have V1 := Lib.hid (V0.out.below hb1) | have V1 := Lib.hid (V0.out.step hb1) | have V1 := Lib.hid (V0.out.step2 hb1)); obtain ⟨_, _, _, _, _, _, _, _, _, _⟩ := V1.out.all) | (go_at_call 66; with_reducible refine (C.out.c2 _).mono ?_; rintro e w2 ⟨rfl, hb2⟩; (first | have V2 := Lib.hid (V0.out.below hb2) | have V2 := Lib.hid (V0.out.step hb2) | have V2 := Lib.hid (V0.out.step2 hb2)); obtain ⟨_, _, _, _, _, _, _, _, _, _⟩ := V2.out.all) | (go_at_call 67; with_reducible refine (C.out.c3 _).mono ?_; rintro e w3 ⟨rfl, hb3⟩; (first | have V3 := Lib.hid (V2.out.below hb3) | have V3 := Lib.hid (V2.out.step hb3) | have V3 := Lib.hid (V2.out.step2 hb3)); obtain ⟨_, _, _, _, _, _, _, _, _, _⟩ := V3.out.all) | go_skip | go_guarded | go_step | go_upon | (dsimp only []))
            go_loopw [9] (fun i wr => ∃ k : Nat, k ≤ nL ∧ i = .int .i64 k ∧ anyN (fun i => !(kids i).insideB 3 true b7) k = false ∧ VBx wr w.heap.size 8 neg V bits text aL nL cL aK nK cK ∧ Below w.heap.size w wr) (fun i _ => nL - (intOf i).toNat)
            case atStart => exact ⟨0, Nat.zero_le _, rfl, rfl, V0.out, by (repeat first | with_reducible exact Below.refl _ _ | with_reducible assumption | with_reducible refine Below.drew ?_ | with_reducible refine below_alloc ?_ _ | ((with_reducible refine Below.setCell ?_ ?_ _); rotate_left; (focus (first | with_reducible exact Nat.le_refl _ | (simp; done) | (simp; omega) | omega))) | (with_reducible refine below_trans ?_ (by assumption)))⟩
            case round =>
              obtain ⟨k, hk, rfl, hA, hV, hW⟩ := hrel
              have HA := Lib.hid hA
              have VV := Lib.hid hV
              obtain ⟨_, _, _, _, _, _, _, _, _, _⟩ := hV.all
              clear hA hV
              by_cases hkn : k < nL
              · obtain ⟨b, off, kind', neg', V', bits', text', aL', nL', cL', kids', aK', nK', cK', keys', rfl, hb, hkid, hc, hin'⟩ := kid_lit HL.out HK.out hkn hW
                have K0 := Lib.hid (show KBx wr b (off + k * 10) kind' neg' V' bits' text' aL' nL' cL' aK' nK' cK' from ⟨hc⟩)
                have i1 : (k : Int) < (nL : Int) := by omega
                have i2 : (0 : Int) ≤ (k : Int) := by omega
                have i5 : (k : Int).toNat = k := rfl
                obtain ⟨z, hz⟩ : ∃ z : Bool, z = (kids k).insideB 3 true b7 := ⟨_, rfl⟩
                have HC : ∀ w'' : World, Below wr.heap.size wr w'' → Calls Tryd.prog 34 #[(kids k).agg, .int .i64 3, .bool true, .bool b7] w'' fun e w' => e = .returned (.bool z) ∧ Below w''.heap.size w'' w' := fun w'' hb => by
                  have := IH.out k w'' 3 true b7 (hin'.below hb)
                  rwa [← hz] at this
                rw [hkid] at HC
                simp only [VT.agg, VT.cells] at HC
                have HCK := Lib.hid HC
                have HX := Lib.hid hz
                have h7i := H7.out
                clear hin' hkid hz hc HC
                cases z with
                | false =>
                  have e : R = false := by rw [HR2.out, anyN_of (p := fun i => !(kids i).insideB 3 true b7) (by rw [← HX.out]; rfl) hkn]; rfl
                  subst e
                  go_upto_region 10 with fail
                  (obtain ⟨C_, hC⟩ : ∃ C : World → Prop, C = fun w' => Below (wr).heap.size (wr) w' := ⟨_, rfl⟩; have HC := Lib.hid hC; have hne : ∀ p : Prop, (∀ w1 : World, C_ w1 → p) = p := fun p => propext ⟨fun h => h (wr) (by rw [hC]; exact Below.refl _ _), fun h _ _ => h⟩; clear hC; refine wp_region_quiet_cls (C := C_) (by kernel_rfl) (by kernel_rfl) (by rw [HC.out]; exact (Below.refl _ _).drew) ?_)
                  (go_big_quiet_want; go_big_quiet_op; go_big_quiet_on)
                  (go_big_quiet_want; refine ⟨.slice (some ⟨b, off, none⟩) nL cL, fun w1 hw1 => ?_, ?_⟩; (rw [HC.out] at hw1; obtain ⟨_, _, _, _, _⟩ := (VV.out.below hw1).all; simp [Oper.quietAt, go_sem, *]); (try simp only [Act.put, List.setIfInBounds_toArray, List.set_cons_zero, List.set_cons_succ]); go_big_quiet_on)
                  (go_big_quiet_want; go_big_quiet_op; go_big_quiet_on)
                  (go_big_quiet_want; go_big_quiet_op; go_big_quiet_on)
                  (go_big_quiet_want; refine ⟨.agg #[.int .i64 kind', .bool neg', .int .u64 (lm V' 0 : Nat), .int .u64 (lm V' 1 : Nat), .int .u64 (lm V' 2 : Nat), .int .u64 (lm V' 3 : Nat), .int .u64 (bits' : Nat), .string text', .slice aL' nL' cL', .slice aK' nK' cK'], fun w1 hw1 => ?_, ?_⟩; (rw [HC.out] at hw1; obtain ⟨_, _, _, _, _⟩ := (K0.out.below hw1).all; simp [Oper.quietAt, go_sem, *]); (try simp only [Act.put, List.setIfInBounds_toArray, List.set_cons_zero, List.set_cons_succ]); go_big_quiet_on)
                  (go_big_quiet_want; go_big_quiet_op; go_big_quiet_on)
                  (go_big_quiet_want; go_big_quiet_op; go_big_quiet_on)
                  (go_big_quiet_want; refine ⟨.int .i64 8, fun w1 hw1 => ?_, ?_⟩; (rw [HC.out] at hw1; obtain ⟨_, _, _, _, _⟩ := (VV.out.below hw1).all; simp [Oper.quietAt, go_sem, *]); (try simp only [Act.put, List.setIfInBounds_toArray, List.set_cons_zero, List.set_cons_succ]); go_big_quiet_on)
                  (go_big_quiet_want; refine ⟨.bool b7, fun w1 hw1 => ?_, ?_⟩; (rw [HC.out] at hw1; obtain ⟨_, _, _, _, _⟩ := (VV.out.below hw1).all; simp [Oper.quietAt, go_sem, *]); (try simp only [Act.put, List.setIfInBounds_toArray, List.set_cons_zero, List.set_cons_succ]); go_big_quiet_on)
                  (go_big_quiet_want; go_big_quiet_op; refine ⟨.bool false, fun w1 hw1 => ?_, ?_⟩; (rw [HC.out] at hw1 ⊢; with_reducible refine (HCK.out _ hw1).mono ?_; rintro e w4 ⟨rfl, hb4⟩; exact ⟨rfl, below_trans hw1 hb4⟩); go_big_quiet_on)
                  (go_big_quiet_want; go_big_quiet_op; go_big_quiet_on)
                  (refine wpQuiet_nil ?_; intro w2 hw2; rw [HC.out] at hw2)
                  repeat any_goals (first | go_skip | go_guarded | go_step | go_upon | (simp only []; done))
                  exact bodyPost_ret (v := .bool false) (by simp [results, Tryd.results34, go_sem]) rfl ⟨rfl, below_trans hW hw2⟩
                | true =>
                  go_upto_region 10 with fail
                  (obtain ⟨C_, hC⟩ : ∃ C : World → Prop, C = fun w' => Below (wr).heap.size (wr) w' := ⟨_, rfl⟩; have HC := Lib.hid hC; have hne : ∀ p : Prop, (∀ w1 : World, C_ w1 → p) = p := fun p => propext ⟨fun h => h (wr) (by rw [hC]; exact Below.refl _ _), fun h _ _ => h⟩; clear hC; refine wp_region_quiet_cls (C := C_) (by kernel_rfl) (by kernel_rfl) (by rw [HC.out]; exact (Below.refl _ _).drew) ?_)
                  (go_big_quiet_want; go_big_quiet_op; go_big_quiet_on)
                  (go_big_quiet_want; refine ⟨.slice (some ⟨b, off, none⟩) nL cL, fun w1 hw1 => ?_, ?_⟩; (rw [HC.out] at hw1; obtain ⟨_, _, _, _, _⟩ := (VV.out.below hw1).all; simp [Oper.quietAt, go_sem, *]); (try simp only [Act.put, List.setIfInBounds_toArray, List.set_cons_zero, List.set_cons_succ]); go_big_quiet_on)
                  (go_big_quiet_want; go_big_quiet_op; go_big_quiet_on)
                  (go_big_quiet_want; go_big_quiet_op; go_big_quiet_on)
                  (go_big_quiet_want; refine ⟨.agg #[.int .i64 kind', .bool neg', .int .u64 (lm V' 0 : Nat), .int .u64 (lm V' 1 : Nat), .int .u64 (lm V' 2 : Nat), .int .u64 (lm V' 3 : Nat), .int .u64 (bits' : Nat), .string text', .slice aL' nL' cL', .slice aK' nK' cK'], fun w1 hw1 => ?_, ?_⟩; (rw [HC.out] at hw1; obtain ⟨_, _, _, _, _⟩ := (K0.out.below hw1).all; simp [Oper.quietAt, go_sem, *]); (try simp only [Act.put, List.setIfInBounds_toArray, List.set_cons_zero, List.set_cons_succ]); go_big_quiet_on)
                  (go_big_quiet_want; go_big_quiet_op; go_big_quiet_on)
                  (go_big_quiet_want; go_big_quiet_op; go_big_quiet_on)
                  (go_big_quiet_want; refine ⟨.int .i64 8, fun w1 hw1 => ?_, ?_⟩; (rw [HC.out] at hw1; obtain ⟨_, _, _, _, _⟩ := (VV.out.below hw1).all; simp [Oper.quietAt, go_sem, *]); (try simp only [Act.put, List.setIfInBounds_toArray, List.set_cons_zero, List.set_cons_succ]); go_big_quiet_on)
                  (go_big_quiet_want; refine ⟨.bool b7, fun w1 hw1 => ?_, ?_⟩; (rw [HC.out] at hw1; obtain ⟨_, _, _, _, _⟩ := (VV.out.below hw1).all; simp [Oper.quietAt, go_sem, *]); (try simp only [Act.put, List.setIfInBounds_toArray, List.set_cons_zero, List.set_cons_succ]); go_big_quiet_on)
                  (go_big_quiet_want; go_big_quiet_op; refine ⟨.bool true, fun w1 hw1 => ?_, ?_⟩; (rw [HC.out] at hw1 ⊢; with_reducible refine (HCK.out _ hw1).mono ?_; rintro e w4 ⟨rfl, hb4⟩; exact ⟨rfl, below_trans hw1 hb4⟩); go_big_quiet_on)
                  (go_big_quiet_want; go_big_quiet_op; go_big_quiet_on)
                  (refine wpQuiet_nil ?_; intro w2 hw2; rw [HC.out] at hw2)
                  repeat any_goals (first | go_skip | go_guarded | go_step | go_upon | (simp only []; done))
                  go_roundw
                  case rel => exact ⟨k + 1, by omega, rfl, by simp only [anyN]; rw [HA.out, ← HX.out]; rfl, VV.out.below hw2, below_trans hW hw2⟩
                  case measure => simp [intOf]; omega
              · have hk' : k = nL := by omega
                subst hk'
                have i1 : ¬ (k : Int) < (k : Int) := by omega
                have e : R = true := by rw [HR2.out, HA.out]; rfl
                subst e
                repeat any_goals (first | go_skip | go_guarded | go_step | go_upon | (simp only []; done))
                exact bodyPost_ret (v := .bool true) (by simp [results, Tryd.results34, go_sem]) rfl ⟨rfl, hW⟩
        · have k8i : (kind == 8) = false := by simpa using k8
          have V0 := Lib.hid (show VBx (w.alloc (.cells #[.int .i64 kind, .bool neg, .int .u64 (lm V 0 : Nat), .int .u64 (lm V 1 : Nat), .int .u64 (lm V 2 : Nat), .int .u64 (lm V 3 : Nat), .int .u64 (bits : Nat), .string text, .slice aL nL cL, .slice aK nK cK] 30)) w.heap.size kind neg V bits text aL nL cL aK nK cK from ⟨by simp [go_sem]⟩)
          have e : R = false := by rw [HR.out]; simp [earlyB, *]
          subst e
          clear HR
          go_enter Tryd.func34, Tryd.ntmps34
          repeat any_goals (first | (go_at_call 57; with_reducible refine (C.out.c1 _).mono ?_; rintro e w1 ⟨rfl, hb1⟩; (first | have V1 := Lib.hid (V0.out.below hb1) | have V1 := Lib.hid (V0.out.step hb1) | have V1 := Lib.hid (V0.out.step2 hb1)); obtain ⟨_, _, _, _, _, _, _, _, _, _⟩ := V1.out.all) | (go_at_call 66; with_reducible refine (C.out.c2 _).mono ?_; rintro e w2 ⟨rfl, hb2⟩; (first | have V2 := Lib.hid (V0.out.below hb2) | have V2 := Lib.hid (V0.out.step hb2) | have V2 := Lib.hid (V0.out.step2 hb2)); obtain ⟨_, _, _, _, _, _, _, _, _, _⟩ := V2.out.all) | (go_at_call 67; with_reducible refine (C.out.c3 _).mono ?_; rintro e w3 ⟨rfl, hb3⟩; (first | have V3 := Lib.hid (V2.out.below hb3) | have V3 := Lib.hid (V2.out.step hb3) | have V3 := Lib.hid (V2.out.step2 hb3)); obtain ⟨_, _, _, _, _, _, _, _, _, _⟩ := V3.out.all) | go_skip | go_guarded | go_step | go_upon | (dsimp only []))
          exact bodyPost_ret (v := .bool false) (by simp [results, Tryd.results34, go_sem]) rfl ⟨rfl, by (repeat first | with_reducible exact Below.refl _ _ | with_reducible assumption | with_reducible refine Below.drew ?_ | with_reducible refine below_alloc ?_ _ | ((with_reducible refine Below.setCell ?_ ?_ _); rotate_left; (focus (first | with_reducible exact Nat.le_refl _ | (simp; done) | (simp; omega) | omega))) | (with_reducible refine below_trans ?_ (by assumption)))⟩
      | true =>
        by_cases k3 : kind = 3
        · subst k3
          cases array with
          | false =>
            cases r with
            | true =>
              have V0 := Lib.hid (show VBx (w.alloc (.cells #[.int .i64 3, .bool neg, .int .u64 (lm V 0 : Nat), .int .u64 (lm V 1 : Nat), .int .u64 (lm V 2 : Nat), .int .u64 (lm V 3 : Nat), .int .u64 (bits : Nat), .string text, .slice aL nL cL, .slice aK nK cK] 30)) w.heap.size 3 neg V bits text aL nL cL aK nK cK from ⟨by simp [go_sem]⟩)
              have HR2 : Hid (R = !anyN (fun i => !(kids i).insideB 3 true b7) nL) := Lib.hid (by rw [HR.out]; simp [earlyB, *])
              clear HR
              go_enter Tryd.func34, Tryd.ntmps34
              repeat any_goals (first | (go_at_call 57; with_reducible refine (C.out.c1 _).mono ?_; rintro e w1 ⟨rfl, hb1⟩; (first | have V1 := Lib.hid (V0.out.below hb1) | have V1 := Lib.hid (V0.out.step hb1) | have V1 := Lib.hid (V0.out.step2 hb1)); obtain ⟨_, _, _, _, _, _, _, _, _, _⟩ := V1.out.all) | (go_at_call 66; with_reducible refine (C.out.c2 _).mono ?_; rintro e w2 ⟨rfl, hb2⟩; (first | have V2 := Lib.hid (V0.out.below hb2) | have V2 := Lib.hid (V0.out.step hb2) | have V2 := Lib.hid (V0.out.step2 hb2)); obtain ⟨_, _, _, _, _, _, _, _, _, _⟩ := V2.out.all) | (go_at_call 67; with_reducible refine (C.out.c3 _).mono ?_; rintro e w3 ⟨rfl, hb3⟩; (first | have V3 := Lib.hid (V2.out.below hb3) | have V3 := Lib.hid (V2.out.step hb3) | have V3 := Lib.hid (V2.out.step2 hb3)); obtain ⟨_, _, _, _, _, _, _, _, _, _⟩ := V3.out.all) | go_skip | go_guarded | go_step | go_upon | (dsimp only []))
              go_loopw [9] (fun i wr => ∃ k : Nat, k ≤ nL ∧ i = .int .i64 k ∧ anyN (fun i => !(kids i).insideB 3 true b7) k = false ∧ VBx wr w.heap.size 3 neg V bits text aL nL cL aK nK cK ∧ Below w.heap.size w wr) (fun i _ => nL - (intOf i).toNat)
              case atStart => exact ⟨0, Nat.zero_le _, rfl, rfl, V2.out, by (repeat first | with_reducible exact Below.refl _ _ | with_reducible assumption | with_reducible refine Below.drew ?_ | with_reducible refine below_alloc ?_ _ | ((with_reducible refine Below.setCell ?_ ?_ _); rotate_left; (focus (first | with_reducible exact Nat.le_refl _ | (simp; done) | (simp; omega) | omega))) | (with_reducible refine below_trans ?_ (by assumption)))⟩
              case round =>
                obtain ⟨k, hk, rfl, hA, hV, hW⟩ := hrel
                have HA := Lib.hid hA
                have VV := Lib.hid hV
                obtain ⟨_, _, _, _, _, _, _, _, _, _⟩ := hV.all
                clear hA hV
                by_cases hkn : k < nL
                · obtain ⟨b, off, kind', neg', V', bits', text', aL', nL', cL', kids', aK', nK', cK', keys', rfl, hb, hkid, hc, hin'⟩ := kid_lit HL.out HK.out hkn hW
                  have K0 := Lib.hid (show KBx wr b (off + k * 10) kind' neg' V' bits' text' aL' nL' cL' aK' nK' cK' from ⟨hc⟩)
                  have i1 : (k : Int) < (nL : Int) := by omega
                  have i2 : (0 : Int) ≤ (k : Int) := by omega
                  have i5 : (k : Int).toNat = k := rfl
                  obtain ⟨z, hz⟩ : ∃ z : Bool, z = (kids k).insideB 3 true b7 := ⟨_, rfl⟩
                  have HC : ∀ w'' : World, Below wr.heap.size wr w'' → Calls Tryd.prog 34 #[(kids k).agg, .int .i64 3, .bool true, .bool b7] w'' fun e w' => e = .returned (.bool z) ∧ Below w''.heap.size w'' w' := fun w'' hb => by
                    have := IH.out k w'' 3 true b7 (hin'.below hb)
                    rwa [← hz] at this
                  rw [hkid] at HC
                  simp only [VT.agg, VT.cells] at HC
                  have HCK := Lib.hid HC
                  have HX := Lib.hid hz
                  have h7i := H7.out
                  clear hin' hkid hz hc HC
                  cases z with
                  | false =>
                    have e : R = false := by rw [HR2.out, anyN_of (p := fun i => !(kids i).insideB 3 true b7) (by rw [← HX.out]; rfl) hkn]; rfl
                    subst e
                    go_upto_region 10 with fail
                    (obtain ⟨C_, hC⟩ : ∃ C : World → Prop, C = fun w' => Below (wr).heap.size (wr) w' := ⟨_, rfl⟩; have HC := Lib.hid hC; have hne : ∀ p : Prop, (∀ w1 : World, C_ w1 → p) = p := fun p => propext ⟨fun h => h (wr) (by rw [hC]; exact Below.refl _ _), fun h _ _ => h⟩; clear hC; refine wp_region_quiet_cls (C := C_) (by kernel_rfl) (by kernel_rfl) (by rw [HC.out]; exact (Below.refl _ _).drew) ?_)
                    (go_big_quiet_want; go_big_quiet_op; go_big_quiet_on)
                    (go_big_quiet_want; refine ⟨.slice (some ⟨b, off, none⟩) nL cL, fun w1 hw1 => ?_, ?_⟩; (rw [HC.out] at hw1; obtain ⟨_, _, _, _, _⟩ := (VV.out.below hw1).all; simp [Oper.quietAt, go_sem, *]); (try simp only [Act.put, List.setIfInBounds_toArray, List.set_cons_zero, List.set_cons_succ]); go_big_quiet_on)
                    (go_big_quiet_want; go_big_quiet_op; go_big_quiet_on)
                    (go_big_quiet_want; go_big_quiet_op; go_big_quiet_on)
                    (go_big_quiet_want; refine ⟨.agg #[.int .i64 kind', .bool neg', .int .u64 (lm V' 0 : Nat), .int .u64 (lm V' 1 : Nat), .int .u64 (lm V' 2 : Nat), .int .u64 (lm V' 3 : Nat), .int .u64 (bits' : Nat), .string text', .slice aL' nL' cL', .slice aK' nK' cK'], fun w1 hw1 => ?_, ?_⟩; (rw [HC.out] at hw1; obtain ⟨_, _, _, _, _⟩ := (K0.out.below hw1).all; simp [Oper.quietAt, go_sem, *]); (try simp only [Act.put, List.setIfInBounds_toArray, List.set_cons_zero, List.set_cons_succ]); go_big_quiet_on)
                    (go_big_quiet_want; go_big_quiet_op; go_big_quiet_on)
                    (go_big_quiet_want; go_big_quiet_op; go_big_quiet_on)
                    (go_big_quiet_want; refine ⟨.int .i64 3, fun w1 hw1 => ?_, ?_⟩; (rw [HC.out] at hw1; obtain ⟨_, _, _, _, _⟩ := (VV.out.below hw1).all; simp [Oper.quietAt, go_sem, *]); (try simp only [Act.put, List.setIfInBounds_toArray, List.set_cons_zero, List.set_cons_succ]); go_big_quiet_on)
                    (go_big_quiet_want; refine ⟨.bool b7, fun w1 hw1 => ?_, ?_⟩; (rw [HC.out] at hw1; obtain ⟨_, _, _, _, _⟩ := (VV.out.below hw1).all; simp [Oper.quietAt, go_sem, *]); (try simp only [Act.put, List.setIfInBounds_toArray, List.set_cons_zero, List.set_cons_succ]); go_big_quiet_on)
                    (go_big_quiet_want; go_big_quiet_op; refine ⟨.bool false, fun w1 hw1 => ?_, ?_⟩; (rw [HC.out] at hw1 ⊢; with_reducible refine (HCK.out _ hw1).mono ?_; rintro e w4 ⟨rfl, hb4⟩; exact ⟨rfl, below_trans hw1 hb4⟩); go_big_quiet_on)
                    (go_big_quiet_want; go_big_quiet_op; go_big_quiet_on)
                    (refine wpQuiet_nil ?_; intro w2 hw2; rw [HC.out] at hw2)
                    repeat any_goals (first | go_skip | go_guarded | go_step | go_upon | (simp only []; done))
                    exact bodyPost_ret (v := .bool false) (by simp [results, Tryd.results34, go_sem]) rfl ⟨rfl, below_trans hW hw2⟩
                  | true =>
                    go_upto_region 10 with fail
                    (obtain ⟨C_, hC⟩ : ∃ C : World → Prop, C = fun w' => Below (wr).heap.size (wr) w' := ⟨_, rfl⟩; have HC := Lib.hid hC; have hne : ∀ p : Prop, (∀ w1 : World, C_ w1 → p) = p := fun p => propext ⟨fun h => h (wr) (by rw [hC]; exact Below.refl _ _), fun h _ _ => h⟩; clear hC; refine wp_region_quiet_cls (C := C_) (by kernel_rfl) (by kernel_rfl) (by rw [HC.out]; exact (Below.refl _ _).drew) ?_)
                    (go_big_quiet_want; go_big_quiet_op; go_big_quiet_on)
                    (go_big_quiet_want; refine ⟨.slice (some ⟨b, off, none⟩) nL cL, fun w1 hw1 => ?_, ?_⟩; (rw [HC.out] at hw1; obtain ⟨_, _, _, _, _⟩ := (VV.out.below hw1).all; simp [Oper.quietAt, go_sem, *]); (try simp only [Act.put, List.setIfInBounds_toArray, List.set_cons_zero, List.set_cons_succ]); go_big_quiet_on)
                    (go_big_quiet_want; go_big_quiet_op; go_big_quiet_on)
                    (go_big_quiet_want; go_big_quiet_op; go_big_quiet_on)
                    (go_big_quiet_want; refine ⟨.agg #[.int .i64 kind', .bool neg', .int .u64 (lm V' 0 : Nat), .int .u64 (lm V' 1 : Nat), .int .u64 (lm V' 2 : Nat), .int .u64 (lm V' 3 : Nat), .int .u64 (bits' : Nat), .string text', .slice aL' nL' cL', .slice aK' nK' cK'], fun w1 hw1 => ?_, ?_⟩; (rw [HC.out] at hw1; obtain ⟨_, _, _, _, _⟩ := (K0.out.below hw1).all; simp [Oper.quietAt, go_sem, *]); (try simp only [Act.put, List.setIfInBounds_toArray, List.set_cons_zero, List.set_cons_succ]); go_big_quiet_on)
                    (go_big_quiet_want; go_big_quiet_op; go_big_quiet_on)
                    (go_big_quiet_want; go_big_quiet_op; go_big_quiet_on)
                    (go_big_quiet_want; refine ⟨.int .i64 3, fun w1 hw1 => ?_, ?_⟩; (rw [HC.out] at hw1; obtain ⟨_, _, _, _, _⟩ := (VV.out.below hw1).all; simp [Oper.quietAt, go_sem, *]); (try simp only [Act.put, List.setIfInBounds_toArray, List.set_cons_zero, List.set_cons_succ]); go_big_quiet_on)
                    (go_big_quiet_want; refine ⟨.bool b7, fun w1 hw1 => ?_, ?_⟩; (rw [HC.out] at hw1; obtain ⟨_, _, _, _, _⟩ := (VV.out.below hw1).all; simp [Oper.quietAt, go_sem, *]); (try simp only [Act.put, List.setIfInBounds_toArray, List.set_cons_zero, List.set_cons_succ]); go_big_quiet_on)
                    (go_big_quiet_want; go_big_quiet_op; refine ⟨.bool true, fun w1 hw1 => ?_, ?_⟩; (rw [HC.out] at hw1 ⊢; with_reducible refine (HCK.out _ hw1).mono ?_; rintro e w4 ⟨rfl, hb4⟩; exact ⟨rfl, below_trans hw1 hb4⟩); go_big_quiet_on)
                    (go_big_quiet_want; go_big_quiet_op; go_big_quiet_on)
                    (refine wpQuiet_nil ?_; intro w2 hw2; rw [HC.out] at hw2)
                    repeat any_goals (first | go_skip | go_guarded | go_step | go_upon | (simp only []; done))
                    go_roundw
                    case rel => exact ⟨k + 1, by omega, rfl, by simp only [anyN]; rw [HA.out, ← HX.out]; rfl, VV.out.below hw2, below_trans hW hw2⟩
                    case measure => simp [intOf]; omega
                · have hk' : k = nL := by omega
                  subst hk'
                  have i1 : ¬ (k : Int) < (k : Int) := by omega
                  have e : R = true := by rw [HR2.out, HA.out]; rfl
                  subst e
                  repeat any_goals (first | go_skip | go_guarded | go_step | go_upon | (simp only []; done))
                  exact bodyPost_ret (v := .bool true) (by simp [results, Tryd.results34, go_sem]) rfl ⟨rfl, hW⟩
            | false =>
              cases x with
              | true =>
                have V0 := Lib.hid (show VBx (w.alloc (.cells #[.int .i64 3, .bool neg, .int .u64 (lm V 0 : Nat), .int .u64 (lm V 1 : Nat), .int .u64 (lm V 2 : Nat), .int .u64 (lm V 3 : Nat), .int .u64 (bits : Nat), .string text, .slice aL nL cL, .slice aK nK cK] 30)) w.heap.size 3 neg V bits text aL nL cL aK nK cK from ⟨by simp [go_sem]⟩)
                have HR2 : Hid (R = !anyN (fun i => !(kids i).insideB 3 true b7) nL) := Lib.hid (by rw [HR.out]; simp [earlyB, *])
                clear HR
                go_enter Tryd.func34, Tryd.ntmps34
                repeat any_goals (first | (go_at_call 57; with_reducible refine (C.out.c1 _).mono ?_; rintro e w1 ⟨rfl, hb1⟩; (first | have V1 := Lib.hid (V0.out.below hb1) | have V1 := Lib.hid (V0.out.step hb1) | have V1 := Lib.hid (V0.out.step2 hb1)); obtain ⟨_, _, _, _, _, _, _, _, _, _⟩ := V1.out.all) | (go_at_call 66; with_reducible refine (C.out.c2 _).mono ?_; rintro e w2 ⟨rfl, hb2⟩; (first | have V2 := Lib.hid (V0.out.below hb2) | have V2 := Lib.hid (V0.out.step hb2) | have V2 := Lib.hid (V0.out.step2 hb2)); obtain ⟨_, _, _, _, _, _, _, _, _, _⟩ := V2.out.all) | (go_at_call 67; with_reducible refine (C.out.c3 _).mono ?_; rintro e w3 ⟨rfl, hb3⟩; (first | have V3 := Lib.hid (V2.out.below hb3) | have V3 := Lib.hid (V2.out.step hb3) | have V3 := Lib.hid (V2.out.step2 hb3)); obtain ⟨_, _, _, _, _, _, _, _, _, _⟩ := V3.out.all) | go_skip | go_guarded | go_step | go_upon | (dsimp only []))
                go_loopw [9] (fun i wr => ∃ k : Nat, k ≤ nL ∧ i = .int .i64 k ∧ anyN (fun i => !(kids i).insideB 3 true b7) k = false ∧ VBx wr w.heap.size 3 neg V bits text aL nL cL aK nK cK ∧ Below w.heap.size w wr) (fun i _ => nL - (intOf i).toNat)
                case atStart => exact ⟨0, Nat.zero_le _, rfl, rfl, V3.out, by (repeat first | with_reducible exact Below.refl _ _ | with_reducible assumption | with_reducible refine Below.drew ?_ | with_reducible refine below_alloc ?_ _ | ((with_reducible refine Below.setCell ?_ ?_ _); rotate_left; (focus (first | with_reducible exact Nat.le_refl _ | (simp; done) | (simp; omega) | omega))) | (with_reducible refine below_trans ?_ (by assumption)))⟩
                case round =>
                  obtain ⟨k, hk, rfl, hA, hV, hW⟩ := hrel
                  have HA := Lib.hid hA
                  have VV := Lib.hid hV
                  obtain ⟨_, _, _, _, _, _, _, _, _, _⟩ := hV.all
                  clear hA hV
                  by_cases hkn : k < nL
                  · obtain ⟨b, off, kind', neg', V', bits', text', aL', nL', cL', kids', aK', nK', cK', keys', rfl, hb, hkid, hc, hin'⟩ := kid_lit HL.out HK.out hkn hW
                    have K0 := Lib.hid (show KBx wr b (off + k * 10) kind' neg' V' bits' text' aL' nL' cL' aK' nK' cK' from ⟨hc⟩)
                    have i1 : (k : Int) < (nL : Int) := by omega
                    have i2 : (0 : Int) ≤ (k : Int) := by omega
                    have i5 : (k : Int).toNat = k := rfl
                    obtain ⟨z, hz⟩ : ∃ z : Bool, z = (kids k).insideB 3 true b7 := ⟨_, rfl⟩
                    have HC : ∀ w'' : World, Below wr.heap.size wr w'' → Calls Tryd.prog 34 #[(kids k).agg, .int .i64 3, .bool true, .bool b7] w'' fun e w' => e = .returned (.bool z) ∧ Below w''.heap.size w'' w' := fun w'' hb => by
                      have := IH.out k w'' 3 true b7 (hin'.below hb)
                      rwa [← hz] at this
                    rw [hkid] at HC
                    simp only [VT.agg, VT.cells] at HC
                    have HCK := Lib.hid HC
                    have HX := Lib.hid hz
                    have h7i := H7.out
                    clear hin' hkid hz hc HC
                    cases z with
                    | false =>
                      have e : R = false := by rw [HR2.out, anyN_of (p := fun i => !(kids i).insideB 3 true b7) (by rw [← HX.out]; rfl) hkn]; rfl
                      subst e
                      go_upto_region 10 with fail
                      (obtain ⟨C_, hC⟩ : ∃ C : World → Prop, C = fun w' => Below (wr).heap.size (wr) w' := ⟨_, rfl⟩; have HC := Lib.hid hC; have hne : ∀ p : Prop, (∀ w1 : World, C_ w1 → p) = p := fun p => propext ⟨fun h => h (wr) (by rw [hC]; exact Below.refl _ _), fun h _ _ => h⟩; clear hC; refine wp_region_quiet_cls (C := C_) (by kernel_rfl) (by kernel_rfl) (by rw [HC.out]; exact (Below.refl _ _).drew) ?_)
                      (go_big_quiet_want; go_big_quiet_op; go_big_quiet_on)
                      (go_big_quiet_want; refine ⟨.slice (some ⟨b, off, none⟩) nL cL, fun w1 hw1 => ?_, ?_⟩; (rw [HC.out] at hw1; obtain ⟨_, _, _, _, _⟩ := (VV.out.below hw1).all; simp [Oper.quietAt, go_sem, *]); (try simp only [Act.put, List.setIfInBounds_toArray, List.set_cons_zero, List.set_cons_succ]); go_big_quiet_on)
                      (go_big_quiet_want; go_big_quiet_op; go_big_quiet_on)
                      (go_big_quiet_want; go_big_quiet_op; go_big_quiet_on)
                      (go_big_quiet_want; refine ⟨.agg #[.int .i64 kind', .bool neg', .int .u64 (lm V' 0 : Nat), .int .u64 (lm V' 1 : Nat), .int .u64 (lm V' 2 : Nat), .int .u64 (lm V' 3 : Nat), .int .u64 (bits' : Nat), .string text', .slice aL' nL' cL', .slice aK' nK' cK'], fun w1 hw1 => ?_, ?_⟩; (rw [HC.out] at hw1; obtain ⟨_, _, _, _, _⟩ := (K0.out.below hw1).all; simp [Oper.quietAt, go_sem, *]); (try simp only [Act.put, List.setIfInBounds_toArray, List.set_cons_zero, List.set_cons_succ]); go_big_quiet_on)
                      (go_big_quiet_want; go_big_quiet_op; go_big_quiet_on)
                      (go_big_quiet_want; go_big_quiet_op; go_big_quiet_on)
                      (go_big_quiet_want; refine ⟨.int .i64 3, fun w1 hw1 => ?_, ?_⟩; (rw [HC.out] at hw1; obtain ⟨_, _, _, _, _⟩ := (VV.out.below hw1).all; simp [Oper.quietAt, go_sem, *]); (try simp only [Act.put, List.setIfInBounds_toArray, List.set_cons_zero, List.set_cons_succ]); go_big_quiet_on)
                      (go_big_quiet_want; refine ⟨.bool b7, fun w1 hw1 => ?_, ?_⟩; (rw [HC.out] at hw1; obtain ⟨_, _, _, _, _⟩ := (VV.out.below hw1).all; simp [Oper.quietAt, go_sem, *]); (try simp only [Act.put, List.setIfInBounds_toArray, List.set_cons_zero, List.set_cons_succ]); go_big_quiet_on)
                      (go_big_quiet_want; go_big_quiet_op; refine ⟨.bool false, fun w1 hw1 => ?_, ?_⟩; (rw [HC.out] at hw1 ⊢; with_reducible refine (HCK.out _ hw1).mono ?_; rintro e w4 ⟨rfl, hb4⟩; exact ⟨rfl, below_trans hw1 hb4⟩); go_big_quiet_on)
                      (go_big_quiet_want; go_big_quiet_op; go_big_quiet_on)
                      (refine wpQuiet_nil ?_; intro w2 hw2; rw [HC.out] at hw2)
                      repeat any_goals (first | go_skip | go_guarded | go_step | go_upon | (simp only []; done))
                      exact bodyPost_ret (v := .bool false) (by simp [results, Tryd.results34, go_sem]) rfl ⟨rfl, below_trans hW hw2⟩
                    | true =>
                      go_upto_region 10 with fail
                      (obtain ⟨C_, hC⟩ : ∃ C : World → Prop, C = fun w' => Below (wr).heap.size (wr) w' := ⟨_, rfl⟩; have HC := Lib.hid hC; have hne : ∀ p : Prop, (∀ w1 : World, C_ w1 → p) = p := fun p => propext ⟨fun h => h (wr) (by rw [hC]; exact Below.refl _ _), fun h _ _ => h⟩; clear hC; refine wp_region_quiet_cls (C := C_) (by kernel_rfl) (by kernel_rfl) (by rw [HC.out]; exact (Below.refl _ _).drew) ?_)
                      (go_big_quiet_want; go_big_quiet_op; go_big_quiet_on)
                      (go_big_quiet_want; refine ⟨.slice (some ⟨b, off, none⟩) nL cL, fun w1 hw1 => ?_, ?_⟩; (rw [HC.out] at hw1; obtain ⟨_, _, _, _, _⟩ := (VV.out.below hw1).all; simp [Oper.quietAt, go_sem, *]); (try simp only [Act.put, List.setIfInBounds_toArray, List.set_cons_zero, List.set_cons_succ]); go_big_quiet_on)
                      (go_big_quiet_want; go_big_quiet_op; go_big_quiet_on)
                      (go_big_quiet_want; go_big_quiet_op; go_big_quiet_on)
                      (go_big_quiet_want; refine ⟨.agg #[.int .i64 kind', .bool neg', .int .u64 (lm V' 0 : Nat), .int .u64 (lm V' 1 : Nat), .int .u64 (lm V' 2 : Nat), .int .u64 (lm V' 3 : Nat), .int .u64 (bits' : Nat), .string text', .slice aL' nL' cL', .slice aK' nK' cK'], fun w1 hw1 => ?_, ?_⟩; (rw [HC.out] at hw1; obtain ⟨_, _, _, _, _⟩ := (K0.out.below hw1).all; simp [Oper.quietAt, go_sem, *]); (try simp only [Act.put, List.setIfInBounds_toArray, List.set_cons_zero, List.set_cons_succ]); go_big_quiet_on)
                      (go_big_quiet_want; go_big_quiet_op; go_big_quiet_on)
                      (go_big_quiet_want; go_big_quiet_op; go_big_quiet_on)
                      (go_big_quiet_want; refine ⟨.int .i64 3, fun w1 hw1 => ?_, ?_⟩; (rw [HC.out] at hw1; obtain ⟨_, _, _, _, _⟩ := (VV.out.below hw1).all; simp [Oper.quietAt, go_sem, *]); (try simp only [Act.put, List.setIfInBounds_toArray, List.set_cons_zero, List.set_cons_succ]); go_big_quiet_on)
                      (go_big_quiet_want; refine ⟨.bool b7, fun w1 hw1 => ?_, ?_⟩; (rw [HC.out] at hw1; obtain ⟨_, _, _, _, _⟩ := (VV.out.below hw1).all; simp [Oper.quietAt, go_sem, *]); (try simp only [Act.put, List.setIfInBounds_toArray, List.set_cons_zero, List.set_cons_succ]); go_big_quiet_on)
                      (go_big_quiet_want; go_big_quiet_op; refine ⟨.bool true, fun w1 hw1 => ?_, ?_⟩; (rw [HC.out] at hw1 ⊢; with_reducible refine (HCK.out _ hw1).mono ?_; rintro e w4 ⟨rfl, hb4⟩; exact ⟨rfl, below_trans hw1 hb4⟩); go_big_quiet_on)
                      (go_big_quiet_want; go_big_quiet_op; go_big_quiet_on)
                      (refine wpQuiet_nil ?_; intro w2 hw2; rw [HC.out] at hw2)
                      repeat any_goals (first | go_skip | go_guarded | go_step | go_upon | (simp only []; done))
                      go_roundw
                      case rel => exact ⟨k + 1, by omega, rfl, by simp only [anyN]; rw [HA.out, ← HX.out]; rfl, VV.out.below hw2, below_trans hW hw2⟩
                      case measure => simp [intOf]; omega
                  · have hk' : k = nL := by omega
                    subst hk'
                    have i1 : ¬ (k : Int) < (k : Int) := by omega
                    have e : R = true := by rw [HR2.out, HA.out]; rfl
                    subst e
                    repeat any_goals (first | go_skip | go_guarded | go_step | go_upon | (simp only []; done))
                    exact bodyPost_ret (v := .bool true) (by simp [results, Tryd.results34, go_sem]) rfl ⟨rfl, hW⟩
              | false =>
                have V0 := Lib.hid (show VBx (w.alloc (.cells #[.int .i64 3, .bool neg, .int .u64 (lm V 0 : Nat), .int .u64 (lm V 1 : Nat), .int .u64 (lm V 2 : Nat), .int .u64 (lm V 3 : Nat), .int .u64 (bits : Nat), .string text, .slice aL nL cL, .slice aK nK cK] 30)) w.heap.size 3 neg V bits text aL nL cL aK nK cK from ⟨by simp [go_sem]⟩)
                have e : R = false := by rw [HR.out]; simp [earlyB, *]
                subst e
                clear HR
                go_enter Tryd.func34, Tryd.ntmps34
                repeat any_goals (first | (go_at_call 57; with_reducible refine (C.out.c1 _).mono ?_; rintro e w1 ⟨rfl, hb1⟩; (first | have V1 := Lib.hid (V0.out.below hb1) | have V1 := Lib.hid (V0.out.step hb1) | have V1 := Lib.hid (V0.out.step2 hb1)); obtain ⟨_, _, _, _, _, _, _, _, _, _⟩ := V1.out.all) | (go_at_call 66; with_reducible refine (C.out.c2 _).mono ?_; rintro e w2 ⟨rfl, hb2⟩; (first | have V2 := Lib.hid (V0.out.below hb2) | have V2 := Lib.hid (V0.out.step hb2) | have V2 := Lib.hid (V0.out.step2 hb2)); obtain ⟨_, _, _, _, _, _, _, _, _, _⟩ := V2.out.all) | (go_at_call 67; with_reducible refine (C.out.c3 _).mono ?_; rintro e w3 ⟨rfl, hb3⟩; (first | have V3 := Lib.hid (V2.out.below hb3) | have V3 := Lib.hid (V2.out.step hb3) | have V3 := Lib.hid (V2.out.step2 hb3)); obtain ⟨_, _, _, _, _, _, _, _, _, _⟩ := V3.out.all) | go_skip | go_guarded | go_step | go_upon | (dsimp only []))
                exact bodyPost_ret (v := .bool false) (by simp [results, Tryd.results34, go_sem]) rfl ⟨rfl, by (repeat first | with_reducible exact Below.refl _ _ | with_reducible assumption | with_reducible refine Below.drew ?_ | with_reducible refine below_alloc ?_ _ | ((with_reducible refine Below.setCell ?_ ?_ _); rotate_left; (focus (first | with_reducible exact Nat.le_refl _ | (simp; done) | (simp; omega) | omega))) | (with_reducible refine below_trans ?_ (by assumption)))⟩
          | true =>
            cases r with
            | true =>
              have V0 := Lib.hid (show VBx (w.alloc (.cells #[.int .i64 3, .bool neg, .int .u64 (lm V 0 : Nat), .int .u64 (lm V 1 : Nat), .int .u64 (lm V 2 : Nat), .int .u64 (lm V 3 : Nat), .int .u64 (bits : Nat), .string text, .slice aL nL cL, .slice aK nK cK] 30)) w.heap.size 3 neg V bits text aL nL cL aK nK cK from ⟨by simp [go_sem]⟩)
              have HR2 : Hid (R = !anyN (fun i => !(kids i).insideB 3 true b7) nL) := Lib.hid (by rw [HR.out]; simp [earlyB, *])
              clear HR
              go_enter Tryd.func34, Tryd.ntmps34
              repeat any_goals (first | (go_at_call 57; with_reducible refine (C.out.c1 _).mono ?_; rintro e w1 ⟨rfl, hb1⟩; (first | have V1 := Lib.hid (V0.out.below hb1) | have V1 := Lib.hid (V0.out.step hb1) | have V1 := Lib.hid (V0.out.step2 hb1)); obtain ⟨_, _, _, _, _, _, _, _, _, _⟩ := V1.out.all) | (go_at_call 66; with_reducible refine (C.out.c2 _).mono ?_; rintro e w2 ⟨rfl, hb2⟩; (first | have V2 := Lib.hid (V0.out.below hb2) | have V2 := Lib.hid (V0.out.step hb2) | have V2 := Lib.hid (V0.out.step2 hb2)); obtain ⟨_, _, _, _, _, _, _, _, _, _⟩ := V2.out.all) | (go_at_call 67; with_reducible refine (C.out.c3 _).mono ?_; rintro e w3 ⟨rfl, hb3⟩; (first | have V3 := Lib.hid (V2.out.below hb3) | have V3 := Lib.hid (V2.out.step hb3) | have V3 := Lib.hid (V2.out.step2 hb3)); obtain ⟨_, _, _, _, _, _, _, _, _, _⟩ := V3.out.all) | go_skip | go_guarded | go_step | go_upon | (dsimp only []))
              go_loopw [9] (fun i wr => ∃ k : Nat, k ≤ nL ∧ i = .int .i64 k ∧ anyN (fun i => !(kids i).insideB 3 true b7) k = false ∧ VBx wr w.heap.size 3 neg V bits text aL nL cL aK nK cK ∧ Below w.heap.size w wr) (fun i _ => nL - (intOf i).toNat)
              case atStart => exact ⟨0, Nat.zero_le _, rfl, rfl, V2.out, by (repeat first | with_reducible exact Below.refl _ _ | with_reducible assumption | with_reducible refine Below.drew ?_ | with_reducible refine below_alloc ?_ _ | ((with_reducible refine Below.setCell ?_ ?_ _); rotate_left; (focus (first | with_reducible exact Nat.le_refl _ | (simp; done) | (simp; omega) | omega))) | (with_reducible refine below_trans ?_ (by assumption)))⟩
              case round =>
                obtain ⟨k, hk, rfl, hA, hV, hW⟩ := hrel
                have HA := Lib.hid hA
                have VV := Lib.hid hV
                obtain ⟨_, _, _, _, _, _, _, _, _, _⟩ := hV.all
                clear hA hV
                by_cases hkn : k < nL
                · obtain ⟨b, off, kind', neg', V', bits', text', aL', nL', cL', kids', aK', nK', cK', keys', rfl, hb, hkid, hc, hin'⟩ := kid_lit HL.out HK.out hkn hW
                  have K0 := Lib.hid (show KBx wr b (off + k * 10) kind' neg' V' bits' text' aL' nL' cL' aK' nK' cK' from ⟨hc⟩)
                  have i1 : (k : Int) < (nL : Int) := by omega
                  have i2 : (0 : Int) ≤ (k : Int) := by omega
                  have i5 : (k : Int).toNat = k := rfl
                  obtain ⟨z, hz⟩ : ∃ z : Bool, z = (kids k).insideB 3 true b7 := ⟨_, rfl⟩
                  have HC : ∀ w'' : World, Below wr.heap.size wr w'' → Calls Tryd.prog 34 #[(kids k).agg, .int .i64 3, .bool true, .bool b7] w'' fun e w' => e = .returned (.bool z) ∧ Below w''.heap.size w'' w' := fun w'' hb => by
                    have := IH.out k w'' 3 true b7 (hin'.below hb)
                    rwa [← hz] at this
                  rw [hkid] at HC
                  simp only [VT.agg, VT.cells] at HC
                  have HCK := Lib.hid HC
                  have HX := Lib.hid hz
                  have h7i := H7.out
                  clear hin' hkid hz hc HC
                  cases z with
                  | false =>
                    have e : R = false := by rw [HR2.out, anyN_of (p := fun i => !(kids i).insideB 3 true b7) (by rw [← HX.out]; rfl) hkn]; rfl
                    subst e
                    go_upto_region 10 with fail
                    (obtain ⟨C_, hC⟩ : ∃ C : World → Prop, C = fun w' => Below (wr).heap.size (wr) w' := ⟨_, rfl⟩; have HC := Lib.hid hC; have hne : ∀ p : Prop, (∀ w1 : World, C_ w1 → p) = p := fun p => propext ⟨fun h => h (wr) (by rw [hC]; exact Below.refl _ _), fun h _ _ => h⟩; clear hC; refine wp_region_quiet_cls (C := C_) (by kernel_rfl) (by kernel_rfl) (by rw [HC.out]; exact (Below.refl _ _).drew) ?_)
                    (go_big_quiet_want; go_big_quiet_op; go_big_quiet_on)
                    (go_big_quiet_want; refine ⟨.slice (some ⟨b, off, none⟩) nL cL, fun w1 hw1 => ?_, ?_⟩; (rw [HC.out] at hw1; obtain ⟨_, _, _, _, _⟩ := (VV.out.below hw1).all; simp [Oper.quietAt, go_sem, *]); (try simp only [Act.put, List.setIfInBounds_toArray, List.set_cons_zero, List.set_cons_succ]); go_big_quiet_on)
                    (go_big_quiet_want; go_big_quiet_op; go_big_quiet_on)
                    (go_big_quiet_want; go_big_quiet_op; go_big_quiet_on)
                    (go_big_quiet_want; refine ⟨.agg #[.int .i64 kind', .bool neg', .int .u64 (lm V' 0 : Nat), .int .u64 (lm V' 1 : Nat), .int .u64 (lm V' 2 : Nat), .int .u64 (lm V' 3 : Nat), .int .u64 (bits' : Nat), .string text', .slice aL' nL' cL', .slice aK' nK' cK'], fun w1 hw1 => ?_, ?_⟩; (rw [HC.out] at hw1; obtain ⟨_, _, _, _, _⟩ := (K0.out.below hw1).all; simp [Oper.quietAt, go_sem, *]); (try simp only [Act.put, List.setIfInBounds_toArray, List.set_cons_zero, List.set_cons_succ]); go_big_quiet_on)
                    (go_big_quiet_want; go_big_quiet_op; go_big_quiet_on)
                    (go_big_quiet_want; go_big_quiet_op; go_big_quiet_on)
                    (go_big_quiet_want; refine ⟨.int .i64 3, fun w1 hw1 => ?_, ?_⟩; (rw [HC.out] at hw1; obtain ⟨_, _, _, _, _⟩ := (VV.out.below hw1).all; simp [Oper.quietAt, go_sem, *]); (try simp only [Act.put, List.setIfInBounds_toArray, List.set_cons_zero, List.set_cons_succ]); go_big_quiet_on)
                    (go_big_quiet_want; refine ⟨.bool b7, fun w1 hw1 => ?_, ?_⟩; (rw [HC.out] at hw1; obtain ⟨_, _, _, _, _⟩ := (VV.out.below hw1).all; simp [Oper.quietAt, go_sem, *]); (try simp only [Act.put, List.setIfInBounds_toArray, List.set_cons_zero, List.set_cons_succ]); go_big_quiet_on)
                    (go_big_quiet_want; go_big_quiet_op; refine ⟨.bool false, fun w1 hw1 => ?_, ?_⟩; (rw [HC.out] at hw1 ⊢; with_reducible refine (HCK.out _ hw1).mono ?_; rintro e w4 ⟨rfl, hb4⟩; exact ⟨rfl, below_trans hw1 hb4⟩); go_big_quiet_on)
                    (go_big_quiet_want; go_big_quiet_op; go_big_quiet_on)
                    (refine wpQuiet_nil ?_; intro w2 hw2; rw [HC.out] at hw2)
                    repeat any_goals (first | go_skip | go_guarded | go_step | go_upon | (simp only []; done))
                    exact bodyPost_ret (v := .bool false) (by simp [results, Tryd.results34, go_sem]) rfl ⟨rfl, below_trans hW hw2⟩
                  | true =>
                    go_upto_region 10 with fail
                    (obtain ⟨C_, hC⟩ : ∃ C : World → Prop, C = fun w' => Below (wr).heap.size (wr) w' := ⟨_, rfl⟩; have HC := Lib.hid hC; have hne : ∀ p : Prop, (∀ w1 : World, C_ w1 → p) = p := fun p => propext ⟨fun h => h (wr) (by rw [hC]; exact Below.refl _ _), fun h _ _ => h⟩; clear hC; refine wp_region_quiet_cls (C := C_) (by kernel_rfl) (by kernel_rfl) (by rw [HC.out]; exact (Below.refl _ _).drew) ?_)
                    (go_big_quiet_want; go_big_quiet_op; go_big_quiet_on)
                    (go_big_quiet_want; refine ⟨.slice (some ⟨b, off, none⟩) nL cL, fun w1 hw1 => ?_, ?_⟩; (rw [HC.out] at hw1; obtain ⟨_, _, _, _, _⟩ := (VV.out.below hw1).all; simp [Oper.quietAt, go_sem, *]); (try simp only [Act.put, List.setIfInBounds_toArray, List.set_cons_zero, List.set_cons_succ]); go_big_quiet_on)
                    (go_big_quiet_want; go_big_quiet_op; go_big_quiet_on)
                    (go_big_quiet_want; go_big_quiet_op; go_big_quiet_on)
                    (go_big_quiet_want; refine ⟨.agg #[.int .i64 kind', .bool neg', .int .u64 (lm V' 0 : Nat), .int .u64 (lm V' 1 : Nat), .int .u64 (lm V' 2 : Nat), .int .u64 (lm V' 3 : Nat), .int .u64 (bits' : Nat), .string text', .slice aL' nL' cL', .slice aK' nK' cK'], fun w1 hw1 => ?_, ?_⟩; (rw [HC.out] at hw1; obtain ⟨_, _, _, _, _⟩ := (K0.out.below hw1).all; simp [Oper.quietAt, go_sem, *]); (try simp only [Act.put, List.setIfInBounds_toArray, List.set_cons_zero, List.set_cons_succ]); go_big_quiet_on)
                    (go_big_quiet_want; go_big_quiet_op; go_big_quiet_on)
                    (go_big_quiet_want; go_big_quiet_op; go_big_quiet_on)
                    (go_big_quiet_want; refine ⟨.int .i64 3, fun w1 hw1 => ?_, ?_⟩; (rw [HC.out] at hw1; obtain ⟨_, _, _, _, _⟩ := (VV.out.below hw1).all; simp [Oper.quietAt, go_sem, *]); (try simp only [Act.put, List.setIfInBounds_toArray, List.set_cons_zero, List.set_cons_succ]); go_big_quiet_on)
                    (go_big_quiet_want; refine ⟨.bool b7, fun w1 hw1 => ?_, ?_⟩; (rw [HC.out] at hw1; obtain ⟨_, _, _, _, _⟩ := (VV.out.below hw1).all; simp [Oper.quietAt, go_sem, *]); (try simp only [Act.put, List.setIfInBounds_toArray, List.set_cons_zero, List.set_cons_succ]); go_big_quiet_on)
                    (go_big_quiet_want; go_big_quiet_op; refine ⟨.bool true, fun w1 hw1 => ?_, ?_⟩; (rw [HC.out] at hw1 ⊢; with_reducible refine (HCK.out _ hw1).mono ?_; rintro e w4 ⟨rfl, hb4⟩; exact ⟨rfl, below_trans hw1 hb4⟩); go_big_quiet_on)
                    (go_big_quiet_want; go_big_quiet_op; go_big_quiet_on)
                    (refine wpQuiet_nil ?_; intro w2 hw2; rw [HC.out] at hw2)
                    repeat any_goals (first | go_skip | go_guarded | go_step | go_upon | (simp only []; done))
                    go_roundw
                    case rel => exact ⟨k + 1, by omega, rfl, by simp only [anyN]; rw [HA.out, ← HX.out]; rfl, VV.out.below hw2, below_trans hW hw2⟩
                    case measure => simp [intOf]; omega
                · have hk' : k = nL := by omega
                  subst hk'
                  have i1 : ¬ (k : Int) < (k : Int) := by omega
                  have e : R = true := by rw [HR2.out, HA.out]; rfl
                  subst e
                  repeat any_goals (first | go_skip | go_guarded | go_step | go_upon | (simp only []; done))
                  exact bodyPost_ret (v := .bool true) (by simp [results, Tryd.results34, go_sem]) rfl ⟨rfl, hW⟩
            | false =>
              cases x with
              | true =>
                have V0 := Lib.hid (show VBx (w.alloc (.cells #[.int .i64 3, .bool neg, .int .u64 (lm V 0 : Nat), .int .u64 (lm V 1 : Nat), .int .u64 (lm V 2 : Nat), .int .u64 (lm V 3 : Nat), .int .u64 (bits : Nat), .string text, .slice aL nL cL, .slice aK nK cK] 30)) w.heap.size 3 neg V bits text aL nL cL aK nK cK from ⟨by simp [go_sem]⟩)
                have HR2 : Hid (R = !anyN (fun i => !(kids i).insideB 3 true b7) nL) := Lib.hid (by rw [HR.out]; simp [earlyB, *])
                clear HR
                go_enter Tryd.func34, Tryd.ntmps34
                repeat any_goals (first | (go_at_call 57; with_reducible refine (C.out.c1 _).mono ?_; rintro e w1 ⟨rfl, hb1⟩; (first | have V1 := Lib.hid (V0.out.below hb1) | have V1 := Lib.hid (V0.out.step hb1) | have V1 := Lib.hid (V0.out.step2 hb1)); obtain ⟨_, _, _, _, _, _, _, _, _, _⟩ := V1.out.all) | (go_at_call 66; with_reducible refine (C.out.c2 _).mono ?_; rintro e w2 ⟨rfl, hb2⟩; (first | have V2 := Lib.hid (V0.out.below hb2) | have V2 := Lib.hid (V0.out.step hb2) | have V2 := Lib.hid (V0.out.step2 hb2)); obtain ⟨_, _, _, _, _, _, _, _, _, _⟩ := V2.out.all) | (go_at_call 67; with_reducible refine (C.out.c3 _).mono ?_; rintro e w3 ⟨rfl, hb3⟩; (first | have V3 := Lib.hid (V2.out.below hb3) | have V3 := Lib.hid (V2.out.step hb3) | have V3 := Lib.hid (V2.out.step2 hb3)); obtain ⟨_, _, _, _, _, _, _, _, _, _⟩ := V3.out.all) | go_skip | go_guarded | go_step | go_upon | (dsimp only []))
                go_loopw [9] (fun i wr => ∃ k : Nat, k ≤ nL ∧ i = .int .i64 k ∧ anyN (fun i => !(kids i).insideB 3 true b7) k = false ∧ VBx wr w.heap.size 3 neg V bits text aL nL cL aK nK cK ∧ Below w.heap.size w wr) (fun i _ => nL - (intOf i).toNat)
                case atStart => exact ⟨0, Nat.zero_le _, rfl, rfl, V3.out, by (repeat first | with_reducible exact Below.refl _ _ | with_reducible assumption | with_reducible refine Below.drew ?_ | with_reducible refine below_alloc ?_ _ | ((with_reducible refine Below.setCell ?_ ?_ _); rotate_left; (focus (first | with_reducible exact Nat.le_refl _ | (simp; done) | (simp; omega) | omega))) | (with_reducible refine below_trans ?_ (by assumption)))⟩
                case round =>
                  obtain ⟨k, hk, rfl, hA, hV, hW⟩ := hrel
                  have HA := Lib.hid hA
                  have VV := Lib.hid hV
                  obtain ⟨_, _, _, _, _, _, _, _, _, _⟩ := hV.all
                  clear hA hV
                  by_cases hkn : k < nL
                  · obtain ⟨b, off, kind', neg', V', bits', text', aL', nL', cL', kids', aK', nK', cK', keys', rfl, hb, hkid, hc, hin'⟩ := kid_lit HL.out HK.out hkn hW
                    have K0 := Lib.hid (show KBx wr b (off + k * 10) kind' neg' V' bits' text' aL' nL' cL' aK' nK' cK' from ⟨hc⟩)
                    have i1 : (k : Int) < (nL : Int) := by omega
                    have i2 : (0 : Int) ≤ (k : Int) := by omega
                    have i5 : (k : Int).toNat = k := rfl
                    obtain ⟨z, hz⟩ : ∃ z : Bool, z = (kids k).insideB 3 true b7 := ⟨_, rfl⟩
                    have HC : ∀ w'' : World, Below wr.heap.size wr w'' → Calls Tryd.prog 34 #[(kids k).agg, .int .i64 3, .bool true, .bool b7] w'' fun e w' => e = .returned (.bool z) ∧ Below w''.heap.size w'' w' := fun w'' hb => by
                      have := IH.out k w'' 3 true b7 (hin'.below hb)
                      rwa [← hz] at this
                    rw [hkid] at HC
                    simp only [VT.agg, VT.cells] at HC
                    have HCK := Lib.hid HC
                    have HX := Lib.hid hz
                    have h7i := H7.out
                    clear hin' hkid hz hc HC
                    cases z with
                    | false =>
                      have e : R = false := by rw [HR2.out, anyN_of (p := fun i => !(kids i).insideB 3 true b7) (by rw [← HX.out]; rfl) hkn]; rfl
                      subst e
                      go_upto_region 10 with fail
                      (obtain ⟨C_, hC⟩ : ∃ C : World → Prop, C = fun w' => Below (wr).heap.size (wr) w' := ⟨_, rfl⟩; have HC := Lib.hid hC; have hne : ∀ p : Prop, (∀ w1 : World, C_ w1 → p) = p := fun p => propext ⟨fun h => h (wr) (by rw [hC]; exact Below.refl _ _), fun h _ _ => h⟩; clear hC; refine wp_region_quiet_cls (C := C_) (by kernel_rfl) (by kernel_rfl) (by rw [HC.out]; exact (Below.refl _ _).drew) ?_)
                      (go_big_quiet_want; go_big_quiet_op; go_big_quiet_on)
                      (go_big_quiet_want; refine ⟨.slice (some ⟨b, off, none⟩) nL cL, fun w1 hw1 => ?_, ?_⟩; (rw [HC.out] at hw1; obtain ⟨_, _, _, _, _⟩ := (VV.out.below hw1).all; simp [Oper.quietAt, go_sem, *]); (try simp only [Act.put, List.setIfInBounds_toArray, List.set_cons_zero, List.set_cons_succ]); go_big_quiet_on)
                      (go_big_quiet_want; go_big_quiet_op; go_big_quiet_on)
                      (go_big_quiet_want; go_big_quiet_op; go_big_quiet_on)
                      (go_big_quiet_want; refine ⟨.agg #[.int .i64 kind', .bool neg', .int .u64 (lm V' 0 : Nat), .int .u64 (lm V' 1 : Nat), .int .u64 (lm V' 2 : Nat), .int .u64 (lm V' 3 : Nat), .int .u64 (bits' : Nat), .string text', .slice aL' nL' cL', .slice aK' nK' cK'], fun w1 hw1 => ?_, ?_⟩; (rw [HC.out] at hw1; obtain ⟨_, _, _, _, _⟩ := (K0.out.below hw1).all; simp [Oper.quietAt, go_sem, *]); (try simp only [Act.put, List.setIfInBounds_toArray, List.set_cons_zero, List.set_cons_succ]); go_big_quiet_on)
                      (go_big_quiet_want; go_big_quiet_op; go_big_quiet_on)
                      (go_big_quiet_want; go_big_quiet_op; go_big_quiet_on)
                      (go_big_quiet_want; refine ⟨.int .i64 3, fun w1 hw1 => ?_, ?_⟩; (rw [HC.out] at hw1; obtain ⟨_, _, _, _, _⟩ := (VV.out.below hw1).all; simp [Oper.quietAt, go_sem, *]); (try simp only [Act.put, List.setIfInBounds_toArray, List.set_cons_zero, List.set_cons_succ]); go_big_quiet_on)
                      (go_big_quiet_want; refine ⟨.bool b7, fun w1 hw1 => ?_, ?_⟩; (rw [HC.out] at hw1; obtain ⟨_, _, _, _, _⟩ := (VV.out.below hw1).all; simp [Oper.quietAt, go_sem, *]); (try simp only [Act.put, List.setIfInBounds_toArray, List.set_cons_zero, List.set_cons_succ]); go_big_quiet_on)
                      (go_big_quiet_want; go_big_quiet_op; refine ⟨.bool false, fun w1 hw1 => ?_, ?_⟩; (rw [HC.out] at hw1 ⊢; with_reducible refine (HCK.out _ hw1).mono ?_; rintro e w4 ⟨rfl, hb4⟩; exact ⟨rfl, below_trans hw1 hb4⟩); go_big_quiet_on)
                      (go_big_quiet_want; go_big_quiet_op; go_big_quiet_on)
                      (refine wpQuiet_nil ?_; intro w2 hw2; rw [HC.out] at hw2)
                      repeat any_goals (first | go_skip | go_guarded | go_step | go_upon | (simp only []; done))
                      exact bodyPost_ret (v := .bool false) (by simp [results, Tryd.results34, go_sem]) rfl ⟨rfl, below_trans hW hw2⟩
                    | true =>
                      go_upto_region 10 with fail
                      (obtain ⟨C_, hC⟩ : ∃ C : World → Prop, C = fun w' => Below (wr).heap.size (wr) w' := ⟨_, rfl⟩; have HC := Lib.hid hC; have hne : ∀ p : Prop, (∀ w1 : World, C_ w1 → p) = p := fun p => propext ⟨fun h => h (wr) (by rw [hC]; exact Below.refl _ _), fun h _ _ => h⟩; clear hC; refine wp_region_quiet_cls (C := C_) (by kernel_rfl) (by kernel_rfl) (by rw [HC.out]; exact (Below.refl _ _).drew) ?_)
                      (go_big_quiet_want; go_big_quiet_op; go_big_quiet_on)
                      (go_big_quiet_want; refine ⟨.slice (some ⟨b, off, none⟩) nL cL, fun w1 hw1 => ?_, ?_⟩; (rw [HC.out] at hw1; obtain ⟨_, _, _, _, _⟩ := (VV.out.below hw1).all; simp [Oper.quietAt, go_sem, *]); (try simp only [Act.put, List.setIfInBounds_toArray, List.set_cons_zero, List.set_cons_succ]); go_big_quiet_on)
                      (go_big_quiet_want; go_big_quiet_op; go_big_quiet_on)
                      (go_big_quiet_want; go_big_quiet_op; go_big_quiet_on)
                      (go_big_quiet_want; refine ⟨.agg #[.int .i64 kind', .bool neg', .int .u64 (lm V' 0 : Nat), .int .u64 (lm V' 1 : Nat), .int .u64 (lm V' 2 : Nat), .int .u64 (lm V' 3 : Nat), .int .u64 (bits' : Nat), .string text', .slice aL' nL' cL', .slice aK' nK' cK'], fun w1 hw1 => ?_, ?_⟩; (rw [HC.out] at hw1; obtain ⟨_, _, _, _, _⟩ := (K0.out.below hw1).all; simp [Oper.quietAt, go_sem, *]); (try simp only [Act.put, List.setIfInBounds_toArray, List.set_cons_zero, List.set_cons_succ]); go_big_quiet_on)
                      (go_big_quiet_want; go_big_quiet_op; go_big_quiet_on)
                      (go_big_quiet_want; go_big_quiet_op; go_big_quiet_on)
                      (go_big_quiet_want; refine ⟨.int .i64 3, fun w1 hw1 => ?_, ?_⟩; (rw [HC.out] at hw1; obtain ⟨_, _, _, _, _⟩ := (VV.out.below hw1).all; simp [Oper.quietAt, go_sem, *]); (try simp only [Act.put, List.setIfInBounds_toArray, List.set_cons_zero, List.set_cons_succ]); go_big_quiet_on)
                      (go_big_quiet_want; refine ⟨.bool b7, fun w1 hw1 => ?_, ?_⟩; (rw [HC.out] at hw1; obtain ⟨_, _, _, _, _⟩ := (VV.out.below hw1).all; simp [Oper.quietAt, go_sem, *]); (try simp only [Act.put, List.setIfInBounds_toArray, List.set_cons_zero, List.set_cons_succ]); go_big_quiet_on)
                      (go_big_quiet_want; go_big_quiet_op; refine ⟨.bool true, fun w1 hw1 => ?_, ?_⟩; (rw [HC.out] at hw1 ⊢; with_reducible refine (HCK.out _ hw1).mono ?_; rintro e w4 ⟨rfl, hb4⟩; exact ⟨rfl, below_trans hw1 hb4⟩); go_big_quiet_on)
                      (go_big_quiet_want; go_big_quiet_op; go_big_quiet_on)
                      (refine wpQuiet_nil ?_; intro w2 hw2; rw [HC.out] at hw2)
                      repeat any_goals (first | go_skip | go_guarded | go_step | go_upon | (simp only []; done))
                      go_roundw
                      case rel => exact ⟨k + 1, by omega, rfl, by simp only [anyN]; rw [HA.out, ← HX.out]; rfl, VV.out.below hw2, below_trans hW hw2⟩
                      case measure => simp [intOf]; omega
                  · have hk' : k = nL := by omega
                    subst hk'
                    have i1 : ¬ (k : Int) < (k : Int) := by omega
                    have e : R = true := by rw [HR2.out, HA.out]; rfl
                    subst e
                    repeat any_goals (first | go_skip | go_guarded | go_step | go_upon | (simp only []; done))
                    exact bodyPost_ret (v := .bool true) (by simp [results, Tryd.results34, go_sem]) rfl ⟨rfl, hW⟩
              | false =>
                have V0 := Lib.hid (show VBx (w.alloc (.cells #[.int .i64 3, .bool neg, .int .u64 (lm V 0 : Nat), .int .u64 (lm V 1 : Nat), .int .u64 (lm V 2 : Nat), .int .u64 (lm V 3 : Nat), .int .u64 (bits : Nat), .string text, .slice aL nL cL, .slice aK nK cK] 30)) w.heap.size 3 neg V bits text aL nL cL aK nK cK from ⟨by simp [go_sem]⟩)
                have e : R = false := by rw [HR.out]; simp [earlyB, *]
                subst e
                clear HR
                go_enter Tryd.func34, Tryd.ntmps34
                repeat any_goals (first | (go_at_call 57; with_reducible refine (C.out.c1 _).mono ?_; rintro e w1 ⟨rfl, hb1⟩; (first | have V1 := Lib.hid (V0.out.below hb1) | have V1 := Lib.hid (V0.out.step hb1) | have V1 := Lib.hid (V0.out.step2 hb1)); obtain ⟨_, _, _, _, _, _, _, _, _, _⟩ := V1.out.all) | (go_at_call 66; with_reducible refine (C.out.c2 _).mono ?_; rintro e w2 ⟨rfl, hb2⟩; (first | have V2 := Lib.hid (V0.out.below hb2) | have V2 := Lib.hid (V0.out.step hb2) | have V2 := Lib.hid (V0.out.step2 hb2)); obtain ⟨_, _, _, _, _, _, _, _, _, _⟩ := V2.out.all) | (go_at_call 67; with_reducible refine (C.out.c3 _).mono ?_; rintro e w3 ⟨rfl, hb3⟩; (first | have V3 := Lib.hid (V2.out.below hb3) | have V3 := Lib.hid (V2.out.step hb3) | have V3 := Lib.hid (V2.out.step2 hb3)); obtain ⟨_, _, _, _, _, _, _, _, _, _⟩ := V3.out.all) | go_skip | go_guarded | go_step | go_upon | (dsimp only []))
                exact bodyPost_ret (v := .bool false) (by simp [results, Tryd.results34, go_sem]) rfl ⟨rfl, by (repeat first | with_reducible exact Below.refl _ _ | with_reducible assumption | with_reducible refine Below.drew ?_ | with_reducible refine below_alloc ?_ _ | ((with_reducible refine Below.setCell ?_ ?_ _); rotate_left; (focus (first | with_reducible exact Nat.le_refl _ | (simp; done) | (simp; omega) | omega))) | (with_reducible refine below_trans ?_ (by assumption)))⟩
        · have k3i : (kind == 3) = false := by simpa using k3
          cases array with
          | false =>
            have V0 := Lib.hid (show VBx (w.alloc (.cells #[.int .i64 kind, .bool neg, .int .u64 (lm V 0 : Nat), .int .u64 (lm V 1 : Nat), .int .u64 (lm V 2 : Nat), .int .u64 (lm V 3 : Nat), .int .u64 (bits : Nat), .string text, .slice aL nL cL, .slice aK nK cK] 30)) w.heap.size kind neg V bits text aL nL cL aK nK cK from ⟨by simp [go_sem]⟩)
            have HR2 : Hid (R = !anyN (fun i => !(kids i).insideB 3 true b7) nL) := Lib.hid (by rw [HR.out]; simp [earlyB, *])
            clear HR
            go_enter Tryd.func34, Tryd.ntmps34
            repeat any_goals (first | (go_at_call 57; with_reducible refine (C.out.c1 _).mono ?_; rintro e w1 ⟨rfl, hb1⟩; (first | have V1 := Lib.hid (V0.out.below hb1) | have V1 := Lib.hid (V0.out.step hb1) | have V1 := Lib.hid (V0.out.step2 hb1)); obtain ⟨_, _, _, _, _, _, _, _, _, _⟩ := V1.out.all) | (go_at_call 66; with_reducible refine (C.out.c2 _).mono ?_; rintro e w2 ⟨rfl, hb2⟩; (first | have V2 := Lib.hid (V0.out.below hb2) | have V2 := Lib.hid (V0.out.step hb2) | have V2 := Lib.hid (V0.out.step2 hb2)); obtain ⟨_, _, _, _, _, _, _, _, _, _⟩ := V2.out.all) | (go_at_call 67; with_reducible refine (C.out.c3 _).mono ?_; rintro e w3 ⟨rfl, hb3⟩; (first | have V3 := Lib.hid (V2.out.below hb3) | have V3 := Lib.hid (V2.out.step hb3) | have V3 := Lib.hid (V2.out.step2 hb3)); obtain ⟨_, _, _, _, _, _, _, _, _, _⟩ := V3.out.all) | go_skip | go_guarded | go_step | go_upon | (dsimp only []))
            go_loopw [9] (fun i wr => ∃ k : Nat, k ≤ nL ∧ i = .int .i64 k ∧ anyN (fun i => !(kids i).insideB 3 true b7) k = false ∧ VBx wr w.heap.size kind neg V bits text aL nL cL aK nK cK ∧ Below w.heap.size w wr) (fun i _ => nL - (intOf i).toNat)
            case atStart => exact ⟨0, Nat.zero_le _, rfl, rfl, V0.out, by (repeat first | with_reducible exact Below.refl _ _ | with_reducible assumption | with_reducible refine Below.drew ?_ | with_reducible refine below_alloc ?_ _ | ((with_reducible refine Below.setCell ?_ ?_ _); rotate_left; (focus (first | with_reducible exact Nat.le_refl _ | (simp; done) | (simp; omega) | omega))) | (with_reducible refine below_trans ?_ (by assumption)))⟩
            case round =>
              obtain ⟨k, hk, rfl, hA, hV, hW⟩ := hrel
              have HA := Lib.hid hA
              have VV := Lib.hid hV
              obtain ⟨_, _, _, _, _, _, _, _, _, _⟩ := hV.all
              clear hA hV
              by_cases hkn : k < nL
              · obtain ⟨b, off, kind', neg', V', bits', text', aL', nL', cL', kids', aK', nK', cK', keys', rfl, hb, hkid, hc, hin'⟩ := kid_lit HL.out HK.out hkn hW
                have K0 := Lib.hid (show KBx wr b (off + k * 10) kind' neg' V' bits' text' aL' nL' cL' aK' nK' cK' from ⟨hc⟩)
                have i1 : (k : Int) < (nL : Int) := by omega
                have i2 : (0 : Int) ≤ (k : Int) := by omega
                have i5 : (k : Int).toNat = k := rfl
                obtain ⟨z, hz⟩ : ∃ z : Bool, z = (kids k).insideB 3 true b7 := ⟨_, rfl⟩
                have HC : ∀ w'' : World, Below wr.heap.size wr w'' → Calls Tryd.prog 34 #[(kids k).agg, .int .i64 3, .bool true, .bool b7] w'' fun e w' => e = .returned (.bool z) ∧ Below w''.heap.size w'' w' := fun w'' hb => by
                  have := IH.out k w'' 3 true b7 (hin'.below hb)
                  rwa [← hz] at this
                rw [hkid] at HC
                simp only [VT.agg, VT.cells] at HC
                have HCK := Lib.hid HC
                have HX := Lib.hid hz
                have h7i := H7.out
                clear hin' hkid hz hc HC
                cases z with
                | false =>
                  have e : R = false := by rw [HR2.out, anyN_of (p := fun i => !(kids i).insideB 3 true b7) (by rw [← HX.out]; rfl) hkn]; rfl
                  subst e
                  go_upto_region 10 with fail
                  (obtain ⟨C_, hC⟩ : ∃ C : World → Prop, C = fun w' => Below (wr).heap.size (wr) w' := ⟨_, rfl⟩; have HC := Lib.hid hC; have hne : ∀ p : Prop, (∀ w1 : World, C_ w1 → p) = p := fun p => propext ⟨fun h => h (wr) (by rw [hC]; exact Below.refl _ _), fun h _ _ => h⟩; clear hC; refine wp_region_quiet_cls (C := C_) (by kernel_rfl) (by kernel_rfl) (by rw [HC.out]; exact (Below.refl _ _).drew) ?_)
                  (go_big_quiet_want; go_big_quiet_op; go_big_quiet_on)
                  (go_big_quiet_want; refine ⟨.slice (some ⟨b, off, none⟩) nL cL, fun w1 hw1 => ?_, ?_⟩; (rw [HC.out] at hw1; obtain ⟨_, _, _, _, _⟩ := (VV.out.below hw1).all; simp [Oper.quietAt, go_sem, *]); (try simp only [Act.put, List.setIfInBounds_toArray, List.set_cons_zero, List.set_cons_succ]); go_big_quiet_on)
                  (go_big_quiet_want; go_big_quiet_op; go_big_quiet_on)
                  (go_big_quiet_want; go_big_quiet_op; go_big_quiet_on)
                  (go_big_quiet_want; refine ⟨.agg #[.int .i64 kind', .bool neg', .int .u64 (lm V' 0 : Nat), .int .u64 (lm V' 1 : Nat), .int .u64 (lm V' 2 : Nat), .int .u64 (lm V' 3 : Nat), .int .u64 (bits' : Nat), .string text', .slice aL' nL' cL', .slice aK' nK' cK'], fun w1 hw1 => ?_, ?_⟩; (rw [HC.out] at hw1; obtain ⟨_, _, _, _, _⟩ := (K0.out.below hw1).all; simp [Oper.quietAt, go_sem, *]); (try simp only [Act.put, List.setIfInBounds_toArray, List.set_cons_zero, List.set_cons_succ]); go_big_quiet_on)
                  (go_big_quiet_want; go_big_quiet_op; go_big_quiet_on)
                  (go_big_quiet_want; go_big_quiet_op; go_big_quiet_on)
                  (go_big_quiet_want; refine ⟨.int .i64 kind, fun w1 hw1 => ?_, ?_⟩; (rw [HC.out] at hw1; obtain ⟨_, _, _, _, _⟩ := (VV.out.below hw1).all; simp [Oper.quietAt, go_sem, *]); (try simp only [Act.put, List.setIfInBounds_toArray, List.set_cons_zero, List.set_cons_succ]); go_big_quiet_on)
                  (go_big_quiet_want; refine ⟨.bool b7, fun w1 hw1 => ?_, ?_⟩; (rw [HC.out] at hw1; obtain ⟨_, _, _, _, _⟩ := (VV.out.below hw1).all; simp [Oper.quietAt, go_sem, *]); (try simp only [Act.put, List.setIfInBounds_toArray, List.set_cons_zero, List.set_cons_succ]); go_big_quiet_on)
                  (go_big_quiet_want; go_big_quiet_op; refine ⟨.bool false, fun w1 hw1 => ?_, ?_⟩; (rw [HC.out] at hw1 ⊢; with_reducible refine (HCK.out _ hw1).mono ?_; rintro e w4 ⟨rfl, hb4⟩; exact ⟨rfl, below_trans hw1 hb4⟩); go_big_quiet_on)
                  (go_big_quiet_want; go_big_quiet_op; go_big_quiet_on)
                  (refine wpQuiet_nil ?_; intro w2 hw2; rw [HC.out] at hw2)
                  repeat any_goals (first | go_skip | go_guarded | go_step | go_upon | (simp only []; done))
                  exact bodyPost_ret (v := .bool false) (by simp [results, Tryd.results34, go_sem]) rfl ⟨rfl, below_trans hW hw2⟩
                | true =>
                  go_upto_region 10 with fail
                  (obtain ⟨C_, hC⟩ : ∃ C : World → Prop, C = fun w' => Below (wr).heap.size (wr) w' := ⟨_, rfl⟩; have HC := Lib.hid hC; have hne : ∀ p : Prop, (∀ w1 : World, C_ w1 → p) = p := fun p => propext ⟨fun h => h (wr) (by rw [hC]; exact Below.refl _ _), fun h _ _ => h⟩; clear hC; refine wp_region_quiet_cls (C := C_) (by kernel_rfl) (by kernel_rfl) (by rw [HC.out]; exact (Below.refl _ _).drew) ?_)
                  (go_big_quiet_want; go_big_quiet_op; go_big_quiet_on)
                  (go_big_quiet_want; refine ⟨.slice (some ⟨b, off, none⟩) nL cL, fun w1 hw1 => ?_, ?_⟩; (rw [HC.out] at hw1; obtain ⟨_, _, _, _, _⟩ := (VV.out.below hw1).all; simp [Oper.quietAt, go_sem, *]); (try simp only [Act.put, List.setIfInBounds_toArray, List.set_cons_zero, List.set_cons_succ]); go_big_quiet_on)
                  (go_big_quiet_want; go_big_quiet_op; go_big_quiet_on)
                  (go_big_quiet_want; go_big_quiet_op; go_big_quiet_on)
                  (go_big_quiet_want; refine ⟨.agg #[.int .i64 kind', .bool neg', .int .u64 (lm V' 0 : Nat), .int .u64 (lm V' 1 : Nat), .int .u64 (lm V' 2 : Nat), .int .u64 (lm V' 3 : Nat), .int .u64 (bits' : Nat), .string text', .slice aL' nL' cL', .slice aK' nK' cK'], fun w1 hw1 => ?_, ?_⟩; (rw [HC.out] at hw1; obtain ⟨_, _, _, _, _⟩ := (K0.out.below hw1).all; simp [Oper.quietAt, go_sem, *]); (try simp only [Act.put, List.setIfInBounds_toArray, List.set_cons_zero, List.set_cons_succ]); go_big_quiet_on)
                  (go_big_quiet_want; go_big_quiet_op; go_big_quiet_on)
                  (go_big_quiet_want; go_big_quiet_op; go_big_quiet_on)
                  (go_big_quiet_want; refine ⟨.int .i64 kind, fun w1 hw1 => ?_, ?_⟩; (rw [HC.out] at hw1; obtain ⟨_, _, _, _, _⟩ := (VV.out.below hw1).all; simp [Oper.quietAt, go_sem, *]); (try simp only [Act.put, List.setIfInBounds_toArray, List.set_cons_zero, List.set_cons_succ]); go_big_quiet_on)
                  (go_big_quiet_want; refine ⟨.bool b7, fun w1 hw1 => ?_, ?_⟩; (rw [HC.out] at hw1; obtain ⟨_, _, _, _, _⟩ := (VV.out.below hw1).all; simp [Oper.quietAt, go_sem, *]); (try simp only [Act.put, List.setIfInBounds_toArray, List.set_cons_zero, List.set_cons_succ]); go_big_quiet_on)
                  (go_big_quiet_want; go_big_quiet_op; refine ⟨.bool true, fun w1 hw1 => ?_, ?_⟩; (rw [HC.out] at hw1 ⊢; with_reducible refine (HCK.out _ hw1).mono ?_; rintro e w4 ⟨rfl, hb4⟩; exact ⟨rfl, below_trans hw1 hb4⟩); go_big_quiet_on)
                  (go_big_quiet_want; go_big_quiet_op; go_big_quiet_on)
                  (refine wpQuiet_nil ?_; intro w2 hw2; rw [HC.out] at hw2)
                  repeat any_goals (first | go_skip | go_guarded | go_step | go_upon | (simp only []; done))
                  go_roundw
                  case rel => exact ⟨k + 1, by omega, rfl, by simp only [anyN]; rw [HA.out, ← HX.out]; rfl, VV.out.below hw2, below_trans hW hw2⟩
                  case measure => simp [intOf]; omega
              · have hk' : k = nL := by omega
                subst hk'
                have i1 : ¬ (k : Int) < (k : Int) := by omega
                have e : R = true := by rw [HR2.out, HA.out]; rfl
                subst e
                repeat any_goals (first | go_skip | go_guarded | go_step | go_upon | (simp only []; done))
                exact bodyPost_ret (v := .bool true) (by simp [results, Tryd.results34, go_sem]) rfl ⟨rfl, hW⟩
          | true =>
            by_cases k7 : kind = 7
            · subst k7
              have V0 := Lib.hid (show VBx (w.alloc (.cells #[.int .i64 7, .bool neg, .int .u64 (lm V 0 : Nat), .int .u64 (lm V 1 : Nat), .int .u64 (lm V 2 : Nat), .int .u64 (lm V 3 : Nat), .int .u64 (bits : Nat), .string text, .slice aL nL cL, .slice aK nK cK] 30)) w.heap.size 7 neg V bits text aL nL cL aK nK cK from ⟨by simp [go_sem]⟩)
              have e : R = false := by rw [HR.out]; simp [earlyB, *]
              subst e
              clear HR
              go_enter Tryd.func34, Tryd.ntmps34
              repeat any_goals (first | (go_at_call 57; with_reducible refine (C.out.c1 _).mono ?_; rintro e w1 ⟨rfl, hb1⟩; (first | have V1 := Lib.hid (V0.out.below hb1) | have V1 := Lib.hid (V0.out.step hb1) | have V1 := Lib.hid (V0.out.step2 hb1)); obtain ⟨_, _, _, _, _, _, _, _, _, _⟩ := V1.out.all) | (go_at_call 66; with_reducible refine (C.out.c2 _).mono ?_; rintro e w2 ⟨rfl, hb2⟩; (first | have V2 := Lib.hid (V0.out.below hb2) | have V2 := Lib.hid (V0.out.step hb2) | have V2 := Lib.hid (V0.out.step2 hb2)); obtain ⟨_, _, _, _, _, _, _, _, _, _⟩ := V2.out.all) | (go_at_call 67; with_reducible refine (C.out.c3 _).mono ?_; rintro e w3 ⟨rfl, hb3⟩; (first | have V3 := Lib.hid (V2.out.below hb3) | have V3 := Lib.hid (V2.out.step hb3) | have V3 := Lib.hid (V2.out.step2 hb3)); obtain ⟨_, _, _, _, _, _, _, _, _, _⟩ := V3.out.all) | go_skip | go_guarded | go_step | go_upon | (dsimp only []))
              exact bodyPost_ret (v := .bool false) (by simp [results, Tryd.results34, go_sem]) rfl ⟨rfl, by (repeat first | with_reducible exact Below.refl _ _ | with_reducible assumption | with_reducible refine Below.drew ?_ | with_reducible refine below_alloc ?_ _ | ((with_reducible refine Below.setCell ?_ ?_ _); rotate_left; (focus (first | with_reducible exact Nat.le_refl _ | (simp; done) | (simp; omega) | omega))) | (with_reducible refine below_trans ?_ (by assumption)))⟩
            · have k7i : (kind == 7) = false := by simpa using k7
              obtain rfl : b7 = false := by rw [← H7.out]; exact k7i
              have V0 := Lib.hid (show VBx (w.alloc (.cells #[.int .i64 kind, .bool neg, .int .u64 (lm V 0 : Nat), .int .u64 (lm V 1 : Nat), .int .u64 (lm V 2 : Nat), .int .u64 (lm V 3 : Nat), .int .u64 (bits : Nat), .string text, .slice aL nL cL, .slice aK nK cK] 30)) w.heap.size kind neg V bits text aL nL cL aK nK cK from ⟨by simp [go_sem]⟩)
              have HR2 : Hid (R = !anyN (fun i => !(kids i).insideB 3 true false) nL) := Lib.hid (by rw [HR.out]; simp [earlyB, *])
              clear HR
              go_enter Tryd.func34, Tryd.ntmps34
              repeat any_goals (first | (go_at_call 57; with_reducible refine (C.out.c1 _).mono ?_; rintro e w1 ⟨rfl, hb1⟩; (first | have V1 := Lib.hid (V0.out.below hb1) | have V1 := Lib.hid (V0.out.step hb1) | have V1 := Lib.hid (V0.out.step2 hb1)); obtain ⟨_, _, _, _, _, _, _, _, _, _⟩ := V1.out.all) | (go_at_call 66; with_reducible refine (C.out.c2 _).mono ?_; rintro e w2 ⟨rfl, hb2⟩; (first | have V2 := Lib.hid (V0.out.below hb2) | have V2 := Lib.hid (V0.out.step hb2) | have V2 := Lib.hid (V0.out.step2 hb2)); obtain ⟨_, _, _, _, _, _, _, _, _, _⟩ := V2.out.all) | (go_at_call 67; with_reducible refine (C.out.c3 _).mono ?_; rintro e w3 ⟨rfl, hb3⟩; (first | have V3 := Lib.hid (V2.out.below hb3) | have V3 := Lib.hid (V2.out.step hb3) | have V3 := Lib.hid (V2.out.step2 hb3)); obtain ⟨_, _, _, _, _, _, _, _, _, _⟩ := V3.out.all) | go_skip | go_guarded | go_step | go_upon | (dsimp only []))
              go_loopw [9] (fun i wr => ∃ k : Nat, k ≤ nL ∧ i = .int .i64 k ∧ anyN (fun i => !(kids i).insideB 3 true false) k = false ∧ VBx wr w.heap.size kind neg V bits text aL nL cL aK nK cK ∧ Below w.heap.size w wr) (fun i _ => nL - (intOf i).toNat)
              case atStart => exact ⟨0, Nat.zero_le _, rfl, rfl, V0.out, by (repeat first | with_reducible exact Below.refl _ _ | with_reducible assumption | with_reducible refine Below.drew ?_ | with_reducible refine below_alloc ?_ _ | ((with_reducible refine Below.setCell ?_ ?_ _); rotate_left; (focus (first | with_reducible exact Nat.le_refl _ | (simp; done) | (simp; omega) | omega))) | (with_reducible refine below_trans ?_ (by assumption)))⟩
              case round =>
                obtain ⟨k, hk, rfl, hA, hV, hW⟩ := hrel
                have HA := Lib.hid hA
                have VV := Lib.hid hV
                obtain ⟨_, _, _, _, _, _, _, _, _, _⟩ := hV.all
                clear hA hV
                by_cases hkn : k < nL
                · obtain ⟨b, off, kind', neg', V', bits', text', aL', nL', cL', kids', aK', nK', cK', keys', rfl, hb, hkid, hc, hin'⟩ := kid_lit HL.out HK.out hkn hW
                  have K0 := Lib.hid (show KBx wr b (off + k * 10) kind' neg' V' bits' text' aL' nL' cL' aK' nK' cK' from ⟨hc⟩)
                  have i1 : (k : Int) < (nL : Int) := by omega
                  have i2 : (0 : Int) ≤ (k : Int) := by omega
                  have i5 : (k : Int).toNat = k := rfl
                  obtain ⟨z, hz⟩ : ∃ z : Bool, z = (kids k).insideB 3 true false := ⟨_, rfl⟩
                  have HC : ∀ w'' : World, Below wr.heap.size wr w'' → Calls Tryd.prog 34 #[(kids k).agg, .int .i64 3, .bool true, .bool false] w'' fun e w' => e = .returned (.bool z) ∧ Below w''.heap.size w'' w' := fun w'' hb => by
                    have := IH.out k w'' 3 true false (hin'.below hb)
                    rwa [← hz] at this
                  rw [hkid] at HC
                  simp only [VT.agg, VT.cells] at HC
                  have HCK := Lib.hid HC
                  have HX := Lib.hid hz
                  have h7i := H7.out
                  clear hin' hkid hz hc HC
                  cases z with
                  | false =>
                    have e : R = false := by rw [HR2.out, anyN_of (p := fun i => !(kids i).insideB 3 true false) (by rw [← HX.out]; rfl) hkn]; rfl
                    subst e
                    go_upto_region 10 with fail
                    (obtain ⟨C_, hC⟩ : ∃ C : World → Prop, C = fun w' => Below (wr).heap.size (wr) w' := ⟨_, rfl⟩; have HC := Lib.hid hC; have hne : ∀ p : Prop, (∀ w1 : World, C_ w1 → p) = p := fun p => propext ⟨fun h => h (wr) (by rw [hC]; exact Below.refl _ _), fun h _ _ => h⟩; clear hC; refine wp_region_quiet_cls (C := C_) (by kernel_rfl) (by kernel_rfl) (by rw [HC.out]; exact (Below.refl _ _).drew) ?_)
                    (go_big_quiet_want; go_big_quiet_op; go_big_quiet_on)
                    (go_big_quiet_want; refine ⟨.slice (some ⟨b, off, none⟩) nL cL, fun w1 hw1 => ?_, ?_⟩; (rw [HC.out] at hw1; obtain ⟨_, _, _, _, _⟩ := (VV.out.below hw1).all; simp [Oper.quietAt, go_sem, *]); (try simp only [Act.put, List.setIfInBounds_toArray, List.set_cons_zero, List.set_cons_succ]); go_big_quiet_on)
                    (go_big_quiet_want; go_big_quiet_op; go_big_quiet_on)
                    (go_big_quiet_want; go_big_quiet_op; go_big_quiet_on)
                    (go_big_quiet_want; refine ⟨.agg #[.int .i64 kind', .bool neg', .int .u64 (lm V' 0 : Nat), .int .u64 (lm V' 1 : Nat), .int .u64 (lm V' 2 : Nat), .int .u64 (lm V' 3 : Nat), .int .u64 (bits' : Nat), .string text', .slice aL' nL' cL', .slice aK' nK' cK'], fun w1 hw1 => ?_, ?_⟩; (rw [HC.out] at hw1; obtain ⟨_, _, _, _, _⟩ := (K0.out.below hw1).all; simp [Oper.quietAt, go_sem, *]); (try simp only [Act.put, List.setIfInBounds_toArray, List.set_cons_zero, List.set_cons_succ]); go_big_quiet_on)
                    (go_big_quiet_want; go_big_quiet_op; go_big_quiet_on)
                    (go_big_quiet_want; go_big_quiet_op; go_big_quiet_on)
                    (go_big_quiet_want; refine ⟨.int .i64 kind, fun w1 hw1 => ?_, ?_⟩; (rw [HC.out] at hw1; obtain ⟨_, _, _, _, _⟩ := (VV.out.below hw1).all; simp [Oper.quietAt, go_sem, *]); (try simp only [Act.put, List.setIfInBounds_toArray, List.set_cons_zero, List.set_cons_succ]); go_big_quiet_on)
                    (go_big_quiet_want; refine ⟨.bool false, fun w1 hw1 => ?_, ?_⟩; (rw [HC.out] at hw1; obtain ⟨_, _, _, _, _⟩ := (VV.out.below hw1).all; simp [Oper.quietAt, go_sem, *]); (try simp only [Act.put, List.setIfInBounds_toArray, List.set_cons_zero, List.set_cons_succ]); go_big_quiet_on)
                    (go_big_quiet_want; go_big_quiet_op; refine ⟨.bool false, fun w1 hw1 => ?_, ?_⟩; (rw [HC.out] at hw1 ⊢; with_reducible refine (HCK.out _ hw1).mono ?_; rintro e w4 ⟨rfl, hb4⟩; exact ⟨rfl, below_trans hw1 hb4⟩); go_big_quiet_on)
                    (go_big_quiet_want; go_big_quiet_op; go_big_quiet_on)
                    (refine wpQuiet_nil ?_; intro w2 hw2; rw [HC.out] at hw2)
                    repeat any_goals (first | go_skip | go_guarded | go_step | go_upon | (simp only []; done))
                    exact bodyPost_ret (v := .bool false) (by simp [results, Tryd.results34, go_sem]) rfl ⟨rfl, below_trans hW hw2⟩
                  | true =>
                    go_upto_region 10 with fail
                    (obtain ⟨C_, hC⟩ : ∃ C : World → Prop, C = fun w' => Below (wr).heap.size (wr) w' := ⟨_, rfl⟩; have HC := Lib.hid hC; have hne : ∀ p : Prop, (∀ w1 : World, C_ w1 → p) = p := fun p => propext ⟨fun h => h (wr) (by rw [hC]; exact Below.refl _ _), fun h _ _ => h⟩; clear hC; refine wp_region_quiet_cls (C := C_) (by kernel_rfl) (by kernel_rfl) (by rw [HC.out]; exact (Below.refl _ _).drew) ?_)
                    (go_big_quiet_want; go_big_quiet_op; go_big_quiet_on)
                    (go_big_quiet_want; refine ⟨.slice (some ⟨b, off, none⟩) nL cL, fun w1 hw1 => ?_, ?_⟩; (rw [HC.out] at hw1; obtain ⟨_, _, _, _, _⟩ := (VV.out.below hw1).all; simp [Oper.quietAt, go_sem, *]); (try simp only [Act.put, List.setIfInBounds_toArray, List.set_cons_zero, List.set_cons_succ]); go_big_quiet_on)
                    (go_big_quiet_want; go_big_quiet_op; go_big_quiet_on)
                    (go_big_quiet_want; go_big_quiet_op; go_big_quiet_on)
                    (go_big_quiet_want; refine ⟨.agg #[.int .i64 kind', .bool neg', .int .u64 (lm V' 0 : Nat), .int .u64 (lm V' 1 : Nat), .int .u64 (lm V' 2 : Nat), .int .u64 (lm V' 3 : Nat), .int .u64 (bits' : Nat), .string text', .slice aL' nL' cL', .slice aK' nK' cK'], fun w1 hw1 => ?_, ?_⟩; (rw [HC.out] at hw1; obtain ⟨_, _, _, _, _⟩ := (K0.out.below hw1).all; simp [Oper.quietAt, go_sem, *]); (try simp only [Act.put, List.setIfInBounds_toArray, List.set_cons_zero, List.set_cons_succ]); go_big_quiet_on)
                    (go_big_quiet_want; go_big_quiet_op; go_big_quiet_on)
                    (go_big_quiet_want; go_big_quiet_op; go_big_quiet_on)
                    (go_big_quiet_want; refine ⟨.int .i64 kind, fun w1 hw1 => ?_, ?_⟩; (rw [HC.out] at hw1; obtain ⟨_, _, _, _, _⟩ := (VV.out.below hw1).all; simp [Oper.quietAt, go_sem, *]); (try simp only [Act.put, List.setIfInBounds_toArray, List.set_cons_zero, List.set_cons_succ]); go_big_quiet_on)
                    (go_big_quiet_want; refine ⟨.bool false, fun w1 hw1 => ?_, ?_⟩; (rw [HC.out] at hw1; obtain ⟨_, _, _, _, _⟩ := (VV.out.below hw1).all; simp [Oper.quietAt, go_sem, *]); (try simp only [Act.put, List.setIfInBounds_toArray, List.set_cons_zero, List.set_cons_succ]); go_big_quiet_on)
                    (go_big_quiet_want; go_big_quiet_op; refine ⟨.bool true, fun w1 hw1 => ?_, ?_⟩; (rw [HC.out] at hw1 ⊢; with_reducible refine (HCK.out _ hw1).mono ?_; rintro e w4 ⟨rfl, hb4⟩; exact ⟨rfl, below_trans hw1 hb4⟩); go_big_quiet_on)
                    (go_big_quiet_want; go_big_quiet_op; go_big_quiet_on)
                    (refine wpQuiet_nil ?_; intro w2 hw2; rw [HC.out] at hw2)
                    repeat any_goals (first | go_skip | go_guarded | go_step | go_upon | (simp only []; done))
                    go_roundw
                    case rel => exact ⟨k + 1, by omega, rfl, by simp only [anyN]; rw [HA.out, ← HX.out]; rfl, VV.out.below hw2, below_trans hW hw2⟩
                    case measure => simp [intOf]; omega
                · have hk' : k = nL := by omega
                  subst hk'
                  have i1 : ¬ (k : Int) < (k : Int) := by omega
                  have e : R = true := by rw [HR2.out, HA.out]; rfl
                  subst e
                  repeat any_goals (first | go_skip | go_guarded | go_step | go_upon | (simp only []; done))
                  exact bodyPost_ret (v := .bool true) (by simp [results, Tryd.results34, go_sem]) rfl ⟨rfl, hW⟩
    · have l3i : (lang == 3) = false := by simpa using l3
      have V0 := Lib.hid (show VBx (w.alloc (.cells #[.int .i64 kind, .bool neg, .int .u64 (lm V 0 : Nat), .int .u64 (lm V 1 : Nat), .int .u64 (lm V 2 : Nat), .int .u64 (lm V 3 : Nat), .int .u64 (bits : Nat), .string text, .slice aL nL cL, .slice aK nK cK] 30)) w.heap.size kind neg V bits text aL nL cL aK nK cK from ⟨by simp [go_sem]⟩)
      have HR2 : Hid (R = !anyN (fun i => !(kids i).insideB lang true b7) nL) := Lib.hid (by rw [HR.out]; simp [earlyB, *])
      clear HR
      go_enter Tryd.func34, Tryd.ntmps34
      repeat any_goals (first | (go_at_call 57; with_reducible refine (C.out.c1 _).mono ?_; rintro e w1 ⟨rfl, hb1⟩; (first | have V1 := Lib.hid (V0.out.below hb1) | have V1 := Lib.hid (V0.out.step hb1) | have V1 := Lib.hid (V0.out.step2 hb1)); obtain ⟨_, _, _, _, _, _, _, _, _, _⟩ := V1.out.all) | (go_at_call 66; with_reducible refine (C.out.c2 _).mono ?_; rintro e w2 ⟨rfl, hb2⟩; (first | have V2 := Lib.hid (V0.out.below hb2) | have V2 := Lib.hid (V0.out.step hb2) | have V2 := Lib.hid (V0.out.step2 hb2)); obtain ⟨_, _, _, _, _, _, _, _, _, _⟩ := V2.out.all) | (go_at_call 67; with_reducible refine (C.out.c3 _).mono ?_; rintro e w3 ⟨rfl, hb3⟩; (first | have V3 := Lib.hid (V2.out.below hb3) | have V3 := Lib.hid (V2.out.step hb3) | have V3 := Lib.hid (V2.out.step2 hb3)); obtain ⟨_, _, _, _, _, _, _, _, _, _⟩ := V3.out.all) | go_skip | go_guarded | go_step | go_upon | (dsimp only []))
      go_loopw [9] (fun i wr => ∃ k : Nat, k ≤ nL ∧ i = .int .i64 k ∧ anyN (fun i => !(kids i).insideB lang true b7) k = false ∧ VBx wr w.heap.size kind neg V bits text aL nL cL aK nK cK ∧ Below w.heap.size w wr) (fun i _ => nL - (intOf i).toNat)
      case atStart => exact ⟨0, Nat.zero_le _, rfl, rfl, V0.out, by (repeat first | with_reducible exact Below.refl _ _ | with_reducible assumption | with_reducible refine Below.drew ?_ | with_reducible refine below_alloc ?_ _ | ((with_reducible refine Below.setCell ?_ ?_ _); rotate_left; (focus (first | with_reducible exact Nat.le_refl _ | (simp; done) | (simp; omega) | omega))) | (with_reducible refine below_trans ?_ (by assumption)))⟩
      case round =>
        obtain ⟨k, hk, rfl, hA, hV, hW⟩ := hrel
        have HA := Lib.hid hA
        have VV := Lib.hid hV
        obtain ⟨_, _, _, _, _, _, _, _, _, _⟩ := hV.all
        clear hA hV
        by_cases hkn : k < nL
        · obtain ⟨b, off, kind', neg', V', bits', text', aL', nL', cL', kids', aK', nK', cK', keys', rfl, hb, hkid, hc, hin'⟩ := kid_lit HL.out HK.out hkn hW
          have K0 := Lib.hid (show KBx wr b (off + k * 10) kind' neg' V' bits' text' aL' nL' cL' aK' nK' cK' from ⟨hc⟩)
          have i1 : (k : Int) < (nL : Int) := by omega
          have i2 : (0 : Int) ≤ (k : Int) := by omega
          have i5 : (k : Int).toNat = k := rfl
          obtain ⟨z, hz⟩ : ∃ z : Bool, z = (kids k).insideB lang true b7 := ⟨_, rfl⟩
          have HC : ∀ w'' : World, Below wr.heap.size wr w'' → Calls Tryd.prog 34 #[(kids k).agg, .int .i64 lang, .bool true, .bool b7] w'' fun e w' => e = .returned (.bool z) ∧ Below w''.heap.size w'' w' := fun w'' hb => by
            have := IH.out k w'' lang true b7 (hin'.below hb)
            rwa [← hz] at this
          rw [hkid] at HC
          simp only [VT.agg, VT.cells] at HC
          have HCK := Lib.hid HC
          have HX := Lib.hid hz
          have h7i := H7.out
          clear hin' hkid hz hc HC
          cases z with
          | false =>
            have e : R = false := by rw [HR2.out, anyN_of (p := fun i => !(kids i).insideB lang true b7) (by rw [← HX.out]; rfl) hkn]; rfl
            subst e
            go_upto_region 10 with fail
            (obtain ⟨C_, hC⟩ : ∃ C : World → Prop, C = fun w' => Below (wr).heap.size (wr) w' := ⟨_, rfl⟩; have HC := Lib.hid hC; have hne : ∀ p : Prop, (∀ w1 : World, C_ w1 → p) = p := fun p => propext ⟨fun h => h (wr) (by rw [hC]; exact Below.refl _ _), fun h _ _ => h⟩; clear hC; refine wp_region_quiet_cls (C := C_) (by kernel_rfl) (by kernel_rfl) (by rw [HC.out]; exact (Below.refl _ _).drew) ?_)
            (go_big_quiet_want; go_big_quiet_op; go_big_quiet_on)
            (go_big_quiet_want; refine ⟨.slice (some ⟨b, off, none⟩) nL cL, fun w1 hw1 => ?_, ?_⟩; (rw [HC.out] at hw1; obtain ⟨_, _, _, _, _⟩ := (VV.out.below hw1).all; simp [Oper.quietAt, go_sem, *]); (try simp only [Act.put, List.setIfInBounds_toArray, List.set_cons_zero, List.set_cons_succ]); go_big_quiet_on)
            (go_big_quiet_want; go_big_quiet_op; go_big_quiet_on)
            (go_big_quiet_want; go_big_quiet_op; go_big_quiet_on)
            (go_big_quiet_want; refine ⟨.agg #[.int .i64 kind', .bool neg', .int .u64 (lm V' 0 : Nat), .int .u64 (lm V' 1 : Nat), .int .u64 (lm V' 2 : Nat), .int .u64 (lm V' 3 : Nat), .int .u64 (bits' : Nat), .string text', .slice aL' nL' cL', .slice aK' nK' cK'], fun w1 hw1 => ?_, ?_⟩; (rw [HC.out] at hw1; obtain ⟨_, _, _, _, _⟩ := (K0.out.below hw1).all; simp [Oper.quietAt, go_sem, *]); (try simp only [Act.put, List.setIfInBounds_toArray, List.set_cons_zero, List.set_cons_succ]); go_big_quiet_on)
            (go_big_quiet_want; go_big_quiet_op; go_big_quiet_on)
            (go_big_quiet_want; go_big_quiet_op; go_big_quiet_on)
            (go_big_quiet_want; refine ⟨.int .i64 kind, fun w1 hw1 => ?_, ?_⟩; (rw [HC.out] at hw1; obtain ⟨_, _, _, _, _⟩ := (VV.out.below hw1).all; simp [Oper.quietAt, go_sem, *]); (try simp only [Act.put, List.setIfInBounds_toArray, List.set_cons_zero, List.set_cons_succ]); go_big_quiet_on)
            (go_big_quiet_want; refine ⟨.bool b7, fun w1 hw1 => ?_, ?_⟩; (rw [HC.out] at hw1; obtain ⟨_, _, _, _, _⟩ := (VV.out.below hw1).all; simp [Oper.quietAt, go_sem, *]); (try simp only [Act.put, List.setIfInBounds_toArray, List.set_cons_zero, List.set_cons_succ]); go_big_quiet_on)
            (go_big_quiet_want; go_big_quiet_op; refine ⟨.bool false, fun w1 hw1 => ?_, ?_⟩; (rw [HC.out] at hw1 ⊢; with_reducible refine (HCK.out _ hw1).mono ?_; rintro e w4 ⟨rfl, hb4⟩; exact ⟨rfl, below_trans hw1 hb4⟩); go_big_quiet_on)
            (go_big_quiet_want; go_big_quiet_op; go_big_quiet_on)
            (refine wpQuiet_nil ?_; intro w2 hw2; rw [HC.out] at hw2)
            repeat any_goals (first | go_skip | go_guarded | go_step | go_upon | (simp only []; done))
            exact bodyPost_ret (v := .bool false) (by simp [results, Tryd.results34, go_sem]) rfl ⟨rfl, below_trans hW hw2⟩
          | true =>
            go_upto_region 10 with fail
            (obtain ⟨C_, hC⟩ : ∃ C : World → Prop, C = fun w' => Below (wr).heap.size (wr) w' := ⟨_, rfl⟩; have HC := Lib.hid hC; have hne : ∀ p : Prop, (∀ w1 : World, C_ w1 → p) = p := fun p => propext ⟨fun h => h (wr) (by rw [hC]; exact Below.refl _ _), fun h _ _ => h⟩; clear hC; refine wp_region_quiet_cls (C := C_) (by kernel_rfl) (by kernel_rfl) (by rw [HC.out]; exact (Below.refl _ _).drew) ?_)
            (go_big_quiet_want; go_big_quiet_op; go_big_quiet_on)
            (go_big_quiet_want; refine ⟨.slice (some ⟨b, off, none⟩) nL cL, fun w1 hw1 => ?_, ?_⟩; (rw [HC.out] at hw1; obtain ⟨_, _, _, _, _⟩ := (VV.out.below hw1).all; simp [Oper.quietAt, go_sem, *]); (try simp only [Act.put, List.setIfInBounds_toArray, List.set_cons_zero, List.set_cons_succ]); go_big_quiet_on)
            (go_big_quiet_want; go_big_quiet_op; go_big_quiet_on)
            (go_big_quiet_want; go_big_quiet_op; go_big_quiet_on)
            (go_big_quiet_want; refine ⟨.agg #[.int .i64 kind', .bool neg', .int .u64 (lm V' 0 : Nat), .int .u64 (lm V' 1 : Nat), .int .u64 (lm V' 2 : Nat), .int .u64 (lm V' 3 : Nat), .int .u64 (bits' : Nat), .string text', .slice aL' nL' cL', .slice aK' nK' cK'], fun w1 hw1 => ?_, ?_⟩; (rw [HC.out] at hw1; obtain ⟨_, _, _, _, _⟩ := (K0.out.below hw1).all; simp [Oper.quietAt, go_sem, *]); (try simp only [Act.put, List.setIfInBounds_toArray, List.set_cons_zero, List.set_cons_succ]); go_big_quiet_on)
            (go_big_quiet_want; go_big_quiet_op; go_big_quiet_on)
            (go_big_quiet_want; go_big_quiet_op; go_big_quiet_on)
            (go_big_quiet_want; refine ⟨.int .i64 kind, fun w1 hw1 => ?_, ?_⟩; (rw [HC.out] at hw1; obtain ⟨_, _, _, _, _⟩ := (VV.out.below hw1).all; simp [Oper.quietAt, go_sem, *]); (try simp only [Act.put, List.setIfInBounds_toArray, List.set_cons_zero, List.set_cons_succ]); go_big_quiet_on)
            (go_big_quiet_want; refine ⟨.bool b7, fun w1 hw1 => ?_, ?_⟩; (rw [HC.out] at hw1; obtain ⟨_, _, _, _, _⟩ := (VV.out.below hw1).all; simp [Oper.quietAt, go_sem, *]); (try simp only [Act.put, List.setIfInBounds_toArray, List.set_cons_zero, List.set_cons_succ]); go_big_quiet_on)
            (go_big_quiet_want; go_big_quiet_op; refine ⟨.bool true, fun w1 hw1 => ?_, ?_⟩; (rw [HC.out] at hw1 ⊢; with_reducible refine (HCK.out _ hw1).mono ?_; rintro e w4 ⟨rfl, hb4⟩; exact ⟨rfl, below_trans hw1 hb4⟩); go_big_quiet_on)
            (go_big_quiet_want; go_big_quiet_op; go_big_quiet_on)
            (refine wpQuiet_nil ?_; intro w2 hw2; rw [HC.out] at hw2)
            repeat any_goals (first | go_skip | go_guarded | go_step | go_upon | (simp only []; done))
            go_roundw
            case rel => exact ⟨k + 1, by omega, rfl, by simp only [anyN]; rw [HA.out, ← HX.out]; rfl, VV.out.below hw2, below_trans hW hw2⟩
            case measure => simp [intOf]; omega
        · have hk' : k = nL := by omega
          subst hk'
          have i1 : ¬ (k : Int) < (k : Int) := by omega
          have e : R = true := by rw [HR2.out, HA.out]; rfl
          subst e
          repeat any_goals (first | go_skip | go_guarded | go_step | go_upon | (simp only []; done))
          exact bodyPost_ret (v := .bool true) (by simp [results, Tryd.results34, go_sem]) rfl ⟨rfl, hW⟩
end Go.Proofs.YtminijokbeclhaaDoor
namespace Go.Proofs.YtminijokbeclhaaDoor
open Go.RowKit
/-! ### the document's In is the program's -/
theorem anyN_congr {p q : Nat → Bool} {n : Nat} (h : ∀ i, i < n → p i = q i) : anyN p n = anyN q n := by
  induction n with
  | zero => rfl
  | succ n ih => simp only [anyN]; rw [ih fun i hi => h i (by omega), h n (by omega)]
theorem inside_json : ∀ (T : VT) (b a : Bool), T.insideB 1 b a = T.jsonB := by
  intro T
  induction T with
  | nil => intro b a; rfl
  | mk kind neg V bits text aL nL cL kids aK nK cK keys ih =>
    intro b a
    simp only [VT.insideB, VT.jsonB]
    rw [anyN_congr (q := fun i => !(kids i).jsonB) fun i _ => by rw [ih i]]
    by_cases h : kind = 6 ∨ kind = 4 ∧ cls bits ≠ 1
    · rw [if_pos h]
      rcases h with h | ⟨h1, h2⟩
      · simp [earlyB, h]
      · simp [earlyB, h1, h2]
    · rw [if_neg h]
      have e : earlyB kind 1 (cls bits) (range64B neg V) (exactI neg V) b a = false := by
        unfold earlyB
        by_cases h6 : kind = 6
        · exact absurd (.inl h6) h
        · by_cases h4 : kind = 4
          · by_cases hc : cls bits = 1
            · simp [h4, hc]
            · exact absurd (.inr ⟨h4, hc⟩) h
          · simp [h6, h4]
      rw [e]
      rfl
theorem anyN_none {p : Nat → Bool} {n : Nat} (h : ∀ i, i < n → p i = false) : anyN p n = false := by
  induction n with
  | zero => rfl
  | succ n ih => simp only [anyN]; rw [ih fun i hi => h i (by omega), h n (by omega)]; rfl
theorem inside_two : ∀ (T : VT) (b a : Bool), T.right = true → T.insideB 2 b a = true := by
  intro T
  induction T with
  | nil => intro b a h; cases h
  | mk kind neg V bits text aL nL cL kids aK nK cK keys ih =>
    intro b a h
    simp only [VT.insideB]
    rw [anyN_none fun i hi => by rw [ih i _ _ (VT.right_kid h hi)]; rfl]
    simp [earlyB]
theorem right_int {neg : Bool} {V bits : Nat} {text : ByteArray} {aL : Option Addr} {nL cL : Nat} {kids : Nat → VT} {aK : Option Addr} {nK cK : Nat} {keys : Nat → ByteArray} (h : (VT.mk 3 neg V bits text aL nL cL kids aK nK cK keys).right = true) : nL = 0 := by
  simp only [VT.right, midB, Bool.and_eq_true] at h
  have h1 := h.1.1
  rw [if_neg (by decide), if_neg (by decide)] at h1
  simp only [Bool.and_eq_true, beq_iff_eq] at h1
  exact h1.1.1
theorem inside_three : ∀ (T : VT) (a : Bool), T.right = true → T.insideB 3 true a = T.protoB (!a) := by
  intro T
  induction T with
  | nil => intro a h; cases h
  | mk kind neg V bits text aL nL cL kids aK nK cK keys ih =>
    intro a h
    simp only [VT.insideB, VT.protoB]
    by_cases h1 : kind = 1
    · rw [if_pos h1]
      simp [earlyB, h1]
    rw [if_neg h1]
    by_cases h3 : kind = 3
    · rw [if_pos h3]
      subst h3
      have h0 := right_int h
      subst h0
      unfold range64B
      cases toIOk neg V <;> cases toUOk neg V <;> cases exactI neg V <;> simp [earlyB, anyN]
    rw [if_neg h3]
    by_cases h7 : kind = 7
    · rw [if_pos h7]
      rw [anyN_congr (q := fun i => !(kids i).protoB false) fun i hi => by rw [ih i _ (VT.right_kid h hi), decide_eq_true h7]; rfl]
      cases a <;> simp [earlyB, h7]
    · rw [if_neg h7]
      rw [anyN_congr (q := fun i => !(kids i).protoB true) fun i hi => by rw [ih i _ (VT.right_kid h hi), decide_eq_false h7]; rfl]
      cases a <;> simp [earlyB, h1, h3, h7]
theorem inside_top (T : VT) (h : T.right = true) : T.insideB 3 false false = (decide (T.kindOf = 8) && T.protoB true) := by
  cases T with
  | nil => cases h
  | mk kind neg V bits text aL nL cL kids aK nK cK keys =>
    simp only [VT.insideB, VT.protoB, VT.kindOf]
    by_cases h8 : kind = 8
    · subst h8
      rw [if_neg (by decide), if_neg (by decide), if_neg (by decide)]
      rw [anyN_congr (q := fun i => !(kids i).protoB true) fun i hi => by rw [inside_three _ _ (VT.right_kid h hi)]; rfl]
      simp [earlyB]
    · simp [earlyB, h8]
theorem inB_eq (T : VT) (lang : Int) : T.inB lang = (decide (1 ≤ lang) && decide (lang ≤ 3) && decide (T.may = 0) && T.insideB lang false false) := by
  unfold VT.inB
  by_cases h0 : T.may = 0
  · rw [if_pos h0, decide_eq_true h0]
    have hr := (VT.may_zero.1 h0).2.2.2
    by_cases h1 : lang = 1
    · subst h1
      rw [if_pos rfl, inside_json]
      simp
    rw [if_neg h1]
    by_cases h2 : lang = 2
    · subst h2
      rw [if_pos rfl, inside_two _ _ _ hr]
      simp
    rw [if_neg h2]
    by_cases h3 : lang = 3
    · subst h3
      rw [if_pos rfl, inside_top _ hr]
      simp
    rw [if_neg h3]
    by_cases h4 : 1 ≤ lang
    · rw [decide_eq_false (show ¬ lang ≤ 3 by omega)]
      simp
    · rw [decide_eq_false h4]
      simp
  · rw [if_neg h0, decide_eq_false h0]
    simp
structure RInC (w : World) (v : Value) (lang m : Int) (s : Bool) : Prop where
  c1 : ∀ wr : World, Below w.heap.size w wr → Calls Tryd.prog 17 #[v] wr fun e w' => e = .returned (.int .i64 m) ∧ Below wr.heap.size wr w'
  c2 : ∀ wr : World, Below w.heap.size w wr → Calls Tryd.prog 34 #[v, .int .i64 lang, .bool false, .bool false] wr fun e w' => e = .returned (.bool s) ∧ Below wr.heap.size wr w'
set_option maxRecDepth 20000 in
set_option maxHeartbeats 4000000 in
theorem RIn_walk (kind : Int) (neg : Bool) (V bits : Nat) (text : ByteArray) (aL : Option Addr) (nL cL : Nat) (aK : Option Addr) (nK cK : Nat) (w : World) (lang m : Int) (s : Bool) (C : Hid (RInC w (.agg #[.int .i64 kind, .bool neg, .int .u64 (lm V 0 : Nat), .int .u64 (lm V 1 : Nat), .int .u64 (lm V 2 : Nat), .int .u64 (lm V 3 : Nat), .int .u64 (bits : Nat), .string text, .slice aL nL cL, .slice aK nK cK]) lang m s)) :
    Calls Tryd.prog 15 #[.agg #[.int .i64 kind, .bool neg, .int .u64 (lm V 0 : Nat), .int .u64 (lm V 1 : Nat), .int .u64 (lm V 2 : Nat), .int .u64 (lm V 3 : Nat), .int .u64 (bits : Nat), .string text, .slice aL nL cL, .slice aK nK cK], .int .i64 lang] w
      fun e w' => e = .returned (.bool (decide (1 ≤ lang) && decide (lang ≤ 3) && decide (m = 0) && s)) ∧ Below w.heap.size w w' := by
  have V0 := Lib.hid (show VBx (w.alloc (.cells #[.int .i64 kind, .bool neg, .int .u64 (lm V 0 : Nat), .int .u64 (lm V 1 : Nat), .int .u64 (lm V 2 : Nat), .int .u64 (lm V 3 : Nat), .int .u64 (bits : Nat), .string text, .slice aL nL cL, .slice aK nK cK] 30)) w.heap.size kind neg V bits text aL nL cL aK nK cK from ⟨by simp [go_sem]⟩)
  by_cases h1 : 1 ≤ lang
  · rw [decide_eq_true h1]
    by_cases h3 : lang ≤ 3
    · rw [decide_eq_true h3]
      by_cases h0 : m = 0
      · rw [decide_eq_true h0]
        subst h0
        rw [Bool.true_and, Bool.true_and, Bool.true_and]
        go_enter Tryd.func15, Tryd.ntmps15
        repeat any_goals (first | (go_at_call 17; with_reducible refine (C.out.c1 _ (by (repeat first | with_reducible exact Below.refl _ _ | with_reducible assumption | with_reducible refine Below.drew ?_ | with_reducible refine below_alloc ?_ _ | ((with_reducible refine Below.setCell ?_ ?_ _); rotate_left; (focus (first | with_reducible exact Nat.le_refl _ | (simp; done) | (simp; omega) | omega))) | (with_reducible refine below_trans ?_ (by assumption))))).mono ?_; rintro e w1 ⟨rfl, hb1⟩; (first | have V1 := Lib.hid (V0.out.below hb1) | have V1 := Lib.hid (V0.out.step hb1) | have V1 := Lib.hid (V0.out.step2 hb1)); obtain ⟨_, _, _, _, _, _, _, _, _, _⟩ := V1.out.all) | (go_at_call 34; refine (C.out.c2 _ (by (repeat first | with_reducible exact Below.refl _ _ | with_reducible assumption | with_reducible refine Below.drew ?_ | with_reducible refine below_alloc ?_ _ | ((with_reducible refine Below.setCell ?_ ?_ _); rotate_left; (focus (first | with_reducible exact Nat.le_refl _ | (simp; done) | (simp; omega) | omega))) | (with_reducible refine below_trans ?_ (by assumption))))).mono ?_; rintro e w2 ⟨rfl, hb2⟩) | go_skip | go_guarded | go_step | go_upon | (dsimp only []))
        exact bodyPost_ret (v := .bool s) (by simp [results, Tryd.results15, go_sem]) rfl ⟨rfl, by (repeat first | with_reducible exact Below.refl _ _ | with_reducible assumption | with_reducible refine Below.drew ?_ | with_reducible refine below_alloc ?_ _ | ((with_reducible refine Below.setCell ?_ ?_ _); rotate_left; (focus (first | with_reducible exact Nat.le_refl _ | (simp; done) | (simp; omega) | omega))) | (with_reducible refine below_trans ?_ (by assumption)))⟩
      · rw [decide_eq_false h0, Bool.and_false, Bool.false_and]
        have h0i : (m == 0) = false := by simpa using h0
        go_enter Tryd.func15, Tryd.ntmps15
        repeat any_goals (first | (go_at_call 17; with_reducible refine (C.out.c1 _ (by (repeat first | with_reducible exact Below.refl _ _ | with_reducible assumption | with_reducible refine Below.drew ?_ | with_reducible refine below_alloc ?_ _ | ((with_reducible refine Below.setCell ?_ ?_ _); rotate_left; (focus (first | with_reducible exact Nat.le_refl _ | (simp; done) | (simp; omega) | omega))) | (with_reducible refine below_trans ?_ (by assumption))))).mono ?_; rintro e w1 ⟨rfl, hb1⟩; (first | have V1 := Lib.hid (V0.out.below hb1) | have V1 := Lib.hid (V0.out.step hb1) | have V1 := Lib.hid (V0.out.step2 hb1)); obtain ⟨_, _, _, _, _, _, _, _, _, _⟩ := V1.out.all) | go_skip | go_guarded | go_step | go_upon | (dsimp only []))
        exact bodyPost_ret (v := .bool false) (by simp [results, Tryd.results15, go_sem]) rfl ⟨rfl, by (repeat first | with_reducible exact Below.refl _ _ | with_reducible assumption | with_reducible refine Below.drew ?_ | with_reducible refine below_alloc ?_ _ | ((with_reducible refine Below.setCell ?_ ?_ _); rotate_left; (focus (first | with_reducible exact Nat.le_refl _ | (simp; done) | (simp; omega) | omega))) | (with_reducible refine below_trans ?_ (by assumption)))⟩
    · rw [decide_eq_false h3, Bool.and_false, Bool.false_and, Bool.false_and]
      go_enter Tryd.func15, Tryd.ntmps15
      repeat any_goals (first | go_skip | go_guarded | go_step | go_upon | (simp only []; done))
      exact bodyPost_ret (v := .bool false) (by simp [results, Tryd.results15, go_sem]) rfl ⟨rfl, by (repeat first | with_reducible exact Below.refl _ _ | with_reducible assumption | with_reducible refine Below.drew ?_ | with_reducible refine below_alloc ?_ _ | ((with_reducible refine Below.setCell ?_ ?_ _); rotate_left; (focus (first | with_reducible exact Nat.le_refl _ | (simp; done) | (simp; omega) | omega))) | (with_reducible refine below_trans ?_ (by assumption)))⟩
  · rw [decide_eq_false h1, Bool.false_and, Bool.false_and, Bool.false_and]
    go_enter Tryd.func15, Tryd.ntmps15
    repeat any_goals (first | go_skip | go_guarded | go_step | go_upon | (simp only []; done))
    exact bodyPost_ret (v := .bool false) (by simp [results, Tryd.results15, go_sem]) rfl ⟨rfl, by (repeat first | with_reducible exact Below.refl _ _ | with_reducible assumption | with_reducible refine Below.drew ?_ | with_reducible refine below_alloc ?_ _ | ((with_reducible refine Below.setCell ?_ ?_ _); rotate_left; (focus (first | with_reducible exact Nat.le_refl _ | (simp; done) | (simp; omega) | omega))) | (with_reducible refine below_trans ?_ (by assumption)))⟩
theorem RIn_any (T : VT) (lang : Int) (w : World) (hin : T.In w) (hN : T.nodes < 4611686018427387904) :
    Calls Tryd.prog 15 #[T.agg, .int .i64 lang] w fun e w' => e = .returned (.bool (T.inB lang)) ∧ Below w.heap.size w w' := by
  have C : Hid (RInC w T.agg lang T.may (T.insideB lang false false)) := Lib.hid ⟨fun wr hb => RMayV_any T wr (hin.below hb) hN, fun wr hb => Inside_any T wr lang false false (hin.below hb)⟩
  rw [inB_eq]
  cases T with
  | nil => exact hin.elim
  | mk kind neg V bits text aL nL cL kids aK nK cK keys => exact RIn_walk kind neg V bits text aL nL cL aK nK cK w lang _ _ C
structure AsC (w : World) (v : Value) (f : Int → Bool) (m : Int) (D N : Nat) : Prop where
  c1 : ∀ wr : World, Below w.heap.size w wr → Calls Tryd.prog 12 #[v] wr fun e w' => e = .returned (.bool true) ∧ Below wr.heap.size wr w'
  c2 : ∀ wr : World, Below w.heap.size w wr → Calls Tryd.prog 13 #[] wr fun e w' => e = .returned (.bool true) ∧ Below wr.heap.size wr w'
  c3 : ∀ (lang : Int) (wr : World), Below w.heap.size w wr → Calls Tryd.prog 14 #[v, .int .i64 lang] wr fun e w' => e = .returned (.bool (f lang)) ∧ Below wr.heap.size wr w'
  c4 : ∀ (lang : Int) (wr : World), Below w.heap.size w wr → Calls Tryd.prog 15 #[v, .int .i64 lang] wr fun e w' => e = .returned (.bool (f lang)) ∧ Below wr.heap.size wr w'
  c5 : ∀ wr : World, Below w.heap.size w wr → Calls Tryd.prog 16 #[v] wr fun e w' => e = .returned (.int .i64 m) ∧ Below wr.heap.size wr w'
  c6 : ∀ wr : World, Below w.heap.size w wr → Calls Tryd.prog 17 #[v] wr fun e w' => e = .returned (.int .i64 m) ∧ Below wr.heap.size wr w'
  c7 : ∀ wr : World, Below w.heap.size w wr → Calls Tryd.prog 18 #[v] wr fun e w' => e = .returned (.int .i64 (D : Nat)) ∧ Below wr.heap.size wr w'
  c8 : ∀ wr : World, Below w.heap.size w wr → Calls Tryd.prog 19 #[v] wr fun e w' => e = .returned (.int .i64 (D : Nat)) ∧ Below wr.heap.size wr w'
  c9 : ∀ wr : World, Below w.heap.size w wr → Calls Tryd.prog 20 #[v] wr fun e w' => e = .returned (.int .i64 (N : Nat)) ∧ Below wr.heap.size wr w'
  c10 : ∀ wr : World, Below w.heap.size w wr → Calls Tryd.prog 21 #[v] wr fun e w' => e = .returned (.int .i64 (N : Nat)) ∧ Below wr.heap.size wr w'
set_option maxRecDepth 20000 in
set_option maxHeartbeats 1000000 in
theorem Asks_many (kind : Int) (neg : Bool) (V bits : Nat) (text : ByteArray) (aL : Option Addr) (nL cL : Nat) (aK : Option Addr) (nK cK : Nat) (w : World) (lang : Int) (C : Hid (∀ wr : World, Below w.heap.size w wr → Calls Tryd.prog 12 #[.agg #[.int .i64 kind, .bool neg, .int .u64 (lm V 0 : Nat), .int .u64 (lm V 1 : Nat), .int .u64 (lm V 2 : Nat), .int .u64 (lm V 3 : Nat), .int .u64 (bits : Nat), .string text, .slice aL nL cL, .slice aK nK cK]] wr fun e w' => e = .returned (.bool false) ∧ Below wr.heap.size wr w')) (CT : Hid (∀ wr : World, Below w.heap.size w wr → Calls Tryd.prog 13 #[] wr fun e w' => e = .returned (.bool true) ∧ Below wr.heap.size wr w')) :
    Calls Tryd.prog 3 #[.agg #[.int .i64 kind, .bool neg, .int .u64 (lm V 0 : Nat), .int .u64 (lm V 1 : Nat), .int .u64 (lm V 2 : Nat), .int .u64 (lm V 3 : Nat), .int .u64 (bits : Nat), .string text, .slice aL nL cL, .slice aK nK cK], .int .i64 lang] w fun e w' => e = .returned (.bool true) ∧ Below w.heap.size w w' := by
  go_enter Tryd.func3, Tryd.ntmps3
  repeat any_goals (first | (go_at_call 12; refine (C.out _ (by (repeat first | with_reducible exact Below.refl _ _ | with_reducible assumption | with_reducible refine Below.drew ?_ | with_reducible refine below_alloc ?_ _ | ((with_reducible refine Below.setCell ?_ ?_ _); rotate_left; (focus (first | with_reducible exact Nat.le_refl _ | (simp; done) | (simp; omega) | omega))) | (with_reducible refine below_trans ?_ (by assumption))))).mono ?_; rintro e w1 ⟨rfl, hb1⟩) | (go_at_call 13; refine (CT.out _ (by (repeat first | with_reducible exact Below.refl _ _ | with_reducible assumption | with_reducible refine Below.drew ?_ | with_reducible refine below_alloc ?_ _ | ((with_reducible refine Below.setCell ?_ ?_ _); rotate_left; (focus (first | with_reducible exact Nat.le_refl _ | (simp; done) | (simp; omega) | omega))) | (with_reducible refine below_trans ?_ (by assumption))))).mono ?_; rintro e w2 ⟨rfl, hb2⟩) | go_skip | go_guarded | go_step | go_upon | (dsimp only []))
  exact bodyPost_ret (v := .bool true) (by simp [results, Tryd.results3, go_sem]) rfl ⟨rfl, by (repeat first | with_reducible exact Below.refl _ _ | with_reducible assumption | with_reducible refine Below.drew ?_ | with_reducible refine below_alloc ?_ _ | ((with_reducible refine Below.setCell ?_ ?_ _); rotate_left; (focus (first | with_reducible exact Nat.le_refl _ | (simp; done) | (simp; omega) | omega))) | (with_reducible refine below_trans ?_ (by assumption)))⟩
set_option maxRecDepth 20000 in
set_option maxHeartbeats 8000000 in
theorem Asks_walk (kind : Int) (neg : Bool) (V bits : Nat) (text : ByteArray) (aL : Option Addr) (nL cL : Nat) (aK : Option Addr) (nK cK : Nat) (w : World) (lang m : Int) (f : Int → Bool) (D N : Nat) (C : Hid (AsC w (.agg #[.int .i64 kind, .bool neg, .int .u64 (lm V 0 : Nat), .int .u64 (lm V 1 : Nat), .int .u64 (lm V 2 : Nat), .int .u64 (lm V 3 : Nat), .int .u64 (bits : Nat), .string text, .slice aL nL cL, .slice aK nK cK]) f m D N)) :
    Calls Tryd.prog 3 #[.agg #[.int .i64 kind, .bool neg, .int .u64 (lm V 0 : Nat), .int .u64 (lm V 1 : Nat), .int .u64 (lm V 2 : Nat), .int .u64 (lm V 3 : Nat), .int .u64 (bits : Nat), .string text, .slice aL nL cL, .slice aK nK cK], .int .i64 lang] w fun e w' => e = .returned (.bool true) ∧ Below w.heap.size w w' := by
  have V0 := Lib.hid (show VBx (w.alloc (.cells #[.int .i64 kind, .bool neg, .int .u64 (lm V 0 : Nat), .int .u64 (lm V 1 : Nat), .int .u64 (lm V 2 : Nat), .int .u64 (lm V 3 : Nat), .int .u64 (bits : Nat), .string text, .slice aL nL cL, .slice aK nK cK] 30)) w.heap.size kind neg V bits text aL nL cL aK nK cK from ⟨by simp [go_sem]⟩)
  go_enter Tryd.func3, Tryd.ntmps3
  repeat any_goals (first | (go_at_call 12; with_reducible refine (C.out.c1 _ (by (repeat first | with_reducible exact Below.refl _ _ | with_reducible assumption | with_reducible refine Below.drew ?_ | with_reducible refine below_alloc ?_ _ | ((with_reducible refine Below.setCell ?_ ?_ _); rotate_left; (focus (first | with_reducible exact Nat.le_refl _ | (simp; done) | (simp; omega) | omega))) | (with_reducible refine below_trans ?_ (by assumption))))).mono ?_; rintro e w1 ⟨rfl, hb1⟩; (first | have V1 := Lib.hid (V0.out.below hb1) | have V1 := Lib.hid (V0.out.step hb1) | have V1 := Lib.hid (V0.out.step2 hb1)); obtain ⟨_, _, _, _, _, _, _, _, _, _⟩ := V1.out.all) | go_skip | go_guarded | go_step | go_upon | (dsimp only []))
  go_loopw [5] (fun i wr => ∃ k : Nat, 1 ≤ k ∧ k ≤ 4 ∧ i = .int .i64 k ∧ VBx wr w.heap.size kind neg V bits text aL nL cL aK nK cK ∧ Below w.heap.size w wr) (fun i _ => 5 - (intOf i).toNat)
  case atStart => exact ⟨1, by decide, by decide, rfl, V1.out, by (repeat first | with_reducible exact Below.refl _ _ | with_reducible assumption | with_reducible refine Below.drew ?_ | with_reducible refine below_alloc ?_ _ | ((with_reducible refine Below.setCell ?_ ?_ _); rotate_left; (focus (first | with_reducible exact Nat.le_refl _ | (simp; done) | (simp; omega) | omega))) | (with_reducible refine below_trans ?_ (by assumption)))⟩
  case round =>
    obtain ⟨k, hk1, hk4, rfl, hV, hW3⟩ := hrel
    clear V0 V1
    have V3 := Lib.hid hV
    obtain ⟨_, _, _, _, _, _, _, _, _, _⟩ := hV.all
    clear hV
    by_cases hk : k ≤ 3
    · have i1 : (k : Int) ≤ 3 := by omega
      go_upto_region 6 with fail
      (obtain ⟨C_, hC⟩ : ∃ C : World → Prop, C = fun w' => Below (wr).heap.size (wr) w' := ⟨_, rfl⟩; have HC := Lib.hid hC; have hne : ∀ p : Prop, (∀ w1 : World, C_ w1 → p) = p := fun p => propext ⟨fun h => h (wr) (by rw [hC]; exact Below.refl _ _), fun h _ _ => h⟩; clear hC; refine wp_region_quiet_cls (C := C_) (by kernel_rfl) (by kernel_rfl) (by rw [HC.out]; exact (Below.refl _ _).drew) ?_)
      (go_big_quiet_want; refine ⟨.agg #[.int .i64 kind, .bool neg, .int .u64 (lm V 0 : Nat), .int .u64 (lm V 1 : Nat), .int .u64 (lm V 2 : Nat), .int .u64 (lm V 3 : Nat), .int .u64 (bits : Nat), .string text, .slice aL nL cL, .slice aK nK cK], fun w1 hw1 => ?_, ?_⟩; (rw [HC.out] at hw1; obtain ⟨_, _, _, _, _⟩ := (V3.out.below hw1).all; simp [Oper.quietAt, go_sem, *]); (try simp only [Act.put, List.setIfInBounds_toArray, List.set_cons_zero, List.set_cons_succ]); go_big_quiet_on)
      (go_big_quiet_want; go_big_quiet_op; go_big_quiet_on)
      (go_big_quiet_want; go_big_quiet_op; refine ⟨.bool (f k), fun w1 hw1 => ?_, ?_⟩; (rw [HC.out] at hw1 ⊢; with_reducible refine (C.out.c3 _ _ (below_trans hW3 hw1)).mono ?_; rintro e w4 ⟨rfl, hb4⟩; exact ⟨rfl, below_trans hw1 hb4⟩); go_big_quiet_on)
      (go_big_quiet_want; refine ⟨.agg #[.int .i64 kind, .bool neg, .int .u64 (lm V 0 : Nat), .int .u64 (lm V 1 : Nat), .int .u64 (lm V 2 : Nat), .int .u64 (lm V 3 : Nat), .int .u64 (bits : Nat), .string text, .slice aL nL cL, .slice aK nK cK], fun w1 hw1 => ?_, ?_⟩; (rw [HC.out] at hw1; obtain ⟨_, _, _, _, _⟩ := (V3.out.below hw1).all; simp [Oper.quietAt, go_sem, *]); (try simp only [Act.put, List.setIfInBounds_toArray, List.set_cons_zero, List.set_cons_succ]); go_big_quiet_on)
      (go_big_quiet_want; go_big_quiet_op; go_big_quiet_on)
      (go_big_quiet_want; go_big_quiet_op; refine ⟨.bool (f k), fun w1 hw1 => ?_, ?_⟩; (rw [HC.out] at hw1 ⊢; with_reducible refine (C.out.c4 _ _ (below_trans hW3 hw1)).mono ?_; rintro e w4 ⟨rfl, hb4⟩; exact ⟨rfl, below_trans hw1 hb4⟩); go_big_quiet_on)
      (go_big_quiet_want; refine ⟨.bool false, fun w1 hw1 => ?_, ?_⟩; (rw [HC.out] at hw1; obtain ⟨_, _, _, _, _⟩ := (V3.out.below hw1).all; simp [Oper.quietAt, go_sem, *]); (try simp only [Act.put, List.setIfInBounds_toArray, List.set_cons_zero, List.set_cons_succ]); go_big_quiet_on)
      (refine wpQuiet_nil ?_; intro w2 hw2; rw [HC.out] at hw2)
      repeat any_goals (first | go_skip | go_guarded | go_step | go_upon | (simp only []; done))
      go_roundw
      case rel => exact ⟨k + 1, by omega, by omega, rfl, V3.out.below hw2, below_trans hW3 hw2⟩
      case measure => simp [intOf]; omega
    · have i1 : ¬ (k : Int) ≤ 3 := by omega
      go_upto_region 8 with fail
      (obtain ⟨C_, hC⟩ : ∃ C : World → Prop, C = fun w' => Below (wr).heap.size (wr) w' := ⟨_, rfl⟩; have HC := Lib.hid hC; have hne : ∀ p : Prop, (∀ w1 : World, C_ w1 → p) = p := fun p => propext ⟨fun h => h (wr) (by rw [hC]; exact Below.refl _ _), fun h _ _ => h⟩; clear hC; refine wp_region_quiet_cls (C := C_) (by kernel_rfl) (by kernel_rfl) (by rw [HC.out]; exact (Below.refl _ _).drew) ?_)
      (go_big_quiet_want; go_big_quiet_op; refine ⟨.bool true, fun w1 hw1 => ?_, ?_⟩; (rw [HC.out] at hw1 ⊢; with_reducible refine (C.out.c2 _ (below_trans hW3 hw1)).mono ?_; rintro e w4 ⟨rfl, hb4⟩; exact ⟨rfl, below_trans hw1 hb4⟩); go_big_quiet_on)
      (go_big_quiet_want; go_big_quiet_op; go_big_quiet_on)
      (go_big_quiet_want; refine ⟨.agg #[.int .i64 kind, .bool neg, .int .u64 (lm V 0 : Nat), .int .u64 (lm V 1 : Nat), .int .u64 (lm V 2 : Nat), .int .u64 (lm V 3 : Nat), .int .u64 (bits : Nat), .string text, .slice aL nL cL, .slice aK nK cK], fun w1 hw1 => ?_, ?_⟩; (rw [HC.out] at hw1; obtain ⟨_, _, _, _, _⟩ := (V3.out.below hw1).all; simp [Oper.quietAt, go_sem, *]); (try simp only [Act.put, List.setIfInBounds_toArray, List.set_cons_zero, List.set_cons_succ]); go_big_quiet_on)
      (go_big_quiet_want; go_big_quiet_op; refine ⟨.int .i64 m, fun w1 hw1 => ?_, ?_⟩; (rw [HC.out] at hw1 ⊢; with_reducible refine (C.out.c5 _ (below_trans hW3 hw1)).mono ?_; rintro e w4 ⟨rfl, hb4⟩; exact ⟨rfl, below_trans hw1 hb4⟩); go_big_quiet_on)
      (go_big_quiet_want; refine ⟨.agg #[.int .i64 kind, .bool neg, .int .u64 (lm V 0 : Nat), .int .u64 (lm V 1 : Nat), .int .u64 (lm V 2 : Nat), .int .u64 (lm V 3 : Nat), .int .u64 (bits : Nat), .string text, .slice aL nL cL, .slice aK nK cK], fun w1 hw1 => ?_, ?_⟩; (rw [HC.out] at hw1; obtain ⟨_, _, _, _, _⟩ := (V3.out.below hw1).all; simp [Oper.quietAt, go_sem, *]); (try simp only [Act.put, List.setIfInBounds_toArray, List.set_cons_zero, List.set_cons_succ]); go_big_quiet_on)
      (go_big_quiet_want; go_big_quiet_op; refine ⟨.int .i64 m, fun w1 hw1 => ?_, ?_⟩; (rw [HC.out] at hw1 ⊢; with_reducible refine (C.out.c6 _ (below_trans hW3 hw1)).mono ?_; rintro e w4 ⟨rfl, hb4⟩; exact ⟨rfl, below_trans hw1 hb4⟩); go_big_quiet_on)
      (go_big_quiet_want; refine ⟨.bool true, fun w1 hw1 => ?_, ?_⟩; (rw [HC.out] at hw1; obtain ⟨_, _, _, _, _⟩ := (V3.out.below hw1).all; simp [Oper.quietAt, go_sem, *]); (try simp only [Act.put, List.setIfInBounds_toArray, List.set_cons_zero, List.set_cons_succ]); go_big_quiet_on)
      (go_big_quiet_want; go_big_quiet_op; go_big_quiet_on)
      (go_big_quiet_want; go_big_quiet_op; go_big_quiet_on)
      (go_big_quiet_want; refine ⟨.agg #[.int .i64 kind, .bool neg, .int .u64 (lm V 0 : Nat), .int .u64 (lm V 1 : Nat), .int .u64 (lm V 2 : Nat), .int .u64 (lm V 3 : Nat), .int .u64 (bits : Nat), .string text, .slice aL nL cL, .slice aK nK cK], fun w1 hw1 => ?_, ?_⟩; (rw [HC.out] at hw1; obtain ⟨_, _, _, _, _⟩ := (V3.out.below hw1).all; simp [Oper.quietAt, go_sem, *]); (try simp only [Act.put, List.setIfInBounds_toArray, List.set_cons_zero, List.set_cons_succ]); go_big_quiet_on)
      (go_big_quiet_want; go_big_quiet_op; refine ⟨.int .i64 (D : Nat), fun w1 hw1 => ?_, ?_⟩; (rw [HC.out] at hw1 ⊢; with_reducible refine (C.out.c7 _ (below_trans hW3 hw1)).mono ?_; rintro e w4 ⟨rfl, hb4⟩; exact ⟨rfl, below_trans hw1 hb4⟩); go_big_quiet_on)
      (go_big_quiet_want; refine ⟨.agg #[.int .i64 kind, .bool neg, .int .u64 (lm V 0 : Nat), .int .u64 (lm V 1 : Nat), .int .u64 (lm V 2 : Nat), .int .u64 (lm V 3 : Nat), .int .u64 (bits : Nat), .string text, .slice aL nL cL, .slice aK nK cK], fun w1 hw1 => ?_, ?_⟩; (rw [HC.out] at hw1; obtain ⟨_, _, _, _, _⟩ := (V3.out.below hw1).all; simp [Oper.quietAt, go_sem, *]); (try simp only [Act.put, List.setIfInBounds_toArray, List.set_cons_zero, List.set_cons_succ]); go_big_quiet_on)
      (go_big_quiet_want; go_big_quiet_op; refine ⟨.int .i64 (D : Nat), fun w1 hw1 => ?_, ?_⟩; (rw [HC.out] at hw1 ⊢; with_reducible refine (C.out.c8 _ (below_trans hW3 hw1)).mono ?_; rintro e w4 ⟨rfl, hb4⟩; exact ⟨rfl, below_trans hw1 hb4⟩); go_big_quiet_on)
      (go_big_quiet_want; refine ⟨.bool true, fun w1 hw1 => ?_, ?_⟩; (rw [HC.out] at hw1; obtain ⟨_, _, _, _, _⟩ := (V3.out.below hw1).all; simp [Oper.quietAt, go_sem, *]); (try simp only [Act.put, List.setIfInBounds_toArray, List.set_cons_zero, List.set_cons_succ]); go_big_quiet_on)
      (go_big_quiet_want; go_big_quiet_op; go_big_quiet_on)
      (go_big_quiet_want; go_big_quiet_op; go_big_quiet_on)
      (go_big_quiet_want; refine ⟨.agg #[.int .i64 kind, .bool neg, .int .u64 (lm V 0 : Nat), .int .u64 (lm V 1 : Nat), .int .u64 (lm V 2 : Nat), .int .u64 (lm V 3 : Nat), .int .u64 (bits : Nat), .string text, .slice aL nL cL, .slice aK nK cK], fun w1 hw1 => ?_, ?_⟩; (rw [HC.out] at hw1; obtain ⟨_, _, _, _, _⟩ := (V3.out.below hw1).all; simp [Oper.quietAt, go_sem, *]); (try simp only [Act.put, List.setIfInBounds_toArray, List.set_cons_zero, List.set_cons_succ]); go_big_quiet_on)
      (go_big_quiet_want; go_big_quiet_op; refine ⟨.int .i64 (N : Nat), fun w1 hw1 => ?_, ?_⟩; (rw [HC.out] at hw1 ⊢; with_reducible refine (C.out.c9 _ (below_trans hW3 hw1)).mono ?_; rintro e w4 ⟨rfl, hb4⟩; exact ⟨rfl, below_trans hw1 hb4⟩); go_big_quiet_on)
      (go_big_quiet_want; refine ⟨.agg #[.int .i64 kind, .bool neg, .int .u64 (lm V 0 : Nat), .int .u64 (lm V 1 : Nat), .int .u64 (lm V 2 : Nat), .int .u64 (lm V 3 : Nat), .int .u64 (bits : Nat), .string text, .slice aL nL cL, .slice aK nK cK], fun w1 hw1 => ?_, ?_⟩; (rw [HC.out] at hw1; obtain ⟨_, _, _, _, _⟩ := (V3.out.below hw1).all; simp [Oper.quietAt, go_sem, *]); (try simp only [Act.put, List.setIfInBounds_toArray, List.set_cons_zero, List.set_cons_succ]); go_big_quiet_on)
      (go_big_quiet_want; go_big_quiet_op; refine ⟨.int .i64 (N : Nat), fun w1 hw1 => ?_, ?_⟩; (rw [HC.out] at hw1 ⊢; with_reducible refine (C.out.c10 _ (below_trans hW3 hw1)).mono ?_; rintro e w4 ⟨rfl, hb4⟩; exact ⟨rfl, below_trans hw1 hb4⟩); go_big_quiet_on)
      (go_big_quiet_want; refine ⟨.bool true, fun w1 hw1 => ?_, ?_⟩; (rw [HC.out] at hw1; obtain ⟨_, _, _, _, _⟩ := (V3.out.below hw1).all; simp [Oper.quietAt, go_sem, *]); (try simp only [Act.put, List.setIfInBounds_toArray, List.set_cons_zero, List.set_cons_succ]); go_big_quiet_on)
      (go_big_quiet_want; go_big_quiet_op; go_big_quiet_on)
      (go_big_quiet_want; go_big_quiet_op; go_big_quiet_on)
      (go_big_quiet_want; refine ⟨.agg #[.int .i64 kind, .bool neg, .int .u64 (lm V 0 : Nat), .int .u64 (lm V 1 : Nat), .int .u64 (lm V 2 : Nat), .int .u64 (lm V 3 : Nat), .int .u64 (bits : Nat), .string text, .slice aL nL cL, .slice aK nK cK], fun w1 hw1 => ?_, ?_⟩; (rw [HC.out] at hw1; obtain ⟨_, _, _, _, _⟩ := (V3.out.below hw1).all; simp [Oper.quietAt, go_sem, *]); (try simp only [Act.put, List.setIfInBounds_toArray, List.set_cons_zero, List.set_cons_succ]); go_big_quiet_on)
      (go_big_quiet_want; go_big_quiet_op; go_big_quiet_on)
      (go_big_quiet_want; go_big_quiet_op; refine ⟨.bool (f lang), fun w1 hw1 => ?_, ?_⟩; (rw [HC.out] at hw1 ⊢; with_reducible refine (C.out.c3 _ _ (below_trans hW3 hw1)).mono ?_; rintro e w4 ⟨rfl, hb4⟩; exact ⟨rfl, below_trans hw1 hb4⟩); go_big_quiet_on)
      (go_big_quiet_want; refine ⟨.agg #[.int .i64 kind, .bool neg, .int .u64 (lm V 0 : Nat), .int .u64 (lm V 1 : Nat), .int .u64 (lm V 2 : Nat), .int .u64 (lm V 3 : Nat), .int .u64 (bits : Nat), .string text, .slice aL nL cL, .slice aK nK cK], fun w1 hw1 => ?_, ?_⟩; (rw [HC.out] at hw1; obtain ⟨_, _, _, _, _⟩ := (V3.out.below hw1).all; simp [Oper.quietAt, go_sem, *]); (try simp only [Act.put, List.setIfInBounds_toArray, List.set_cons_zero, List.set_cons_succ]); go_big_quiet_on)
      (go_big_quiet_want; go_big_quiet_op; go_big_quiet_on)
      (go_big_quiet_want; go_big_quiet_op; refine ⟨.bool (f lang), fun w1 hw1 => ?_, ?_⟩; (rw [HC.out] at hw1 ⊢; with_reducible refine (C.out.c4 _ _ (below_trans hW3 hw1)).mono ?_; rintro e w4 ⟨rfl, hb4⟩; exact ⟨rfl, below_trans hw1 hb4⟩); go_big_quiet_on)
      (go_big_quiet_want; refine ⟨.bool true, fun w1 hw1 => ?_, ?_⟩; (rw [HC.out] at hw1; obtain ⟨_, _, _, _, _⟩ := (V3.out.below hw1).all; simp [Oper.quietAt, go_sem, *]); (try simp only [Act.put, List.setIfInBounds_toArray, List.set_cons_zero, List.set_cons_succ]); go_big_quiet_on)
      (go_big_quiet_want; go_big_quiet_op; go_big_quiet_on)
      (go_big_quiet_want; go_big_quiet_op; go_big_quiet_on)
      (refine wpQuiet_nil ?_; intro w2 hw2; rw [HC.out] at hw2)
      repeat any_goals (first | go_skip | go_guarded | go_step | go_upon | (simp only []; done))
      exact bodyPost_ret (v := .bool true) (by simp [results, Tryd.results3, go_sem]) rfl ⟨rfl, below_trans hW3 hw2⟩
theorem ValueAsks_any (T : VT) (lang : Int) (w : World) (hin : T.In w) (_h0 : -9223372036854775808 ≤ lang) (_h1 : lang < 9223372036854775808) (hU : U8T w) (hT : Tab w) :
    Calls Tryd.prog 3 #[T.agg, .int .i64 lang] w fun e w' => e = .returned (.bool true) ∧ Below w.heap.size w w' := by
  have CT : ∀ wr : World, Below w.heap.size w wr → Calls Tryd.prog 13 #[] wr fun e w' => e = .returned (.bool true) ∧ Below wr.heap.size wr w' := fun wr hb => told_any wr (Utf8Tabs_below hU hb) (hT.below hb)
  have CF : ∀ wr : World, Below w.heap.size w wr → Calls Tryd.prog 12 #[T.agg] wr fun e w' => e = .returned (.bool (decide (T.few 40 ≤ 400))) ∧ Below wr.heap.size wr w' := fun wr hb => Few_any T wr (hin.below hb)
  by_cases hf : T.few 40 ≤ 400
  · rw [decide_eq_true hf] at CF
    have hn : T.nodes < 4611686018427387904 := by
      have := (VT.few_nodes T 40 hf).1
      omega
    have C : AsC w T.agg T.inB T.may T.depth T.nodes := ⟨CF, CT, fun lang wr hb => In_any T lang wr (hin.below hb) (Utf8Tabs_below hU hb) (hT.below hb) hn, fun lang wr hb => RIn_any T lang wr (hin.below hb) hn,
      fun wr hb => MayV_any T wr (hin.below hb) (Utf8Tabs_below hU hb) (hT.below hb) hn, fun wr hb => RMayV_any T wr (hin.below hb) hn, fun wr hb => Depth_any T wr (hin.below hb) hn, fun wr hb => RDepth_any T wr (hin.below hb) hn, fun wr hb => Nodes_any T wr (hin.below hb) hn, fun wr hb => RNodes_any T wr (hin.below hb) hn⟩
    cases T with
    | nil => exact hin.elim
    | mk kind neg V bits text aL nL cL kids aK nK cK keys => exact Asks_walk kind neg V bits text aL nL cL aK nK cK w lang _ _ _ _ (Lib.hid C)
  · rw [decide_eq_false hf] at CF
    cases T with
    | nil => exact hin.elim
    | mk kind neg V bits text aL nL cL kids aK nK cK keys => exact Asks_many kind neg V bits text aL nL cL aK nK cK w lang (Lib.hid CF) (Lib.hid CT)
end Go.Proofs.YtminijokbeclhaaDoor
