/- Contracts: sound, May of the program. -/
import Derived.Test.YtminijokbeclhaaDoorVSound
import Derived.Test.YtminijokbeclhaaDoorVLong
import Derived.Test.YtminijokbeclhaaDoorVDep
import Derived.WalkSmall
namespace Go.Proofs.YtminijokbeclhaaDoor
open Go.RowKit
theorem eqSc_z {k : Int} {s s' : Bool} {V b b' : Nat} {t t' : ByteArray} (hV : V < 2 ^ 256) : eqSc k s (lm V 0 : Nat) (lm V 1 : Nat) (lm V 2 : Nat) (lm V 3 : Nat) (b : Nat) t k s' 0 0 0 0 (b' : Nat) t' = decide (s = s' ∧ V = 0 ∧ b = b' ∧ t = t') := by
  have h := eqSc_lm (k := k) (s := s) (s' := s') (V := V) (U := 0) (b := b) (b' := b') (t := t) (t' := t') hV (by decide)
  rw [lm_zero, lm_zero, lm_zero, lm_zero] at h
  exact h
theorem and_one {b : Nat} (h : b < 18446744073709551616) : Go.bits .and .u64 (b : Int) 1 = ((b % 2 : Nat) : Int) := by
  rw [and_one_u64 (b : Int) (by omega) (by omega)]
  omega
set_option maxRecDepth 20000 in
set_option maxHeartbeats 1000000 in
theorem Sound_any : ∀ (T : VT) (w : World), T.In w → U8T w → Tab w → Calls Tryd.prog 36 #[T.agg] w fun e w' => e = .returned (.bool T.right) ∧ Below w.heap.size w w' := by
  intro T
  induction T with
  | nil => exact fun w h => h.elim
  | mk kind neg V bits text aL nL cL kids aK nK cK keys ih =>
    intro w hin hU hT
    obtain ⟨o, hL, hk, hKy⟩ := hin
    simp only [VT.agg, VT.cells]
    obtain ⟨z, hz⟩ : ∃ z, z = anyN (fun i => !(kids i).right) nL := ⟨_, rfl⟩
    have hR : (VT.mk kind neg V bits text aL nL cL kids aK nK cK keys).right = (midB kind neg V bits text nL nK keys && eqB kind neg V bits text && !z) := by rw [hz]; rfl
    rw [hR]
    have CC : Hid (∀ wr : World, Below w.heap.size w wr → Calls Tryd.prog 59 #[.slice aL nL cL, .func (.func 74) #[] #[]] wr fun e w' => e = .returned (.bool z) ∧ Below wr.heap.size wr w') := Lib.hid fun wr hb => by
      rw [hz]
      refine ContV_any _ eg_sound1 _ aL nL cL kids wr o.lc o.l ?_ (fun i hi => (hk i hi).below hb) fun i hi w' hb' => sound1_any _ _ _ (((hk i hi).below hb).below hb') fun w2 hb2 => ih i w2 ((((hk i hi).below hb).below hb').below hb2) (Utf8Tabs_below (Utf8Tabs_below (Utf8Tabs_below hU hb) hb') hb2) (((hT.below hb).below hb').below hb2)
      rcases hL with h | ⟨b, off, h1, h2, h3⟩
      · exact .inl h
      · exact .inr ⟨b, off, h1, Nat.lt_of_lt_of_le h2 hb.size, fun i hi j hj => by rw [hb.cell (p := ⟨b, off + i * 10 + j, none⟩) h2]; exact h3 i hi j hj⟩
    clear ih hk hR hz hL
    have hV := o.v
    by_cases k7 : kind = 7
    · subst k7
      refine sound_7 neg V bits text aL nL cL aK nK cK w _ z _ o.n (Lib.hid ?_) (eqSc_z (b' := 0) hV) CC
      simp [midB, eqB, bareNeg, bareV, bareB, bareT]
    by_cases k8 : kind = 8
    · subst k8
      refine sound_8 (riseB keys nK) neg V bits text aL nL cL aK nK cK w _ z _ o.l (Lib.hid ?_) (eqSc_z (b' := 0) hV) (Lib.hid fun wr hb => rise_any aK nK cK keys wr (Utf8Tabs_below hU hb) o.nc o.n ?_) CC
      · simp [midB, eqB, bareNeg, bareV, bareB, bareT]
      · rcases hKy with h | ⟨b, off, h1, h2, h3⟩
        · exact .inl h
        · exact .inr ⟨b, off, h1, Nat.lt_of_lt_of_le h2 hb.size, fun i hi => ⟨by rw [hb.cell (p := ⟨b, off + i, none⟩) h2]; exact (h3 i hi).1, (h3 i hi).2⟩⟩
    have hmid : ∀ x : Bool, nL = 0 ∧ nK = 0 → midB kind neg V bits text nL nK keys = (decide (kind = 1) || decide (kind = 2) || decide (kind = 3) && mayI neg V || decide (kind = 4) && mayF bits || decide (kind = 5) && validS text || decide (kind = 6)) := fun _ h => by
      unfold midB
      rw [if_neg k7, if_neg k8, h.1, h.2]
      simp
    by_cases h0 : nL = 0 ∧ nK = 0
    · have hm := hmid true h0
      obtain ⟨rfl, rfl⟩ := h0
      rw [hm]
      clear hm hmid
      by_cases k1 : kind = 1
      · subst k1
        refine sound_1 neg V bits text aL cL aK cK w _ z _ (Lib.hid ?_) (eqSc_z (b' := 0) hV) CC
        simp [eqB, bareNeg, bareV, bareB, bareT]
      by_cases k2 : kind = 2
      · subst k2
        refine sound_2 neg V bits text aL cL aK cK w _ z _ _ (Lib.hid ?_) (eqSc_z (b' := bits % 2) hV) (and_one o.b) CC
        simp [eqB, bareNeg, bareV, bareB, bareT]
      by_cases k3 : kind = 3
      · subst k3
        refine sound_3 (mayI neg V) neg V bits text aL cL aK cK w _ z _ (Lib.hid ?_) (eqSc_lm (b' := 0) hV hV) (Lib.hid fun wr _ => May_any neg V hV wr) CC
        simp [eqB, bareNeg, bareV, bareB, bareT]
      by_cases k4 : kind = 4
      · subst k4
        refine sound_4 (mayF bits) neg V bits text aL cL aK cK w _ z _ (Lib.hid ?_) (eqSc_z (b' := bits) hV) (Lib.hid fun wr hb => MayF_any bits o.b wr (hT.below hb)) CC
        simp [eqB, bareNeg, bareV, bareB, bareT]
      by_cases k5 : kind = 5
      · subst k5
        refine sound_5 (validS text) neg V bits text aL cL aK cK w _ z _ (Lib.hid ?_) (eqSc_z (b' := 0) hV) (Lib.hid fun wr hb => PValid_any text wr o.t (Utf8Tabs_below hU hb)) CC
        simp [eqB, bareNeg, bareV, bareB, bareT]
      by_cases k6 : kind = 6
      · subst k6
        refine sound_6 neg V bits text aL cL aK cK w _ z _ (Lib.hid ?_) (eqSc_z (b' := 0) hV) CC
        simp [eqB, bareNeg, bareV, bareB, bareT]
      have e : (decide (kind = 1) || decide (kind = 2) || decide (kind = 3) && mayI neg V || decide (kind = 4) && mayF bits || decide (kind = 5) && validS text || decide (kind = 6)) = false := by simp [k1, k2, k3, k4, k5, k6]
      rw [e]
      exact sound_else kind neg V bits text aL cL aK cK w k1 k2 k3 k4 k5 k6 k7 k8
    · have e : midB kind neg V bits text nL nK keys = false := by
        unfold midB
        rw [if_neg k7, if_neg k8]
        have : (nL == 0 && nK == 0) = false := by
          rw [← Bool.not_eq_true]
          simpa using h0
        rw [this, Bool.false_and]
      rw [e]
      exact sound_no kind neg V bits text aL nL cL aK nK cK w o.l (by simpa using k7) (by simpa using k8) (by omega)
/-- what a value's May answers -/
def VT.may (T : VT) : Int := if 16 < T.depth then 4 else if 10000 < T.nodes ∨ T.long = true then 8 else if T.right = true then 0 else 1
structure MayC (w : World) (v : Value) (D N : Nat) (l r : Bool) : Prop where
  c1 : ∀ w' : World, Below w.heap.size w w' → Calls Tryd.prog 18 #[v] w' fun e w2 => e = .returned (.int .i64 (D : Nat)) ∧ Below w'.heap.size w' w2
  c2 : ∀ w' : World, Below w.heap.size w w' → Calls Tryd.prog 20 #[v] w' fun e w2 => e = .returned (.int .i64 (N : Nat)) ∧ Below w'.heap.size w' w2
  c3 : ∀ w' : World, Below w.heap.size w w' → Calls Tryd.prog 35 #[v] w' fun e w2 => e = .returned (.bool l) ∧ Below w'.heap.size w' w2
  c4 : l = false → ∀ w' : World, Below w.heap.size w w' → Calls Tryd.prog 36 #[v] w' fun e w2 => e = .returned (.bool r) ∧ Below w'.heap.size w' w2
set_option maxRecDepth 20000 in
set_option maxHeartbeats 4000000 in
theorem May_walk (kind : Int) (neg : Bool) (V bits : Nat) (text : ByteArray) (aL : Option Addr) (nL cL : Nat) (aK : Option Addr) (nK cK : Nat) (D N : Nat) (l r : Bool) (w : World) (hD : D < 4611686018427387904) (hN : N < 4611686018427387904) (C : Hid (MayC w (.agg #[.int .i64 kind, .bool neg, .int .u64 (lm V 0 : Nat), .int .u64 (lm V 1 : Nat), .int .u64 (lm V 2 : Nat), .int .u64 (lm V 3 : Nat), .int .u64 (bits : Nat), .string text, .slice aL nL cL, .slice aK nK cK]) D N l r)) :
    Calls Tryd.prog 16 #[.agg #[.int .i64 kind, .bool neg, .int .u64 (lm V 0 : Nat), .int .u64 (lm V 1 : Nat), .int .u64 (lm V 2 : Nat), .int .u64 (lm V 3 : Nat), .int .u64 (bits : Nat), .string text, .slice aL nL cL, .slice aK nK cK]] w fun e w' => e = .returned (.int .i64 (if 16 < D then 4 else if 10000 < N ∨ l = true then 8 else if r = true then 0 else 1)) ∧ Below w.heap.size w w' := by
  have V0 := Lib.hid (show VBx (w.alloc (.cells #[.int .i64 kind, .bool neg, .int .u64 (lm V 0 : Nat), .int .u64 (lm V 1 : Nat), .int .u64 (lm V 2 : Nat), .int .u64 (lm V 3 : Nat), .int .u64 (bits : Nat), .string text, .slice aL nL cL, .slice aK nK cK] 30)) w.heap.size kind neg V bits text aL nL cL aK nK cK from ⟨by simp [go_sem]⟩)
  by_cases h1 : 16 < D
  · rw [if_pos h1]
    have h1i : (16 : Int) < (D : Int) := by omega
    go_enter Tryd.func16, Tryd.ntmps16
    repeat any_goals (first | (go_at_call 18; with_reducible refine (C.out.c1 _ (by (repeat first | with_reducible exact Below.refl _ _ | with_reducible assumption | with_reducible refine Below.drew ?_ | with_reducible refine below_alloc ?_ _ | ((with_reducible refine Below.setCell ?_ ?_ _); rotate_left; (focus (first | with_reducible exact Nat.le_refl _ | (simp; done) | (simp; omega) | omega))) | (with_reducible refine below_trans ?_ (by assumption))))).mono ?_; rintro e w1 ⟨rfl, hb1⟩; (first | have V1 := Lib.hid (V0.out.below hb1) | have V1 := Lib.hid (V0.out.step hb1)); obtain ⟨_, _, _, _, _, _, _, _, _, _⟩ := V1.out.all) | go_skip | go_guarded | go_step | go_upon | (dsimp only []))
    exact bodyPost_ret (v := .int .i64 4) (by simp [results, Tryd.results16, go_sem]) rfl ⟨rfl, by (repeat first | with_reducible exact Below.refl _ _ | with_reducible assumption | with_reducible refine Below.drew ?_ | with_reducible refine below_alloc ?_ _ | ((with_reducible refine Below.setCell ?_ ?_ _); rotate_left; (focus (first | with_reducible exact Nat.le_refl _ | (simp; done) | (simp; omega) | omega))) | (with_reducible refine below_trans ?_ (by assumption)))⟩
  · rw [if_neg h1]
    have h1i : ¬ (16 : Int) < (D : Int) := by omega
    by_cases h2 : 10000 < N
    · rw [if_pos (.inl h2)]
      have h2i : (10000 : Int) < (N : Int) := by omega
      go_enter Tryd.func16, Tryd.ntmps16
      repeat any_goals (first | (go_at_call 18; with_reducible refine (C.out.c1 _ (by (repeat first | with_reducible exact Below.refl _ _ | with_reducible assumption | with_reducible refine Below.drew ?_ | with_reducible refine below_alloc ?_ _ | ((with_reducible refine Below.setCell ?_ ?_ _); rotate_left; (focus (first | with_reducible exact Nat.le_refl _ | (simp; done) | (simp; omega) | omega))) | (with_reducible refine below_trans ?_ (by assumption))))).mono ?_; rintro e w1 ⟨rfl, hb1⟩; (first | have V1 := Lib.hid (V0.out.below hb1) | have V1 := Lib.hid (V0.out.step hb1)); obtain ⟨_, _, _, _, _, _, _, _, _, _⟩ := V1.out.all) | (go_at_call 20; with_reducible refine (C.out.c2 _ (by (repeat first | with_reducible exact Below.refl _ _ | with_reducible assumption | with_reducible refine Below.drew ?_ | with_reducible refine below_alloc ?_ _ | ((with_reducible refine Below.setCell ?_ ?_ _); rotate_left; (focus (first | with_reducible exact Nat.le_refl _ | (simp; done) | (simp; omega) | omega))) | (with_reducible refine below_trans ?_ (by assumption))))).mono ?_; rintro e w2 ⟨rfl, hb2⟩; (first | have V2 := Lib.hid (V1.out.below hb2) | have V2 := Lib.hid (V1.out.step hb2)); obtain ⟨_, _, _, _, _, _, _, _, _, _⟩ := V2.out.all) | go_skip | go_guarded | go_step | go_upon | (dsimp only []))
      exact bodyPost_ret (v := .int .i64 8) (by simp [results, Tryd.results16, go_sem]) rfl ⟨rfl, by (repeat first | with_reducible exact Below.refl _ _ | with_reducible assumption | with_reducible refine Below.drew ?_ | with_reducible refine below_alloc ?_ _ | ((with_reducible refine Below.setCell ?_ ?_ _); rotate_left; (focus (first | with_reducible exact Nat.le_refl _ | (simp; done) | (simp; omega) | omega))) | (with_reducible refine below_trans ?_ (by assumption)))⟩
    · have h2i : ¬ (10000 : Int) < (N : Int) := by omega
      cases l with
      | true =>
        rw [if_pos (.inr rfl)]
        go_enter Tryd.func16, Tryd.ntmps16
        repeat any_goals (first | (go_at_call 18; with_reducible refine (C.out.c1 _ (by (repeat first | with_reducible exact Below.refl _ _ | with_reducible assumption | with_reducible refine Below.drew ?_ | with_reducible refine below_alloc ?_ _ | ((with_reducible refine Below.setCell ?_ ?_ _); rotate_left; (focus (first | with_reducible exact Nat.le_refl _ | (simp; done) | (simp; omega) | omega))) | (with_reducible refine below_trans ?_ (by assumption))))).mono ?_; rintro e w1 ⟨rfl, hb1⟩; (first | have V1 := Lib.hid (V0.out.below hb1) | have V1 := Lib.hid (V0.out.step hb1)); obtain ⟨_, _, _, _, _, _, _, _, _, _⟩ := V1.out.all) | (go_at_call 20; with_reducible refine (C.out.c2 _ (by (repeat first | with_reducible exact Below.refl _ _ | with_reducible assumption | with_reducible refine Below.drew ?_ | with_reducible refine below_alloc ?_ _ | ((with_reducible refine Below.setCell ?_ ?_ _); rotate_left; (focus (first | with_reducible exact Nat.le_refl _ | (simp; done) | (simp; omega) | omega))) | (with_reducible refine below_trans ?_ (by assumption))))).mono ?_; rintro e w2 ⟨rfl, hb2⟩; (first | have V2 := Lib.hid (V1.out.below hb2) | have V2 := Lib.hid (V1.out.step hb2)); obtain ⟨_, _, _, _, _, _, _, _, _, _⟩ := V2.out.all) | (go_at_call 35; with_reducible refine (C.out.c3 _ (by (repeat first | with_reducible exact Below.refl _ _ | with_reducible assumption | with_reducible refine Below.drew ?_ | with_reducible refine below_alloc ?_ _ | ((with_reducible refine Below.setCell ?_ ?_ _); rotate_left; (focus (first | with_reducible exact Nat.le_refl _ | (simp; done) | (simp; omega) | omega))) | (with_reducible refine below_trans ?_ (by assumption))))).mono ?_; rintro e w3 ⟨rfl, hb3⟩; (first | have V3 := Lib.hid (V2.out.below hb3) | have V3 := Lib.hid (V2.out.step hb3)); obtain ⟨_, _, _, _, _, _, _, _, _, _⟩ := V3.out.all) | go_skip | go_guarded | go_step | go_upon | (dsimp only []))
        exact bodyPost_ret (v := .int .i64 8) (by simp [results, Tryd.results16, go_sem]) rfl ⟨rfl, by (repeat first | with_reducible exact Below.refl _ _ | with_reducible assumption | with_reducible refine Below.drew ?_ | with_reducible refine below_alloc ?_ _ | ((with_reducible refine Below.setCell ?_ ?_ _); rotate_left; (focus (first | with_reducible exact Nat.le_refl _ | (simp; done) | (simp; omega) | omega))) | (with_reducible refine below_trans ?_ (by assumption)))⟩
      | false =>
        rw [if_neg (fun h => h.elim h2 Bool.false_ne_true)]
        cases r with
        | true =>
          rw [if_pos rfl]
          go_enter Tryd.func16, Tryd.ntmps16
          repeat any_goals (first | (go_at_call 18; with_reducible refine (C.out.c1 _ (by (repeat first | with_reducible exact Below.refl _ _ | with_reducible assumption | with_reducible refine Below.drew ?_ | with_reducible refine below_alloc ?_ _ | ((with_reducible refine Below.setCell ?_ ?_ _); rotate_left; (focus (first | with_reducible exact Nat.le_refl _ | (simp; done) | (simp; omega) | omega))) | (with_reducible refine below_trans ?_ (by assumption))))).mono ?_; rintro e w1 ⟨rfl, hb1⟩; (first | have V1 := Lib.hid (V0.out.below hb1) | have V1 := Lib.hid (V0.out.step hb1)); obtain ⟨_, _, _, _, _, _, _, _, _, _⟩ := V1.out.all) | (go_at_call 20; with_reducible refine (C.out.c2 _ (by (repeat first | with_reducible exact Below.refl _ _ | with_reducible assumption | with_reducible refine Below.drew ?_ | with_reducible refine below_alloc ?_ _ | ((with_reducible refine Below.setCell ?_ ?_ _); rotate_left; (focus (first | with_reducible exact Nat.le_refl _ | (simp; done) | (simp; omega) | omega))) | (with_reducible refine below_trans ?_ (by assumption))))).mono ?_; rintro e w2 ⟨rfl, hb2⟩; (first | have V2 := Lib.hid (V1.out.below hb2) | have V2 := Lib.hid (V1.out.step hb2)); obtain ⟨_, _, _, _, _, _, _, _, _, _⟩ := V2.out.all) | (go_at_call 35; with_reducible refine (C.out.c3 _ (by (repeat first | with_reducible exact Below.refl _ _ | with_reducible assumption | with_reducible refine Below.drew ?_ | with_reducible refine below_alloc ?_ _ | ((with_reducible refine Below.setCell ?_ ?_ _); rotate_left; (focus (first | with_reducible exact Nat.le_refl _ | (simp; done) | (simp; omega) | omega))) | (with_reducible refine below_trans ?_ (by assumption))))).mono ?_; rintro e w3 ⟨rfl, hb3⟩; (first | have V3 := Lib.hid (V2.out.below hb3) | have V3 := Lib.hid (V2.out.step hb3)); obtain ⟨_, _, _, _, _, _, _, _, _, _⟩ := V3.out.all) | (go_at_call 36; refine (C.out.c4 rfl _ (by (repeat first | with_reducible exact Below.refl _ _ | with_reducible assumption | with_reducible refine Below.drew ?_ | with_reducible refine below_alloc ?_ _ | ((with_reducible refine Below.setCell ?_ ?_ _); rotate_left; (focus (first | with_reducible exact Nat.le_refl _ | (simp; done) | (simp; omega) | omega))) | (with_reducible refine below_trans ?_ (by assumption))))).mono ?_; rintro e w4 ⟨rfl, hb4⟩) | go_skip | go_guarded | go_step | go_upon | (dsimp only []))
          exact bodyPost_ret (v := .int .i64 0) (by simp [results, Tryd.results16, go_sem]) rfl ⟨rfl, by (repeat first | with_reducible exact Below.refl _ _ | with_reducible assumption | with_reducible refine Below.drew ?_ | with_reducible refine below_alloc ?_ _ | ((with_reducible refine Below.setCell ?_ ?_ _); rotate_left; (focus (first | with_reducible exact Nat.le_refl _ | (simp; done) | (simp; omega) | omega))) | (with_reducible refine below_trans ?_ (by assumption)))⟩
        | false =>
          rw [if_neg Bool.false_ne_true]
          go_enter Tryd.func16, Tryd.ntmps16
          repeat any_goals (first | (go_at_call 18; with_reducible refine (C.out.c1 _ (by (repeat first | with_reducible exact Below.refl _ _ | with_reducible assumption | with_reducible refine Below.drew ?_ | with_reducible refine below_alloc ?_ _ | ((with_reducible refine Below.setCell ?_ ?_ _); rotate_left; (focus (first | with_reducible exact Nat.le_refl _ | (simp; done) | (simp; omega) | omega))) | (with_reducible refine below_trans ?_ (by assumption))))).mono ?_; rintro e w1 ⟨rfl, hb1⟩; (first | have V1 := Lib.hid (V0.out.below hb1) | have V1 := Lib.hid (V0.out.step hb1)); obtain ⟨_, _, _, _, _, _, _, _, _, _⟩ := V1.out.all) | (go_at_call 20; with_reducible refine (C.out.c2 _ (by (repeat first | with_reducible exact Below.refl _ _ | with_reducible assumption | with_reducible refine Below.drew ?_ | with_reducible refine below_alloc ?_ _ | ((with_reducible refine Below.setCell ?_ ?_ _); rotate_left; (focus (first | with_reducible exact Nat.le_refl _ | (simp; done) | (simp; omega) | omega))) | (with_reducible refine below_trans ?_ (by assumption))))).mono ?_; rintro e w2 ⟨rfl, hb2⟩; (first | have V2 := Lib.hid (V1.out.below hb2) | have V2 := Lib.hid (V1.out.step hb2)); obtain ⟨_, _, _, _, _, _, _, _, _, _⟩ := V2.out.all) | (go_at_call 35; with_reducible refine (C.out.c3 _ (by (repeat first | with_reducible exact Below.refl _ _ | with_reducible assumption | with_reducible refine Below.drew ?_ | with_reducible refine below_alloc ?_ _ | ((with_reducible refine Below.setCell ?_ ?_ _); rotate_left; (focus (first | with_reducible exact Nat.le_refl _ | (simp; done) | (simp; omega) | omega))) | (with_reducible refine below_trans ?_ (by assumption))))).mono ?_; rintro e w3 ⟨rfl, hb3⟩; (first | have V3 := Lib.hid (V2.out.below hb3) | have V3 := Lib.hid (V2.out.step hb3)); obtain ⟨_, _, _, _, _, _, _, _, _, _⟩ := V3.out.all) | (go_at_call 36; refine (C.out.c4 rfl _ (by (repeat first | with_reducible exact Below.refl _ _ | with_reducible assumption | with_reducible refine Below.drew ?_ | with_reducible refine below_alloc ?_ _ | ((with_reducible refine Below.setCell ?_ ?_ _); rotate_left; (focus (first | with_reducible exact Nat.le_refl _ | (simp; done) | (simp; omega) | omega))) | (with_reducible refine below_trans ?_ (by assumption))))).mono ?_; rintro e w4 ⟨rfl, hb4⟩) | go_skip | go_guarded | go_step | go_upon | (dsimp only []))
          exact bodyPost_ret (v := .int .i64 1) (by simp [results, Tryd.results16, go_sem]) rfl ⟨rfl, by (repeat first | with_reducible exact Below.refl _ _ | with_reducible assumption | with_reducible refine Below.drew ?_ | with_reducible refine below_alloc ?_ _ | ((with_reducible refine Below.setCell ?_ ?_ _); rotate_left; (focus (first | with_reducible exact Nat.le_refl _ | (simp; done) | (simp; omega) | omega))) | (with_reducible refine below_trans ?_ (by assumption)))⟩
theorem MayV_any (T : VT) (w : World) (hin : T.In w) (hU : U8T w) (hT : Tab w) (hN : T.nodes < 4611686018427387904) :
    Calls Tryd.prog 16 #[T.agg] w fun e w' => e = .returned (.int .i64 T.may) ∧ Below w.heap.size w w' := by
  have C : Hid (MayC w T.agg T.depth T.nodes T.long T.right) := Lib.hid ⟨fun w' hb => Depth_any T w' (hin.below hb) hN, fun w' hb => Nodes_any T w' (hin.below hb) hN, fun w' hb => Long_any T w' (hin.below hb), fun _ w' hb => Sound_any T w' (hin.below hb) (Utf8Tabs_below hU hb) (hT.below hb)⟩
  have hD := T.depth_nodes
  unfold VT.may
  cases T with
  | nil => exact hin.elim
  | mk kind neg V bits text aL nL cL kids aK nK cK keys => exact May_walk kind neg V bits text aL nL cL aK nK cK _ _ _ _ w (by omega) hN C
end Go.Proofs.YtminijokbeclhaaDoor
