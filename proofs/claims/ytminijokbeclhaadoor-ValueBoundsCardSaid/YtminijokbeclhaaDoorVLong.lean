/- Contracts: long, of the program and of the document: is something in a value too long? -/
import Derived.Test.YtminijokbeclhaaDoorVCf
import Derived.Shelf.Abstract
namespace Go.Proofs.YtminijokbeclhaaDoor
open Go.RowKit
def VT.long : VT → Bool
  | .nil => false
  | .mk _ _ _ _ text _ nL _ kids _ nK _ keys => if 1000 < nL ∨ 1000 < nK ∨ 4096 < text.size then true else if anyN (fun i => decide (4096 < (keys i).size)) nK = true then true else anyN (fun i => (kids i).long) nL
theorem long1_any (s : ByteArray) (w : World) (hs : s.size ≤ maxLen) : Calls Tryd.prog 69 #[.string s] w fun e w' => e = .returned (.bool (decide (4096 < s.size))) ∧ Below w.heap.size w w' := by
  simp only [maxLen] at hs
  by_cases c : 4096 < s.size
  · have ci : (4096 : Int) < (s.size : Int) := by omega
    rw [decide_eq_true c]
    go_enter Tryd.func69, Tryd.ntmps69
    repeat any_goals (first | go_skip | go_guarded | go_step | go_upon | (simp only []; done))
    exact bodyPost_ret (v := .bool true) (by simp [results, Tryd.results69, go_sem]) rfl ⟨rfl, by (repeat first | with_reducible exact Below.refl _ _ | with_reducible assumption | with_reducible refine Below.drew ?_ | with_reducible refine below_alloc ?_ _ | ((with_reducible refine Below.setCell ?_ ?_ _); rotate_left; (focus (first | with_reducible exact Nat.le_refl _ | (simp; done) | (simp; omega) | omega))) | (with_reducible refine below_trans ?_ (by assumption)))⟩
  · have ci : ¬ (4096 : Int) < (s.size : Int) := by omega
    rw [decide_eq_false c]
    go_enter Tryd.func69, Tryd.ntmps69
    repeat any_goals (first | go_skip | go_guarded | go_step | go_upon | (simp only []; done))
    exact bodyPost_ret (v := .bool false) (by simp [results, Tryd.results69, go_sem]) rfl ⟨rfl, by (repeat first | with_reducible exact Below.refl _ _ | with_reducible assumption | with_reducible refine Below.drew ?_ | with_reducible refine below_alloc ?_ _ | ((with_reducible refine Below.setCell ?_ ?_ _); rotate_left; (focus (first | with_reducible exact Nat.le_refl _ | (simp; done) | (simp; omega) | omega))) | (with_reducible refine below_trans ?_ (by assumption)))⟩
theorem eg_long1 (args : Array Value) (W : World) : (callFunc 69 args).run Tryd.prog W = .ok (.enter 69 args) W := enters_of Tryd.func69 (by kernel_rfl) rfl args W
theorem eg_long (args : Array Value) (W : World) : (callFunc 35 args).run Tryd.prog W = .ok (.enter 35 args) W := enters_of Tryd.func35 (by kernel_rfl) rfl args W
set_option maxRecDepth 20000 in
set_option maxHeartbeats 1000000 in
theorem Long_any : ∀ (T : VT) (w : World), T.In w → Calls Tryd.prog 35 #[T.agg] w fun e w' => e = .returned (.bool T.long) ∧ Below w.heap.size w w' := by
  intro T
  induction T with
  | nil => exact fun w h => h.elim
  | mk kind neg V bits text aL nL cL kids aK nK cK keys ih =>
    intro w hin
    obtain ⟨o, hL, hk, hKy⟩ := hin
    simp only [VT.agg, VT.cells, VT.long]
    obtain ⟨R, hR⟩ : ∃ R, R = (if 1000 < nL ∨ 1000 < nK ∨ 4096 < text.size then true else if anyN (fun i => decide (4096 < (keys i).size)) nK = true then true else anyN (fun i => (kids i).long) nL) := ⟨_, rfl⟩
    rw [← hR]
    have HL := Lib.hid hL
    have HK := Lib.hid hk
    have HKy := Lib.hid hKy
    have HR := Lib.hid hR
    have IH := Lib.hid ih
    have hcL := o.lc
    have hlL := o.l
    have hcK := o.nc
    have hlK := o.n
    have ht := o.t
    clear hL hk hR ih hKy
    simp only [maxLen] at hcL hcK ht
    by_cases c1 : 1000 < nL
    · have e := HR.out
      rw [if_pos (.inl c1)] at e
      subst e
      have c1i : (1000 : Int) < (nL : Int) := by omega
      go_enter Tryd.func35, Tryd.ntmps35
      repeat any_goals (first | go_skip | go_guarded | go_step | go_upon | (simp only []; done))
      exact bodyPost_ret (v := .bool true) (by simp [results, Tryd.results35, go_sem]) rfl ⟨rfl, by (repeat first | with_reducible exact Below.refl _ _ | with_reducible assumption | with_reducible refine Below.drew ?_ | with_reducible refine below_alloc ?_ _ | ((with_reducible refine Below.setCell ?_ ?_ _); rotate_left; (focus (first | with_reducible exact Nat.le_refl _ | (simp; done) | (simp; omega) | omega))) | (with_reducible refine below_trans ?_ (by assumption)))⟩
    have c1i : ¬ (1000 : Int) < (nL : Int) := by omega
    by_cases c2 : 1000 < nK
    · have e := HR.out
      rw [if_pos (.inr (.inl c2))] at e
      subst e
      have c2i : (1000 : Int) < (nK : Int) := by omega
      go_enter Tryd.func35, Tryd.ntmps35
      repeat any_goals (first | go_skip | go_guarded | go_step | go_upon | (simp only []; done))
      exact bodyPost_ret (v := .bool true) (by simp [results, Tryd.results35, go_sem]) rfl ⟨rfl, by (repeat first | with_reducible exact Below.refl _ _ | with_reducible assumption | with_reducible refine Below.drew ?_ | with_reducible refine below_alloc ?_ _ | ((with_reducible refine Below.setCell ?_ ?_ _); rotate_left; (focus (first | with_reducible exact Nat.le_refl _ | (simp; done) | (simp; omega) | omega))) | (with_reducible refine below_trans ?_ (by assumption)))⟩
    have c2i : ¬ (1000 : Int) < (nK : Int) := by omega
    by_cases c3 : 4096 < text.size
    · have e := HR.out
      rw [if_pos (.inr (.inr c3))] at e
      subst e
      have c3i : (4096 : Int) < (text.size : Int) := by omega
      go_enter Tryd.func35, Tryd.ntmps35
      repeat any_goals (first | go_skip | go_guarded | go_step | go_upon | (simp only []; done))
      exact bodyPost_ret (v := .bool true) (by simp [results, Tryd.results35, go_sem]) rfl ⟨rfl, by (repeat first | with_reducible exact Below.refl _ _ | with_reducible assumption | with_reducible refine Below.drew ?_ | with_reducible refine below_alloc ?_ _ | ((with_reducible refine Below.setCell ?_ ?_ _); rotate_left; (focus (first | with_reducible exact Nat.le_refl _ | (simp; done) | (simp; omega) | omega))) | (with_reducible refine below_trans ?_ (by assumption)))⟩
    have c3i : ¬ (4096 : Int) < (text.size : Int) := by omega
    have e := HR.out
    rw [if_neg (by omega)] at e
    clear c1 c2 c3
    obtain ⟨x, hx⟩ : ∃ x, x = anyN (fun i => decide (4096 < (keys i).size)) nK := ⟨_, rfl⟩
    obtain ⟨y, hy⟩ : ∃ x, x = anyN (fun i => (kids i).long) nL := ⟨_, rfl⟩
    have hC1 : ∀ wr : World, Below w.heap.size w wr → Calls Tryd.prog 68 #[.slice aK nK cK, .func (.func 69) #[] #[]] wr fun e w' => e = .returned (.bool x) ∧ Below wr.heap.size wr w' := fun wr hb => by
      rw [hx]
      refine ContK_any _ eg_long1 _ aK nK cK keys wr (by simp only [maxLen]; exact hcK) hlK ?_ fun i hi w' hb' => long1_any _ _ ?_
      · rcases HKy.out with h | ⟨b, off, h1, h2, h3⟩
        · exact .inl h
        · exact .inr ⟨b, off, h1, Nat.lt_of_lt_of_le h2 hb.size, fun i hi => ⟨by rw [hb.cell (p := ⟨b, off + i, none⟩) h2]; exact (h3 i hi).1, (h3 i hi).2⟩⟩
      · rcases HKy.out with h | ⟨b, off, h1, h2, h3⟩
        · omega
        · exact (h3 i hi).2
    have hC2 : ∀ wr : World, Below w.heap.size w wr → Calls Tryd.prog 59 #[.slice aL nL cL, .func (.func 35) #[] #[]] wr fun e w' => e = .returned (.bool y) ∧ Below wr.heap.size wr w' := fun wr hb => by
      rw [hy]
      refine ContV_any _ eg_long _ aL nL cL kids wr (by simp only [maxLen]; exact hcL) hlL ?_ (fun i hi => (HK.out i hi).below hb) fun i hi w' hb' => IH.out i w' (((HK.out i hi).below hb).below hb')
      rcases HL.out with h | ⟨b, off, h1, h2, h3⟩
      · exact .inl h
      · exact .inr ⟨b, off, h1, Nat.lt_of_lt_of_le h2 hb.size, fun i hi j hj => by rw [hb.cell (p := ⟨b, off + i * 10 + j, none⟩) h2]; exact h3 i hi j hj⟩
    rw [← hx, ← hy] at e
    clear hx hy HL HK HKy HR IH
    have C1 := Lib.hid hC1
    have C2 := Lib.hid hC2
    clear hC1 hC2
    cases x with
    | true =>
      rw [if_pos rfl] at e
      subst e
      go_enter Tryd.func35, Tryd.ntmps35
      repeat any_goals (first | (go_at_call 68; refine (C1.out _ (by (repeat first | with_reducible exact Below.refl _ _ | with_reducible assumption | with_reducible refine Below.drew ?_ | with_reducible refine below_alloc ?_ _ | ((with_reducible refine Below.setCell ?_ ?_ _); rotate_left; (focus (first | with_reducible exact Nat.le_refl _ | (simp; done) | (simp; omega) | omega))) | (with_reducible refine below_trans ?_ (by assumption))))).mono ?_; rintro e w1 ⟨rfl, hb1⟩) | go_skip | go_guarded | go_step | go_upon | (dsimp only []))
      exact bodyPost_ret (v := .bool true) (by simp [results, Tryd.results35, go_sem]) rfl ⟨rfl, by (repeat first | with_reducible exact Below.refl _ _ | with_reducible assumption | with_reducible refine Below.drew ?_ | with_reducible refine below_alloc ?_ _ | ((with_reducible refine Below.setCell ?_ ?_ _); rotate_left; (focus (first | with_reducible exact Nat.le_refl _ | (simp; done) | (simp; omega) | omega))) | (with_reducible refine below_trans ?_ (by assumption)))⟩
    | false =>
      rw [if_neg Bool.false_ne_true] at e
      subst e
      go_enter Tryd.func35, Tryd.ntmps35
      repeat any_goals (first | (go_at_call 68; refine (C1.out _ (by (repeat first | with_reducible exact Below.refl _ _ | with_reducible assumption | with_reducible refine Below.drew ?_ | with_reducible refine below_alloc ?_ _ | ((with_reducible refine Below.setCell ?_ ?_ _); rotate_left; (focus (first | with_reducible exact Nat.le_refl _ | (simp; done) | (simp; omega) | omega))) | (with_reducible refine below_trans ?_ (by assumption))))).mono ?_; rintro e w1 ⟨rfl, hb1⟩; have h8 := keep_cell (p := ⟨w.heap.size, 8, none⟩) (v := .slice aL nL cL) hb1 (by simp [go_sem])) | (go_at_call 59; refine (C2.out _ (by (repeat first | with_reducible exact Below.refl _ _ | with_reducible assumption | with_reducible refine Below.drew ?_ | with_reducible refine below_alloc ?_ _ | ((with_reducible refine Below.setCell ?_ ?_ _); rotate_left; (focus (first | with_reducible exact Nat.le_refl _ | (simp; done) | (simp; omega) | omega))) | (with_reducible refine below_trans ?_ (by assumption))))).mono ?_; rintro e w2 ⟨rfl, hb2⟩) | go_skip | go_guarded | go_step | go_upon | (dsimp only []))
      exact bodyPost_ret (v := .bool R) (by simp [results, Tryd.results35, go_sem]) rfl ⟨rfl, by (repeat first | with_reducible exact Below.refl _ _ | with_reducible assumption | with_reducible refine Below.drew ?_ | with_reducible refine below_alloc ?_ _ | ((with_reducible refine Below.setCell ?_ ?_ _); rotate_left; (focus (first | with_reducible exact Nat.le_refl _ | (simp; done) | (simp; omega) | omega))) | (with_reducible refine below_trans ?_ (by assumption)))⟩
set_option maxRecDepth 20000 in
set_option maxHeartbeats 1000000 in
theorem RLong_any : ∀ (T : VT) (w : World), T.In w → Calls Tryd.prog 37 #[T.agg] w fun e w' => e = .returned (.bool T.long) ∧ Below w.heap.size w w' := by
  intro T
  induction T with
  | nil => exact fun w h => h.elim
  | mk kind neg V bits text aL nL cL kids aK nK cK keys ih =>
    intro w hin
    obtain ⟨o, hL, hk, hKy⟩ := hin
    simp only [VT.agg, VT.cells, VT.long]
    obtain ⟨R, hR⟩ : ∃ R, R = (if 1000 < nL ∨ 1000 < nK ∨ 4096 < text.size then true else if anyN (fun i => decide (4096 < (keys i).size)) nK = true then true else anyN (fun i => (kids i).long) nL) := ⟨_, rfl⟩
    rw [← hR]
    have HL := Lib.hid hL
    have HK := Lib.hid hk
    have HKy := Lib.hid hKy
    have HR := Lib.hid hR
    have IH := Lib.hid ih
    have hcL := o.lc
    have hlL := o.l
    have hcK := o.nc
    have hlK := o.n
    have ht := o.t
    clear hL hk hR ih hKy
    simp only [maxLen] at hcL hcK ht
    by_cases c1 : 1000 < nL
    · have e := HR.out
      rw [if_pos (.inl c1)] at e
      subst e
      have c1i : (1000 : Int) < (nL : Int) := by omega
      go_enter Tryd.func37, Tryd.ntmps37
      repeat any_goals (first | go_skip | go_guarded | go_step | go_upon | (simp only []; done))
      exact bodyPost_ret (v := .bool true) (by simp [results, Tryd.results37, go_sem]) rfl ⟨rfl, by (repeat first | with_reducible exact Below.refl _ _ | with_reducible assumption | with_reducible refine Below.drew ?_ | with_reducible refine below_alloc ?_ _ | ((with_reducible refine Below.setCell ?_ ?_ _); rotate_left; (focus (first | with_reducible exact Nat.le_refl _ | (simp; done) | (simp; omega) | omega))) | (with_reducible refine below_trans ?_ (by assumption)))⟩
    have c1i : ¬ (1000 : Int) < (nL : Int) := by omega
    by_cases c2 : 1000 < nK
    · have e := HR.out
      rw [if_pos (.inr (.inl c2))] at e
      subst e
      have c2i : (1000 : Int) < (nK : Int) := by omega
      go_enter Tryd.func37, Tryd.ntmps37
      repeat any_goals (first | go_skip | go_guarded | go_step | go_upon | (simp only []; done))
      exact bodyPost_ret (v := .bool true) (by simp [results, Tryd.results37, go_sem]) rfl ⟨rfl, by (repeat first | with_reducible exact Below.refl _ _ | with_reducible assumption | with_reducible refine Below.drew ?_ | with_reducible refine below_alloc ?_ _ | ((with_reducible refine Below.setCell ?_ ?_ _); rotate_left; (focus (first | with_reducible exact Nat.le_refl _ | (simp; done) | (simp; omega) | omega))) | (with_reducible refine below_trans ?_ (by assumption)))⟩
    have c2i : ¬ (1000 : Int) < (nK : Int) := by omega
    by_cases c3 : 4096 < text.size
    · have e := HR.out
      rw [if_pos (.inr (.inr c3))] at e
      subst e
      have c3i : (4096 : Int) < (text.size : Int) := by omega
      go_enter Tryd.func37, Tryd.ntmps37
      repeat any_goals (first | go_skip | go_guarded | go_step | go_upon | (simp only []; done))
      exact bodyPost_ret (v := .bool true) (by simp [results, Tryd.results37, go_sem]) rfl ⟨rfl, by (repeat first | with_reducible exact Below.refl _ _ | with_reducible assumption | with_reducible refine Below.drew ?_ | with_reducible refine below_alloc ?_ _ | ((with_reducible refine Below.setCell ?_ ?_ _); rotate_left; (focus (first | with_reducible exact Nat.le_refl _ | (simp; done) | (simp; omega) | omega))) | (with_reducible refine below_trans ?_ (by assumption)))⟩
    have c3i : ¬ (4096 : Int) < (text.size : Int) := by omega
    have e := HR.out
    rw [if_neg (by omega)] at e
    have HE := Lib.hid e
    clear c1 c2 c3 e
    go_enter Tryd.func37, Tryd.ntmps37
    repeat any_goals (first | go_skip | go_guarded | go_step | go_upon | (simp only []; done))
    obtain ⟨wo, hwo⟩ : ∃ wo, wo = w.alloc (.cells #[.int .i64 kind, .bool neg, .int .u64 (lm V 0 : Nat), .int .u64 (lm V 1 : Nat), .int .u64 (lm V 2 : Nat), .int .u64 (lm V 3 : Nat), .int .u64 (bits : Nat), .string text, .slice aL nL cL, .slice aK nK cK] 30) := ⟨_, rfl⟩
    have hBo : Below w.heap.size w wo := by rw [hwo]; (repeat first | with_reducible exact Below.refl _ _ | with_reducible assumption | with_reducible refine Below.drew ?_ | with_reducible refine below_alloc ?_ _ | ((with_reducible refine Below.setCell ?_ ?_ _); rotate_left; (focus (first | with_reducible exact Nat.le_refl _ | (simp; done) | (simp; omega) | omega))) | (with_reducible refine below_trans ?_ (by assumption)))
    have h8 : wo.cell? ⟨w.heap.size, 8, none⟩ = some (.slice aL nL cL) := by rw [hwo]; simp [go_sem]
    have h9 : wo.cell? ⟨w.heap.size, 9, none⟩ = some (.slice aK nK cK) := by rw [hwo]; simp [go_sem]
    rw [← hwo]
    clear hwo
    go_loop [3] (fun i => ∃ k : Nat, k ≤ nK ∧ i = .int .i64 k ∧ anyN (fun i => decide (4096 < (keys i).size)) k = false) (fun i => nK - (intOf i).toNat)
    case atStart => exact ⟨0, Nat.zero_le _, rfl, rfl⟩
    case round =>
      obtain ⟨k, hk, rfl, hA⟩ := hrel
      have HA1 := Lib.hid hA
      clear hA
      by_cases hkn : k < nK
      · obtain ⟨b, off, rfl, hb, hc, hs⟩ := key_lit HKy.out hkn hBo
        simp only [maxLen] at hs
        have i1 : (k : Int) < (nK : Int) := by omega
        have i2 : (0 : Int) ≤ (k : Int) := by omega
        have i5 : (k : Int).toNat = k := rfl
        by_cases c1 : 4096 < (keys k).size
        · have c1i : (4096 : Int) < ((keys k).size : Int) := by omega
          have e := HE.out
          rw [if_pos (anyN_of (p := fun i => decide (4096 < (keys i).size)) (decide_eq_true c1) hkn)] at e
          subst e
          repeat any_goals (first | go_skip | go_guarded | go_step | go_upon | (simp only []; done))
          exact bodyPost_ret (v := .bool true) (by simp [results, Tryd.results37, go_sem]) rfl ⟨rfl, hBo⟩
        · have c1i : ¬ (4096 : Int) < ((keys k).size : Int) := by omega
          repeat any_goals (first | go_skip | go_guarded | go_step | go_upon | (simp only []; done))
          go_round
          case rel => exact ⟨k + 1, by omega, rfl, by simp only [anyN]; rw [HA1.out, decide_eq_false c1]; rfl⟩
          case measure => simp [intOf]; omega
      · have hk' : k = nK := by omega
        subst hk'
        have i1 : ¬ (k : Int) < (k : Int) := by omega
        have e := HE.out
        rw [if_neg (by rw [HA1.out]; exact Bool.false_ne_true)] at e
        have HE2 := Lib.hid e
        clear e
        repeat any_goals (first | go_skip | go_guarded | go_step | go_upon | (simp only []; done))
        go_loopw [4] (fun i wr => ∃ j : Nat, j ≤ nL ∧ i = .int .i64 j ∧ anyN (fun i => (kids i).long) j = false ∧ wr.cell? ⟨w.heap.size, 8, none⟩ = some (.slice aL nL cL) ∧ Below w.heap.size w wr) (fun i _ => nL - (intOf i).toNat)
        case atStart => exact ⟨0, Nat.zero_le _, rfl, rfl, h8, hBo⟩
        case round =>
          obtain ⟨j, hj, rfl, hA, h8, hW⟩ := hrel
          have HA2 := Lib.hid hA
          clear hA
          by_cases hjn : j < nL
          · obtain ⟨b, off, kind', neg', V', bits', text', aL', nL', cL', kids', aK', nK', cK', keys', rfl, hb, hkid, ⟨c0, c1, c2, c3, c4, c5, c6, c7, c8, c9⟩, hin'⟩ := kid_lit HL.out HK.out hjn hW
            have i1 : (j : Int) < (nL : Int) := by omega
            have i2 : (0 : Int) ≤ (j : Int) := by omega
            have i5 : (j : Int).toNat = j := rfl
            obtain ⟨x, hx⟩ : ∃ x : Bool, x = (kids j).long := ⟨_, rfl⟩
            have HC : ∀ w'' : World, Below wr.heap.size wr w'' → Calls Tryd.prog 37 #[(kids j).agg] w'' fun e w' => e = .returned (.bool x) ∧ Below w''.heap.size w'' w' := fun w'' hb => by
              have := IH.out j w'' (hin'.below hb)
              rwa [← hx] at this
            rw [hkid] at HC
            simp only [VT.agg, VT.cells] at HC
            have HC := Lib.hid HC
            have HX := Lib.hid hx
            clear hin' hkid hx
            cases x with
            | true =>
              have e := HE2.out
              rw [anyN_of (p := fun i => (kids i).long) HX.out.symm hjn] at e
              subst e
              repeat any_goals (first | (go_at_call 37; refine (HC.out _ (by (repeat first | with_reducible exact Below.refl _ _ | with_reducible assumption | with_reducible refine Below.drew ?_ | with_reducible refine below_alloc ?_ _ | ((with_reducible refine Below.setCell ?_ ?_ _); rotate_left; (focus (first | with_reducible exact Nat.le_refl _ | (simp; done) | (simp; omega) | omega))) | (with_reducible refine below_trans ?_ (by assumption))))).mono ?_; rintro e w1 ⟨rfl, hb1⟩) | go_skip | go_guarded | go_step | go_upon | (dsimp only []))
              exact bodyPost_ret (v := .bool true) (by simp [results, Tryd.results37, go_sem]) rfl ⟨rfl, by (repeat first | with_reducible exact Below.refl _ _ | with_reducible assumption | with_reducible refine Below.drew ?_ | with_reducible refine below_alloc ?_ _ | ((with_reducible refine Below.setCell ?_ ?_ _); rotate_left; (focus (first | with_reducible exact Nat.le_refl _ | (simp; done) | (simp; omega) | omega))) | (with_reducible refine below_trans ?_ (by assumption)))⟩
            | false =>
              repeat any_goals (first | (go_at_call 37; refine (HC.out _ (by (repeat first | with_reducible exact Below.refl _ _ | with_reducible assumption | with_reducible refine Below.drew ?_ | with_reducible refine below_alloc ?_ _ | ((with_reducible refine Below.setCell ?_ ?_ _); rotate_left; (focus (first | with_reducible exact Nat.le_refl _ | (simp; done) | (simp; omega) | omega))) | (with_reducible refine below_trans ?_ (by assumption))))).mono ?_; rintro e w1 ⟨rfl, hb1⟩) | go_skip | go_guarded | go_step | go_upon | (dsimp only []))
              go_roundw
              case rel => exact ⟨j + 1, by omega, rfl, by simp only [anyN]; rw [HA2.out, ← HX.out]; rfl, keep_cell hb1 (keep_cell (w1 := wr) (by (repeat first | with_reducible exact Below.refl _ _ | with_reducible assumption | with_reducible refine Below.drew ?_ | with_reducible refine below_alloc ?_ _ | ((with_reducible refine Below.setCell ?_ ?_ _); rotate_left; (focus (first | with_reducible exact Nat.le_refl _ | (simp; done) | (simp; omega) | omega))) | (with_reducible refine below_trans ?_ (by assumption)))) h8), by (repeat first | with_reducible exact Below.refl _ _ | with_reducible assumption | with_reducible refine Below.drew ?_ | with_reducible refine below_alloc ?_ _ | ((with_reducible refine Below.setCell ?_ ?_ _); rotate_left; (focus (first | with_reducible exact Nat.le_refl _ | (simp; done) | (simp; omega) | omega))) | (with_reducible refine below_trans ?_ (by assumption)))⟩
              case measure => simp [intOf]; omega
          · have hj' : j = nL := by omega
            subst hj'
            have i1 : ¬ (j : Int) < (j : Int) := by omega
            have e : R = false := by rw [HE2.out, HA2.out]
            subst e
            repeat any_goals (first | go_skip | go_guarded | go_step | go_upon | (simp only []; done))
            exact bodyPost_ret (v := .bool false) (by simp [results, Tryd.results37, go_sem]) rfl ⟨rfl, hW⟩
end Go.Proofs.YtminijokbeclhaaDoor
