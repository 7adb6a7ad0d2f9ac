/- Contracts: few of the law: how many parts a value has, as far as it is few. -/
import Derived.Test.YtminijokbeclhaaDoorVT
import Derived.LoopN
namespace Go.Proofs.YtminijokbeclhaaDoor
open Go.RowKit
/-- is it so at one of the first n? -/
def anyN (p : Nat → Bool) : Nat → Bool
  | 0 => false
  | k + 1 => anyN p k || p k
theorem anyN_of {p : Nat → Bool} {k n : Nat} (h : p k = true) (hk : k < n) : anyN p n = true := by
  induction n with
  | zero => omega
  | succ n ih =>
    simp only [anyN, Bool.or_eq_true]
    by_cases c : k < n
    · exact .inl (ih c)
    · have : k = n := by omega
      subst this
      exact .inr h
theorem anyN_no {p : Nat → Bool} {n k : Nat} (h : anyN p n = false) (hk : k < n) : p k = false := by
  cases hp : p k
  · rfl
  · rw [anyN_of hp hk] at h; cases h
/-- the loop's sum: it stops at a thousand -/
def fewS (f : Nat → Nat) : Nat → Nat
  | 0 => 1
  | k + 1 => if fewS f k < 1000 then fewS f k + f k else fewS f k
theorem fewS_stop {f : Nat → Nat} {k n : Nat} (h : ¬ fewS f k < 1000) (hk : k ≤ n) : fewS f n = fewS f k := by
  induction n with
  | zero => have : k = 0 := by omega
            subst this; rfl
  | succ n ih =>
    by_cases c : k ≤ n
    · have := ih c
      simp only [fewS]
      rw [this, if_neg h]
    · have : k = n + 1 := by omega
      subst this
      rfl
def VT.few : VT → Nat → Nat
  | .nil, _ => 1000
  | .mk _ _ _ _ text _ nL _ kids _ nK _ keys, d => if d = 0 ∨ 300 < text.size ∨ 400 < nK ∨ 400 < nL then 1000 else if anyN (fun i => decide (300 < (keys i).size)) nK = true then 1000 else fewS (fun i => (kids i).few (d - 1)) nL
theorem fewS_le {f : Nat → Nat} {M : Nat} : ∀ n, (∀ i, i < n → f i ≤ M) → fewS f n ≤ M + 1000 := by
  intro n
  induction n with
  | zero => intro _; simp only [fewS]; omega
  | succ n ih =>
    intro h
    have h1 := ih fun i hi => h i (by omega)
    have h2 := h n (by omega)
    simp only [fewS]
    split <;> omega
theorem VT.few_le : ∀ (T : VT) (d : Nat), T.few d ≤ 1000 * (d + 1) := by
  intro T
  induction T with
  | nil => intro d; simp only [VT.few]; omega
  | mk kind neg V bits text aL nL cL kids aK nK cK keys ih =>
    intro d
    simp only [VT.few]
    split
    · omega
    · split
      · omega
      · rename_i h _
        have := fewS_le (f := fun i => (kids i).few (d - 1)) (M := 1000 * (d - 1 + 1)) nL fun i _ => ih i (d - 1)
        have hd : d ≠ 0 := fun e => h (.inl e)
        omega
theorem fewS_nodes {f g : Nat → Nat} {n : Nat} (h : fewS f n ≤ 400) (hfg : ∀ i, i < n → f i ≤ 400 → f i = g i) : fewS f n = sumN g n + 1 ∧ ∀ i, i < n → f i ≤ 400 := by
  induction n with
  | zero => exact ⟨rfl, fun i hi => by omega⟩
  | succ n ih =>
    simp only [fewS] at h ⊢
    split at h
    · rename_i c
      obtain ⟨e, ha⟩ := ih (by omega) fun i hi => hfg i (by omega)
      rw [if_pos c]
      have hn : f n ≤ 400 := by omega
      refine ⟨by simp only [sumN]; rw [e, hfg n (by omega) hn]; omega, fun i hi => ?_⟩
      by_cases ci : i < n
      · exact ha i ci
      · have : i = n := by omega
        subst this
        exact hn
    · omega
/-- what is few -/
theorem VT.few_nodes : ∀ (T : VT) (d : Nat), T.few d ≤ 400 → T.few d = T.nodes ∧ T.depth ≤ d := by
  intro T
  induction T with
  | nil => intro d h; simp only [VT.few] at h; omega
  | mk kind neg V bits text aL nL cL kids aK nK cK keys ih =>
    intro d h
    simp only [VT.few] at h ⊢
    split at h
    · omega
    · split at h
      · omega
      · rename_i c1 c2
        rw [if_neg c1, if_neg c2]
        obtain ⟨e, ha⟩ := fewS_nodes (g := fun i => (kids i).nodes) h fun i _ hf => (ih i (d - 1) hf).1
        refine ⟨e, ?_⟩
        have hm : ∀ n, n ≤ nL → maxN (fun i => (kids i).depth) n ≤ d - 1 := by
          intro n
          induction n with
          | zero => intro _; exact Nat.zero_le _
          | succ n ihn =>
            intro hn
            have h1 := ihn (by omega)
            have h2 := (ih n (d - 1) (ha n (by omega))).2
            simp only [maxN]
            omega
        have := hm nL (Nat.le_refl _)
        have hd : d ≠ 0 := fun e => c1 (.inl e)
        simp only [VT.depth]
        omega
set_option maxRecDepth 20000 in
set_option maxHeartbeats 1000000 in
theorem few_any : ∀ (T : VT) (w : World) (d : Nat), T.In w → d ≤ 1000000 →
    Calls Tryd.prog 31 #[T.agg, .int .i64 (d : Nat)] w fun e w' => e = .returned (.int .i64 (T.few d : Nat)) ∧ Below w.heap.size w w' := by
  intro T
  induction T with
  | nil => exact fun w d h => h.elim
  | mk kind neg V bits text aL nL cL kids aK nK cK keys ih =>
    intro w d hin hd
    obtain ⟨o, hL, hk, hKy⟩ := hin
    simp only [VT.agg, VT.cells, VT.few]
    obtain ⟨D, hD⟩ : ∃ D : Nat → Nat, D = fun n => fewS (fun i => (kids i).few (d - 1)) n := ⟨_, rfl⟩
    obtain ⟨A, hA⟩ : ∃ D : Nat → Bool, D = fun n => anyN (fun i => decide (300 < (keys i).size)) n := ⟨_, rfl⟩
    obtain ⟨R, hR⟩ : ∃ R, R = (if d = 0 ∨ 300 < text.size ∨ 400 < nK ∨ 400 < nL then 1000 else if anyN (fun i => decide (300 < (keys i).size)) nK = true then 1000 else fewS (fun i => (kids i).few (d - 1)) nL) := ⟨_, rfl⟩
    rw [← hR]
    have hDB : ∀ n, D n ≤ 1000 * (d - 1 + 1) + 1000 := fun n => by
      rw [hD]
      exact fewS_le n fun i _ => VT.few_le _ _
    have HL := Lib.hid hL
    have HK := Lib.hid hk
    have HKy := Lib.hid hKy
    have HD := Lib.hid hD
    have HA := Lib.hid hA
    have HR := Lib.hid hR
    have HB := Lib.hid hDB
    have IH := Lib.hid ih
    have hcL := o.lc
    have hlL := o.l
    have hcK := o.nc
    have hlK := o.n
    have ht := o.t
    clear hL hk hD hA hR hDB ih hKy
    simp only [maxLen] at hcL hcK ht
    by_cases c0 : d = 0
    · subst c0
      have e := HR.out
      rw [if_pos (.inl rfl)] at e
      subst e
      go_enter Tryd.func31, Tryd.ntmps31
      repeat any_goals (first | go_skip | go_guarded | go_step | go_upon | (simp only []; done))
      exact bodyPost_ret (v := .int .i64 1000) (by simp [results, Tryd.results31, go_sem]) rfl ⟨rfl, by (repeat first | with_reducible exact Below.refl _ _ | with_reducible assumption | with_reducible refine Below.drew ?_ | with_reducible refine below_alloc ?_ _ | ((with_reducible refine Below.setCell ?_ ?_ _); rotate_left; (focus (first | with_reducible exact Nat.le_refl _ | (simp; done) | (simp; omega) | omega))) | (with_reducible refine below_trans ?_ (by assumption)))⟩
    have c0i : ((d : Int) == 0) = false := by simp; omega
    by_cases c1 : 300 < text.size
    · have e := HR.out
      rw [if_pos (.inr (.inl c1))] at e
      subst e
      have c1i : (300 : Int) < (text.size : Int) := by omega
      go_enter Tryd.func31, Tryd.ntmps31
      repeat any_goals (first | go_skip | go_guarded | go_step | go_upon | (simp only []; done))
      exact bodyPost_ret (v := .int .i64 1000) (by simp [results, Tryd.results31, go_sem]) rfl ⟨rfl, by (repeat first | with_reducible exact Below.refl _ _ | with_reducible assumption | with_reducible refine Below.drew ?_ | with_reducible refine below_alloc ?_ _ | ((with_reducible refine Below.setCell ?_ ?_ _); rotate_left; (focus (first | with_reducible exact Nat.le_refl _ | (simp; done) | (simp; omega) | omega))) | (with_reducible refine below_trans ?_ (by assumption)))⟩
    have c1i : ¬ (300 : Int) < (text.size : Int) := by omega
    by_cases c2 : 400 < nK
    · have e := HR.out
      rw [if_pos (.inr (.inr (.inl c2)))] at e
      subst e
      have c2i : (400 : Int) < (nK : Int) := by omega
      go_enter Tryd.func31, Tryd.ntmps31
      repeat any_goals (first | go_skip | go_guarded | go_step | go_upon | (simp only []; done))
      exact bodyPost_ret (v := .int .i64 1000) (by simp [results, Tryd.results31, go_sem]) rfl ⟨rfl, by (repeat first | with_reducible exact Below.refl _ _ | with_reducible assumption | with_reducible refine Below.drew ?_ | with_reducible refine below_alloc ?_ _ | ((with_reducible refine Below.setCell ?_ ?_ _); rotate_left; (focus (first | with_reducible exact Nat.le_refl _ | (simp; done) | (simp; omega) | omega))) | (with_reducible refine below_trans ?_ (by assumption)))⟩
    have c2i : ¬ (400 : Int) < (nK : Int) := by omega
    by_cases c3 : 400 < nL
    · have e := HR.out
      rw [if_pos (.inr (.inr (.inr c3)))] at e
      subst e
      have c3i : (400 : Int) < (nL : Int) := by omega
      go_enter Tryd.func31, Tryd.ntmps31
      repeat any_goals (first | go_skip | go_guarded | go_step | go_upon | (simp only []; done))
      exact bodyPost_ret (v := .int .i64 1000) (by simp [results, Tryd.results31, go_sem]) rfl ⟨rfl, by (repeat first | with_reducible exact Below.refl _ _ | with_reducible assumption | with_reducible refine Below.drew ?_ | with_reducible refine below_alloc ?_ _ | ((with_reducible refine Below.setCell ?_ ?_ _); rotate_left; (focus (first | with_reducible exact Nat.le_refl _ | (simp; done) | (simp; omega) | omega))) | (with_reducible refine below_trans ?_ (by assumption)))⟩
    have c3i : ¬ (400 : Int) < (nL : Int) := by omega
    have e := HR.out
    rw [if_neg (by omega)] at e
    have HE := Lib.hid e
    clear c0 c1 c2 c3 e
    go_enter Tryd.func31, Tryd.ntmps31
    repeat any_goals (first | go_skip | go_guarded | go_step | go_upon | (simp only []; done))
    obtain ⟨wo, hwo⟩ : ∃ wo, wo = w.alloc (.cells #[.int .i64 kind, .bool neg, .int .u64 (lm V 0 : Nat), .int .u64 (lm V 1 : Nat), .int .u64 (lm V 2 : Nat), .int .u64 (lm V 3 : Nat), .int .u64 (bits : Nat), .string text, .slice aL nL cL, .slice aK nK cK] 30) := ⟨_, rfl⟩
    have hBo : Below w.heap.size w wo := by rw [hwo]; (repeat first | with_reducible exact Below.refl _ _ | with_reducible assumption | with_reducible refine Below.drew ?_ | with_reducible refine below_alloc ?_ _ | ((with_reducible refine Below.setCell ?_ ?_ _); rotate_left; (focus (first | with_reducible exact Nat.le_refl _ | (simp; done) | (simp; omega) | omega))) | (with_reducible refine below_trans ?_ (by assumption)))
    have h8 : wo.cell? ⟨w.heap.size, 8, none⟩ = some (.slice aL nL cL) := by rw [hwo]; simp [go_sem]
    have h9 : wo.cell? ⟨w.heap.size, 9, none⟩ = some (.slice aK nK cK) := by rw [hwo]; simp [go_sem]
    rw [← hwo]
    clear hwo
    go_loop [5] (fun i => ∃ k : Nat, k ≤ nK ∧ i = .int .i64 k ∧ anyN (fun i => decide (300 < (keys i).size)) k = false) (fun i => nK - (intOf i).toNat)
    case atStart => exact ⟨0, Nat.zero_le _, rfl, rfl⟩
    case round =>
      obtain ⟨k, hk, rfl, hA⟩ := hrel
      have HA1 := Lib.hid hA
      clear hA
      by_cases hkn : k < nK
      · obtain ⟨b, off, rfl, hb, hc, hs⟩ := key_lit HKy.out hkn hBo
        simp only [maxLen] at hs
        have i1 : (k : Int) < (nK : Int) := by omega
        have i2 : (0 : Int) ≤ (k : Int) := by omega
        have i5 : (k : Int).toNat = k := rfl
        by_cases c1 : 300 < (keys k).size
        · have c1i : (300 : Int) < ((keys k).size : Int) := by omega
          have e := HE.out
          rw [if_pos (anyN_of (p := fun i => decide (300 < (keys i).size)) (decide_eq_true c1) hkn)] at e
          subst e
          repeat any_goals (first | go_skip | go_guarded | go_step | go_upon | (simp only []; done))
          exact bodyPost_ret (v := .int .i64 1000) (by simp [results, Tryd.results31, go_sem]) rfl ⟨rfl, hBo⟩
        · have c1i : ¬ (300 : Int) < ((keys k).size : Int) := by omega
          repeat any_goals (first | go_skip | go_guarded | go_step | go_upon | (simp only []; done))
          go_round
          case rel => exact ⟨k + 1, by omega, rfl, by simp only [anyN]; rw [HA1.out, decide_eq_false c1]; rfl⟩
          case measure => simp [intOf]; omega
      · have hk' : k = nK := by omega
        subst hk'
        have i1 : ¬ (k : Int) < (k : Int) := by omega
        have e := HE.out
        rw [if_neg (by rw [HA1.out]; exact Bool.false_ne_true)] at e
        have HE2 := Lib.hid e
        clear e
        repeat any_goals (first | go_skip | go_guarded | go_step | go_upon | (simp only []; done))
        go_loopw [6, 7] (fun n i wr => ∃ j : Nat, j ≤ nL ∧ i = .int .i64 j ∧ n = .int .i64 (D j : Nat) ∧ wr.cell? ⟨w.heap.size, 8, none⟩ = some (.slice aL nL cL) ∧ Below w.heap.size w wr) (fun _ i _ => nL - (intOf i).toNat)
        case atStart => exact ⟨0, Nat.zero_le _, rfl, by rw [HD.out]; rfl, h8, hBo⟩
        case round =>
          obtain ⟨j, hj, rfl, rfl, h8, hW⟩ := hrel
          have hDj := HB.out j
          by_cases hjn : j < nL
          · by_cases hD1 : D j < 1000
            · obtain ⟨b, off, kind', neg', V', bits', text', aL', nL', cL', kids', aK', nK', cK', keys', rfl, hb, hkid, ⟨c0, c1, c2, c3, c4, c5, c6, c7, c8, c9⟩, hin'⟩ := kid_lit HL.out HK.out hjn hW
              have i1 : (j : Int) < (nL : Int) := by omega
              have i2 : (0 : Int) ≤ (j : Int) := by omega
              have i5 : (j : Int).toNat = j := rfl
              have i6 : (D j : Int) < 1000 := by omega
              obtain ⟨x, hx⟩ : ∃ x : Nat, x = (kids j).few (d - 1) := ⟨_, rfl⟩
              have hxB : x ≤ 1000 * (d - 1 + 1) := hx ▸ VT.few_le _ _
              have HC : ∀ w'' : World, Below wr.heap.size wr w'' → Calls Tryd.prog 31 #[(kids j).agg, .int .i64 ((d : Int) - 1)] w'' fun e w' => e = .returned (.int .i64 (x : Nat)) ∧ Below w''.heap.size w'' w' := fun w'' hb => by
                have := IH.out j w'' (d - 1) (hin'.below hb) (by omega)
                rw [← hx, show ((d - 1 : Nat) : Int) = (d : Int) - 1 from by simp at c0i; omega] at this
                exact this
              rw [hkid] at HC
              simp only [VT.agg, VT.cells] at HC
              have HC := Lib.hid HC
              have HX := Lib.hid hx
              clear hin' hkid hx
              repeat any_goals (first | (go_at_call 31; refine (HC.out _ (by (repeat first | with_reducible exact Below.refl _ _ | with_reducible assumption | with_reducible refine Below.drew ?_ | with_reducible refine below_alloc ?_ _ | ((with_reducible refine Below.setCell ?_ ?_ _); rotate_left; (focus (first | with_reducible exact Nat.le_refl _ | (simp; done) | (simp; omega) | omega))) | (with_reducible refine below_trans ?_ (by assumption))))).mono ?_; rintro e w1 ⟨rfl, hb1⟩) | go_skip | go_guarded | go_step | go_upon | (dsimp only []))
              go_roundw
              case rel =>
                refine ⟨j + 1, by omega, rfl, ?_, keep_cell hb1 (keep_cell (w1 := wr) (by (repeat first | with_reducible exact Below.refl _ _ | with_reducible assumption | with_reducible refine Below.drew ?_ | with_reducible refine below_alloc ?_ _ | ((with_reducible refine Below.setCell ?_ ?_ _); rotate_left; (focus (first | with_reducible exact Nat.le_refl _ | (simp; done) | (simp; omega) | omega))) | (with_reducible refine below_trans ?_ (by assumption)))) h8), by (repeat first | with_reducible exact Below.refl _ _ | with_reducible assumption | with_reducible refine Below.drew ?_ | with_reducible refine below_alloc ?_ _ | ((with_reducible refine Below.setCell ?_ ?_ _); rotate_left; (focus (first | with_reducible exact Nat.le_refl _ | (simp; done) | (simp; omega) | omega))) | (with_reducible refine below_trans ?_ (by assumption)))⟩
                rw [HD.out] at hD1 ⊢
                simp only [fewS]
                rw [← HX.out, if_pos hD1]
                congr 1
              case measure => simp [intOf]; omega
            · have i1 : (j : Int) < (nL : Int) := by omega
              have i6 : ¬ (D j : Int) < 1000 := by omega
              have e := HE2.out
              rw [fewS_stop (k := j) (by rw [HD.out] at hD1; exact hD1) hj] at e
              have e : R = D j := by rw [e, HD.out]
              subst e
              repeat any_goals (first | go_skip | go_guarded | go_step | go_upon | (simp only []; done))
              exact bodyPost_ret (v := .int .i64 (D j : Nat)) (by simp [results, Tryd.results31, go_sem]) rfl ⟨rfl, hW⟩
          · have hj' : j = nL := by omega
            subst hj'
            have i1 : ¬ (j : Int) < (j : Int) := by omega
            have e : R = D j := by rw [HE2.out, HD.out]
            subst e
            repeat any_goals (first | go_skip | go_guarded | go_step | go_upon | (simp only []; done))
            exact bodyPost_ret (v := .int .i64 (D j : Nat)) (by simp [results, Tryd.results31, go_sem]) rfl ⟨rfl, hW⟩
end Go.Proofs.YtminijokbeclhaaDoor
