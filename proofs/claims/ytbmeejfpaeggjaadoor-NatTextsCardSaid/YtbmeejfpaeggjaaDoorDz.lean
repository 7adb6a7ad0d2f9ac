/- Contracts of the document's answer on texts: Parse. -/
import Derived.Test.YtbmeejfpaeggjaaDoorDy
namespace Go.Proofs.YtbmeejfpaeggjaaDoor
open Go.RowKit
theorem pOk_long {l : List UInt8} (h : 100 < l.length) : pOk l = false := by
  unfold pOk
  apply decide_eq_false
  rintro ⟨h0, h1, h2, h3⟩
  cases l with
  | nil => exact h0 rfl
  | cons c r =>
    rw [List.all_cons, Bool.and_eq_true] at h2
    have hc := of_decide_eq_true h2.1
    have hc0 : c ≠ 48 := fun e => h1 ⟨by omega, by rw [e]; rfl⟩
    have hc1 : 49 ≤ c.toNat := by
      have : c.toNat ≠ 48 := fun e => hc0 (UInt8.toNat_inj.1 e)
      omega
    have hge : ∀ (r : List UInt8) (v : Nat), v * 10 ^ r.length ≤ decN v r := by
      intro r
      induction r with
      | nil => intro v; show v * 10 ^ 0 ≤ v; omega
      | cons d r ih =>
        intro v
        have h := ih (v * 10 + (d.toNat - 48))
        rw [List.length_cons, Nat.pow_succ', ← Nat.mul_assoc]
        exact Nat.le_trans (Nat.mul_le_mul_right _ (by omega)) h
    have h5 := hge r (0 * 10 + (c.toNat - 48))
    have h6 : 1 * 10 ^ 100 ≤ (0 * 10 + (c.toNat - 48)) * 10 ^ r.length := by
      refine Nat.mul_le_mul (by omega) (Nat.pow_le_pow_right (by decide) ?_)
      rw [List.length_cons] at h
      omega
    have h7 : ¬ (1 * 10 ^ 100 < 2 ^ 256) := by decide +kernel
    have h8 : decN 0 (c :: r) = decN (0 * 10 + (c.toNat - 48)) r := by rfl
    rw [h8] at h3
    omega
set_option maxRecDepth 20000 in
set_option maxHeartbeats 400000 in
theorem DPar_long (s : ByteArray) (w : World) (n : Int) (hn : (s.size : Int) = n) (h1 : 100 < n) :
    Calls Tryd.prog 19 #[.string s] w fun e w' => e = .returned (.tuple #[.agg #[.int .u64 (lm (0) 0 : Nat), .int .u64 (lm (0) 1 : Nat), .int .u64 (lm (0) 2 : Nat), .int .u64 (lm (0) 3 : Nat)], .bool false]) ∧ Below w.heap.size w w' := by
  rw [lm_zero, lm_zero, lm_zero, lm_zero]
  go_enter Tryd.func19, Tryd.ntmps19
  repeat any_goals (first | go_skip | go_guarded | go_step | go_upon | (simp only []; done))
  refine bodyPost_ret (v := .tuple #[.agg #[.int .u64 (0 : Nat), .int .u64 (0 : Nat), .int .u64 (0 : Nat), .int .u64 (0 : Nat)], .bool false]) ?_ rfl ⟨rfl, by (repeat first | with_reducible exact Below.refl _ _ | with_reducible assumption | with_reducible refine Below.drew ?_ | with_reducible refine below_alloc ?_ _ | ((with_reducible refine Below.setCell ?_ ?_ _); rotate_left; (focus (first | with_reducible exact Nat.le_refl _ | (simp; done) | (simp; omega) | omega))) | (with_reducible refine below_trans ?_ (by assumption)))⟩
  simp [results, Tryd.results19, go_sem]
set_option maxRecDepth 20000 in
set_option maxHeartbeats 400000 in
theorem DPar_lead (s : ByteArray) (w : World) (n : Int) (hn : (s.size : Int) = n) (h0 : ¬ 100 < n) (h1 : 1 < n) (hx : ∀ W, (Instr.index 9 (.string s) (.int .i64 0)).run Tryd.prog W = .ok (.int .u8 48) W) :
    Calls Tryd.prog 19 #[.string s] w fun e w' => e = .returned (.tuple #[.agg #[.int .u64 (lm (0) 0 : Nat), .int .u64 (lm (0) 1 : Nat), .int .u64 (lm (0) 2 : Nat), .int .u64 (lm (0) 3 : Nat)], .bool false]) ∧ Below w.heap.size w w' := by
  rw [lm_zero, lm_zero, lm_zero, lm_zero]
  go_enter Tryd.func19, Tryd.ntmps19
  repeat any_goals (first | go_skip | go_guarded | go_step | go_upon | (simp only []; done))
  refine bodyPost_ret (v := .tuple #[.agg #[.int .u64 (0 : Nat), .int .u64 (0 : Nat), .int .u64 (0 : Nat), .int .u64 (0 : Nat)], .bool false]) ?_ rfl ⟨rfl, by (repeat first | with_reducible exact Below.refl _ _ | with_reducible assumption | with_reducible refine Below.drew ?_ | with_reducible refine below_alloc ?_ _ | ((with_reducible refine Below.setCell ?_ ?_ _); rotate_left; (focus (first | with_reducible exact Nat.le_refl _ | (simp; done) | (simp; omega) | omega))) | (with_reducible refine below_trans ?_ (by assumption)))⟩
  simp [results, Tryd.results19, go_sem]
set_option maxRecDepth 20000 in
set_option maxHeartbeats 800000 in
theorem DPar_bad (s : ByteArray) (w : World) (n : Nat) (hn : (s.size : Int) = n) (h0 : ¬ 100 < (n : Int)) (h1 : ¬ 1 < (n : Int) ∨ 1 < (n : Int) ∧ ∃ x : Nat, x ≠ 48 ∧ ∀ W, (Instr.index 9 (.string s) (.int .i64 0)).run Tryd.prog W = .ok (.int .u8 (x : Int)) W)
    (K : Hid (∀ w : World, Calls Tryd.prog 43 #[.string s] w fun e w' => ∃ v, e = .returned (.tuple #[v, .bool false]) ∧ True ∧ Below w.heap.size w w')) :
    Calls Tryd.prog 19 #[.string s] w fun e w' => e = .returned (.tuple #[.agg #[.int .u64 (lm (0) 0 : Nat), .int .u64 (lm (0) 1 : Nat), .int .u64 (lm (0) 2 : Nat), .int .u64 (lm (0) 3 : Nat)], .bool false]) ∧ Below w.heap.size w w' := by
  rw [lm_zero, lm_zero, lm_zero, lm_zero]
  go_enter Tryd.func19, Tryd.ntmps19
  have Z0 := Lib.hid (@zb_new w 24)
  rcases h1 with h1 | ⟨h1, x, hx, hx0⟩
  · repeat any_goals (first | (go_at_call 43; with_reducible refine (K.out _).mono ?_; rintro e w1 ⟨v, rfl, _, hb1⟩; obtain ⟨⟨z0, z1, z2, z3⟩, ⟨_, _, _, _⟩, _⟩ := (Z0.out.below hb1).all) | go_skip | go_guarded | go_step | go_upon | (dsimp only []))
    refine bodyPost_ret (v := .tuple #[.agg #[.int .u64 (0 : Nat), .int .u64 (0 : Nat), .int .u64 (0 : Nat), .int .u64 (0 : Nat)], .bool false]) ?_ rfl ⟨rfl, by (repeat first | with_reducible exact Below.refl _ _ | with_reducible assumption | with_reducible refine Below.drew ?_ | with_reducible refine below_alloc ?_ _ | ((with_reducible refine Below.setCell ?_ ?_ _); rotate_left; (focus (first | with_reducible exact Nat.le_refl _ | (simp; done) | (simp; omega) | omega))) | (with_reducible refine below_trans ?_ (by assumption)))⟩
    simp [results, Tryd.results19, go_sem, z0, z1, z2, z3]
  · have hx' : ((x : Int) == 48) = false := by simp; omega
    repeat any_goals (first | (go_at_call 43; with_reducible refine (K.out _).mono ?_; rintro e w1 ⟨v, rfl, _, hb1⟩; obtain ⟨⟨z0, z1, z2, z3⟩, ⟨_, _, _, _⟩, _⟩ := (Z0.out.below hb1).all) | go_skip | go_guarded | go_step | go_upon | (dsimp only []))
    refine bodyPost_ret (v := .tuple #[.agg #[.int .u64 (0 : Nat), .int .u64 (0 : Nat), .int .u64 (0 : Nat), .int .u64 (0 : Nat)], .bool false]) ?_ rfl ⟨rfl, by (repeat first | with_reducible exact Below.refl _ _ | with_reducible assumption | with_reducible refine Below.drew ?_ | with_reducible refine below_alloc ?_ _ | ((with_reducible refine Below.setCell ?_ ?_ _); rotate_left; (focus (first | with_reducible exact Nat.le_refl _ | (simp; done) | (simp; omega) | omega))) | (with_reducible refine below_trans ?_ (by assumption)))⟩
    simp [results, Tryd.results19, go_sem, z0, z1, z2, z3]
set_option maxRecDepth 20000 in
set_option maxHeartbeats 800000 in
theorem DPar_ok (s : ByteArray) (V R : Nat) (o : Bool) (w : World) (n : Nat) (hn : (s.size : Int) = n) (h0 : ¬ 100 < (n : Int)) (h1 : ¬ 1 < (n : Int) ∨ 1 < (n : Int) ∧ ∃ x : Nat, x ≠ 48 ∧ ∀ W, (Instr.index 9 (.string s) (.int .i64 0)).run Tryd.prog W = .ok (.int .u8 (x : Int)) W)
    (K : Hid (∀ w : World, Calls Tryd.prog 43 #[.string s] w fun e w' => ∃ v, e = .returned (.tuple #[v, .bool true]) ∧ IsD w' v V ∧ Below w.heap.size w w')) (N : Hid (∀ (v : Value) (w : World) (_ : IsD w v V), Calls Tryd.prog 35 #[v] w fun e w' => e = .returned (.tuple #[.agg #[.int .u64 (lm (R) 0 : Nat), .int .u64 (lm (R) 1 : Nat), .int .u64 (lm (R) 2 : Nat), .int .u64 (lm (R) 3 : Nat)], .bool o]) ∧ Below w.heap.size w w')) :
    Calls Tryd.prog 19 #[.string s] w fun e w' => e = .returned (.tuple #[.agg #[.int .u64 (lm (R) 0 : Nat), .int .u64 (lm (R) 1 : Nat), .int .u64 (lm (R) 2 : Nat), .int .u64 (lm (R) 3 : Nat)], .bool o]) ∧ Below w.heap.size w w' := by
  go_enter Tryd.func19, Tryd.ntmps19
  have Z0 := Lib.hid (@zb_new w 24)
  rcases h1 with h1 | ⟨h1, x, hx, hx0⟩
  · repeat any_goals (first | (go_at_call 43; with_reducible refine (K.out _).mono ?_; rintro e w1 ⟨v, rfl, hv, hb1⟩; have Z1 := Lib.hid (Z0.out.below hb1)) | (go_at_call 35; with_reducible refine (N.out _ _ hv).mono ?_; rintro e w2 ⟨rfl, hb2⟩; obtain ⟨⟨z0, z1, z2, z3⟩, ⟨_, _, _, _⟩, _⟩ := (Z1.out.below hb2).all) | go_skip | go_guarded | go_step | go_upon | (dsimp only []))
    refine bodyPost_ret (v := .tuple #[.agg #[.int .u64 (lm (R) 0 : Nat), .int .u64 (lm (R) 1 : Nat), .int .u64 (lm (R) 2 : Nat), .int .u64 (lm (R) 3 : Nat)], .bool o]) ?_ rfl ⟨rfl, by (repeat first | with_reducible exact Below.refl _ _ | with_reducible assumption | with_reducible refine Below.drew ?_ | with_reducible refine below_alloc ?_ _ | ((with_reducible refine Below.setCell ?_ ?_ _); rotate_left; (focus (first | with_reducible exact Nat.le_refl _ | (simp; done) | (simp; omega) | omega))) | (with_reducible refine below_trans ?_ (by assumption)))⟩
    simp [results, Tryd.results19, go_sem, z0, z1, z2, z3]
  · have hx' : ((x : Int) == 48) = false := by simp; omega
    repeat any_goals (first | (go_at_call 43; with_reducible refine (K.out _).mono ?_; rintro e w1 ⟨v, rfl, hv, hb1⟩; have Z1 := Lib.hid (Z0.out.below hb1)) | (go_at_call 35; with_reducible refine (N.out _ _ hv).mono ?_; rintro e w2 ⟨rfl, hb2⟩; obtain ⟨⟨z0, z1, z2, z3⟩, ⟨_, _, _, _⟩, _⟩ := (Z1.out.below hb2).all) | go_skip | go_guarded | go_step | go_upon | (dsimp only []))
    refine bodyPost_ret (v := .tuple #[.agg #[.int .u64 (lm (R) 0 : Nat), .int .u64 (lm (R) 1 : Nat), .int .u64 (lm (R) 2 : Nat), .int .u64 (lm (R) 3 : Nat)], .bool o]) ?_ rfl ⟨rfl, by (repeat first | with_reducible exact Below.refl _ _ | with_reducible assumption | with_reducible refine Below.drew ?_ | with_reducible refine below_alloc ?_ _ | ((with_reducible refine Below.setCell ?_ ?_ _); rotate_left; (focus (first | with_reducible exact Nat.le_refl _ | (simp; done) | (simp; omega) | omega))) | (with_reducible refine below_trans ?_ (by assumption)))⟩
    simp [results, Tryd.results19, go_sem, z0, z1, z2, z3]
/-- **Parse**, of a text that is no longer than 1,000,000 bytes. -/
theorem DParse_any (s : ByteArray) (hs : s.size ≤ 1000000) (w : World) :
    Calls Tryd.prog 19 #[.string s] w fun e w' => e = .returned (.tuple #[.agg #[.int .u64 (lm (pV s.data.toList) 0 : Nat), .int .u64 (lm (pV s.data.toList) 1 : Nat), .int .u64 (lm (pV s.data.toList) 2 : Nat), .int .u64 (lm (pV s.data.toList) 3 : Nat)], .bool (pOk s.data.toList)]) ∧ Below w.heap.size w w' := by
  have hl : s.data.toList.length = s.size := Array.length_toList
  by_cases h100 : 100 < s.size
  · have hno : pOk s.data.toList = false := pOk_long (by omega)
    rw [pV_no hno, hno]
    exact DPar_long s w s.size rfl (by omega)
  by_cases c1 : 1 < s.size ∧ s.data.toList.head? = some 48
  · have h0 : 0 < s.data.toList.length := by omega
    have hix := idx_str h0
    have hhd : s.data.toList.head? = some s.data.toList[0] := by rw [List.head?_eq_getElem?, List.getElem?_eq_getElem h0]
    have h48 : s.data.toList[0] = 48 := by
      have := c1.2
      rw [hhd] at this
      exact Option.some.inj this
    have hno : pOk s.data.toList = false := decide_eq_false fun h => h.2.1 ⟨by omega, c1.2⟩
    rw [pV_no hno, hno]
    exact DPar_lead s w s.size rfl (by omega) (by omega) (fun W => by
      have h := hix W
      rw [h48] at h
      exact h)
  have h1 : ¬ 1 < ((s.size : Nat) : Int) ∨ 1 < ((s.size : Nat) : Int) ∧ ∃ x : Nat, x ≠ 48 ∧ ∀ W, (Instr.index 9 (.string s) (.int .i64 0)).run Tryd.prog W = .ok (.int .u8 (x : Int)) W := by
    by_cases c2 : 1 < s.size
    · have h0 : 0 < s.data.toList.length := by omega
      have hhd : s.data.toList.head? = some s.data.toList[0] := by rw [List.head?_eq_getElem?, List.getElem?_eq_getElem h0]
      refine .inr ⟨by omega, s.data.toList[0].toNat, fun h => c1 ⟨c2, ?_⟩, idx_str h0⟩
      rw [hhd]
      exact congrArg some (UInt8.toNat_inj.1 h)
    · exact .inl (by omega)
  have hD := fun (x : Bool) (hx : (!s.toList.isEmpty) = x) (w : World) => DDigits_walk s s.size rfl hl (by omega) x hx w
  by_cases hal : s.data.toList.all isDg = true
  · by_cases hem : s.data.toList = []
    · have hno : pOk s.data.toList = false := decide_eq_false fun h => h.1 hem
      rw [pV_no hno, hno]
      refine DPar_bad s w s.size rfl (by omega) h1 (Lib.hid fun w => (hD false (by rw [ByteArray.toList_eq, hem]; rfl) w).mono ?_)
      rintro e w' ⟨v, ⟨_, rfl, _⟩ | ⟨h, _⟩, hb⟩
      · exact ⟨v, rfl, trivial, hb⟩
      · rw [hal] at h
        cases h
    · have hv : pOk s.data.toList = decide (decN 0 s.data.toList < 2 ^ 256) := by
        unfold pOk
        congr 1
        apply propext
        exact ⟨fun h => h.2.2.2, fun h => ⟨hem, fun h2 => c1 ⟨by omega, h2.2⟩, hal, h⟩⟩
      have hp : pV s.data.toList = if decN 0 s.data.toList < 2 ^ 256 then decN 0 s.data.toList else 0 := by
        unfold pV
        rw [hv]
        by_cases c : decN 0 s.data.toList < 2 ^ 256
        · rw [if_pos c, if_pos (decide_eq_true c)]
        · rw [if_neg c, if_neg (by rw [decide_eq_false c]; exact Bool.false_ne_true)]
      rw [hv, hp]
      refine DPar_ok s (decN 0 s.data.toList) _ _ w s.size rfl (by omega) h1 (Lib.hid fun w => (hD true (by
        rw [ByteArray.toList_eq]
        cases h : s.data.toList with
        | nil => exact absurd h hem
        | cons c r => rfl) w).mono ?_) (Lib.hid fun v w h => NatI_any v _ w h)
      rintro e w' ⟨v, ⟨_, rfl, h⟩ | ⟨h, _⟩, hb⟩
      · exact ⟨v, rfl, h, hb⟩
      · rw [hal] at h
        cases h
  · rw [Bool.not_eq_true] at hal
    have hno : pOk s.data.toList = false := decide_eq_false fun h => by
      rw [hal] at h
      exact absurd h.2.2.1 Bool.false_ne_true
    rw [pV_no hno, hno]
    refine DPar_bad s w s.size rfl (by omega) h1 (Lib.hid fun w => (hD _ rfl w).mono ?_)
    rintro e w' ⟨v, ⟨h, _⟩ | ⟨_, rfl⟩, hb⟩
    · rw [hal] at h
      cases h
    · exact ⟨v, rfl, trivial, hb⟩
end Go.Proofs.YtbmeejfpaeggjaaDoor
