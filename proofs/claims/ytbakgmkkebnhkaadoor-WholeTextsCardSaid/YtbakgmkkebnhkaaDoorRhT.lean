/- Contracts of the document: PrintInt, ParseInt. IBOX -/
import Derived.Test.YtbakgmkkebnhkaaDoorWhP
import Derived.Test.YtbakgmkkebnhkaaDoorDM2
import Derived.Test.YtbakgmkkebnhkaaDoorWhR
namespace Go.Proofs.YtbakgmkkebnhkaaDoor
open Go.RowKit
structure RpC (n : Bool) (V : Nat) (m : Bool) (R : ByteArray) : Prop where
  c1 : ∀ w : World, Calls Tryd.prog 16 #[.agg #[.bool (n ), .int .u64 (lm ( V) 0 : Nat), .int .u64 (lm ( V) 1 : Nat), .int .u64 (lm ( V) 2 : Nat), .int .u64 (lm ( V) 3 : Nat)]] w fun e w' => e = .returned (.bool m) ∧ Below w.heap.size w w'
  c2 : ∀ w : World, Calls Tryd.prog 42 #[.agg #[.int .u64 (lm (V) 0 : Nat), .int .u64 (lm (V) 1 : Nat), .int .u64 (lm (V) 2 : Nat), .int .u64 (lm (V) 3 : Nat)]] w fun e w' => ∃ v, e = .returned v ∧ IsD w' v V ∧ Below w.heap.size w w'
  c3 : ∀ (v : Value) (w : World), IsD w v V → Calls Tryd.prog 43 #[v] w fun e w' => e = .returned (.string R) ∧ Below w.heap.size w w'
set_option maxRecDepth 20000 in
set_option maxHeartbeats 1600000 in
theorem RPrint_walk (n : Bool) (V : Nat) (m : Bool) (R T : ByteArray) (w : World) (C : Hid (RpC n V m R)) (hR : R.size ≤ 100) (h : m = false ∧ T = ⟨#[]⟩ ∨ m = true ∧ n = true ∧ T = ⟨#[45]⟩ ++ R ∨ m = true ∧ n = false ∧ T = R) :
    Calls Tryd.prog 15 #[.agg #[.bool (n ), .int .u64 (lm ( V) 0 : Nat), .int .u64 (lm ( V) 1 : Nat), .int .u64 (lm ( V) 2 : Nat), .int .u64 (lm ( V) 3 : Nat)]] w fun e w' => e = .returned (.string T) ∧ Below w.heap.size w w' := by
  rcases h with ⟨rfl, rfl⟩ | ⟨rfl, rfl, hT2⟩ | ⟨rfl, rfl, rfl⟩
  · go_enter Tryd.func15, Tryd.ntmps15
    repeat any_goals (first | (go_at_call 16; with_reducible refine (C.out.c1 _).mono ?_; rintro e w1 ⟨rfl, hb1⟩; (first | have a1 := Lib.hid (box_hb hb1) | have a1 := Lib.hid (ibox_hb hb1)); obtain ⟨_, _, _, _, _⟩ := a1.out.all) | go_skip | go_guarded | go_step | go_upon | (dsimp only []))
    go_ret
    exact ⟨rfl, by (repeat first | with_reducible exact Below.refl _ _ | with_reducible assumption | with_reducible refine Below.drew ?_ | with_reducible refine below_alloc ?_ _ | ((with_reducible refine Below.setCell ?_ ?_ _); rotate_left; (focus (first | with_reducible exact Nat.le_refl _ | (simp; done) | (simp; omega) | omega))) | (with_reducible refine below_trans ?_ (by assumption)))⟩
  · go_enter Tryd.func15, Tryd.ntmps15
    repeat any_goals (first | (go_at_call 16; with_reducible refine (C.out.c1 _).mono ?_; rintro e w1 ⟨rfl, hb1⟩; (first | have a1 := Lib.hid (box_hb hb1) | have a1 := Lib.hid (ibox_hb hb1)); obtain ⟨_, _, _, _, _⟩ := a1.out.all) | (go_at_call 42; with_reducible refine (C.out.c2 _).mono ?_; rintro e w2 ⟨v2, rfl, hv2, hb2⟩; (first | have a2 := Lib.hid (a1.out.below hb2) | have a2 := Lib.hid (a1.out.step hb2) | have a2 := Lib.hid (a1.out.step2 hb2)); obtain ⟨_, _, _, _, _⟩ := a2.out.all) | (go_at_call 43; with_reducible refine (C.out.c3 _ _ hv2).mono ?_; rintro e w3 ⟨rfl, hb3⟩; (first | have a3 := Lib.hid (a2.out.below hb3) | have a3 := Lib.hid (a2.out.step hb3) | have a3 := Lib.hid (a2.out.step2 hb3)); obtain ⟨_, _, _, _, _⟩ := a3.out.all) | go_skip | go_guarded | go_step | go_upon | (dsimp only []))
    go_ret
    exact ⟨by rw [hT2]; rfl, by (repeat first | with_reducible exact Below.refl _ _ | with_reducible assumption | with_reducible refine Below.drew ?_ | with_reducible refine below_alloc ?_ _ | ((with_reducible refine Below.setCell ?_ ?_ _); rotate_left; (focus (first | with_reducible exact Nat.le_refl _ | (simp; done) | (simp; omega) | omega))) | (with_reducible refine below_trans ?_ (by assumption)))⟩
  · go_enter Tryd.func15, Tryd.ntmps15
    repeat any_goals (first | (go_at_call 16; with_reducible refine (C.out.c1 _).mono ?_; rintro e w1 ⟨rfl, hb1⟩; (first | have a1 := Lib.hid (box_hb hb1) | have a1 := Lib.hid (ibox_hb hb1)); obtain ⟨_, _, _, _, _⟩ := a1.out.all) | (go_at_call 42; with_reducible refine (C.out.c2 _).mono ?_; rintro e w2 ⟨v2, rfl, hv2, hb2⟩; (first | have a2 := Lib.hid (a1.out.below hb2) | have a2 := Lib.hid (a1.out.step hb2) | have a2 := Lib.hid (a1.out.step2 hb2)); obtain ⟨_, _, _, _, _⟩ := a2.out.all) | (go_at_call 43; with_reducible refine (C.out.c3 _ _ hv2).mono ?_; rintro e w3 ⟨rfl, hb3⟩; (first | have a3 := Lib.hid (a2.out.below hb3) | have a3 := Lib.hid (a2.out.step hb3) | have a3 := Lib.hid (a2.out.step2 hb3)); obtain ⟨_, _, _, _, _⟩ := a3.out.all) | go_skip | go_guarded | go_step | go_upon | (dsimp only []))
    go_ret
    exact ⟨rfl, by (repeat first | with_reducible exact Below.refl _ _ | with_reducible assumption | with_reducible refine Below.drew ?_ | with_reducible refine below_alloc ?_ _ | ((with_reducible refine Below.setCell ?_ ?_ _); rotate_left; (focus (first | with_reducible exact Nat.le_refl _ | (simp; done) | (simp; omega) | omega))) | (with_reducible refine below_trans ?_ (by assumption)))⟩
/-- **PrintInt.** -/
theorem RPrint_any (n : Bool) (V : Nat) (hV : V < 2 ^ 256) (w : World) :
    Calls Tryd.prog 15 #[.agg #[.bool (n ), .int .u64 (lm ( V) 0 : Nat), .int .u64 (lm ( V) 1 : Nat), .int .u64 (lm ( V) 2 : Nat), .int .u64 (lm ( V) 3 : Nat)]] w fun e w' => e = .returned (.string (prI n V)) ∧ Below w.heap.size w w' := by
  have hl : (Lib.decDigits V).length ≤ 78 := decDigits_len_le (k := 77) (Nat.lt_of_lt_of_le hV (by decide))
  have hs : (decS V).size ≤ 100 := by
    show (Lib.decDigits V).toArray.size ≤ 100
    rw [List.size_toArray]
    omega
  refine RPrint_walk n V _ _ _ w (Lib.hid (RpC.mk (RMayI_any n V hV) (fun w => DOf_any V hV w) fun v w h => DPrint_any v V w h hV)) hs ?_
  unfold prI
  cases hm : mayI n V with
  | false => exact .inl ⟨rfl, rfl⟩
  | true =>
    right
    cases n with
    | true => exact .inl ⟨rfl, rfl, rfl⟩
    | false => exact .inr ⟨rfl, rfl, rfl⟩
set_option maxRecDepth 20000 in
set_option maxHeartbeats 1600000 in
theorem RParse_minus (s r : ByteArray) (V : Nat) (o : Bool) (y : Int) (w : World) (C : Hid (∀ w : World, Calls Tryd.prog 40 #[.string r] w fun e w' => e = .returned (.tuple #[.agg #[.int .u64 (lm (V) 0 : Nat), .int .u64 (lm (V) 1 : Nat), .int .u64 (lm (V) 2 : Nat), .int .u64 (lm (V) 3 : Nat)], .bool o]) ∧ Below w.heap.size w w'))
    (h1 : 1 < (s.size : Int)) (hr : s.extract 1 s.size = r) (hy : (y == 48) = false) (hix : ∀ W, (Instr.index 9 (.string s) (.int .i64 0)).run Tryd.prog W = .ok (.int .u8 45) W) (hix1 : ∀ W, (Instr.index 9 (.string s) (.int .i64 1)).run Tryd.prog W = .ok (.int .u8 y) W) :
    Calls Tryd.prog 13 #[.string s] w fun e w' => e = .returned (.tuple #[.agg #[.bool (o ), .int .u64 (lm ( V) 0 : Nat), .int .u64 (lm ( V) 1 : Nat), .int .u64 (lm ( V) 2 : Nat), .int .u64 (lm ( V) 3 : Nat)], .bool o]) ∧ Below w.heap.size w w' := by
  go_enter Tryd.func13, Tryd.ntmps13
  repeat any_goals (first | (go_at_call 40; with_reducible refine (C.out _).mono ?_; rintro e w1 ⟨rfl, hb1⟩; (first | have z1 := Lib.hid (zi_hb1 hb1) | have z1 := Lib.hid (zi_hb hb1)); obtain ⟨_, _, _, _, _⟩ := z1.out.all) | go_skip | go_guarded | go_step | go_upon | (dsimp only []))
  refine bodyPost_ret (v := .tuple #[.agg #[.bool (o ), .int .u64 (lm ( V) 0 : Nat), .int .u64 (lm ( V) 1 : Nat), .int .u64 (lm ( V) 2 : Nat), .int .u64 (lm ( V) 3 : Nat)], .bool o]) ?_ rfl ⟨rfl, by (repeat first | with_reducible exact Below.refl _ _ | with_reducible assumption | with_reducible refine Below.drew ?_ | with_reducible refine below_alloc ?_ _ | ((with_reducible refine Below.setCell ?_ ?_ _); rotate_left; (focus (first | with_reducible exact Nat.le_refl _ | (simp; done) | (simp; omega) | omega))) | (with_reducible refine below_trans ?_ (by assumption)))⟩
  simp [results, Tryd.results13, go_sem, *]
set_option maxRecDepth 20000 in
set_option maxHeartbeats 1600000 in
theorem RParse_plain (s : ByteArray) (V : Nat) (o : Bool) (y _x : Int) (w : World) (C : Hid (∀ w : World, Calls Tryd.prog 40 #[.string s] w fun e w' => e = .returned (.tuple #[.agg #[.int .u64 (lm (V) 0 : Nat), .int .u64 (lm (V) 1 : Nat), .int .u64 (lm (V) 2 : Nat), .int .u64 (lm (V) 3 : Nat)], .bool o]) ∧ Below w.heap.size w w'))
    (h : (s.size : Int) ≤ 1 ∨ 1 < (s.size : Int) ∧ (∀ W, (Instr.index 9 (.string s) (.int .i64 0)).run Tryd.prog W = .ok (.int .u8 y) W) ∧ (y == 45) = false ∨ 1 < (s.size : Int) ∧ (∀ W, (Instr.index 9 (.string s) (.int .i64 0)).run Tryd.prog W = .ok (.int .u8 45) W) ∧ (∀ W, (Instr.index 9 (.string s) (.int .i64 1)).run Tryd.prog W = .ok (.int .u8 48) W)) :
    Calls Tryd.prog 13 #[.string s] w fun e w' => e = .returned (.tuple #[.agg #[.bool (false ), .int .u64 (lm ( V) 0 : Nat), .int .u64 (lm ( V) 1 : Nat), .int .u64 (lm ( V) 2 : Nat), .int .u64 (lm ( V) 3 : Nat)], .bool o]) ∧ Below w.heap.size w w' := by
  rcases h with h | ⟨h, hix, hy⟩ | ⟨h, hix, hix1⟩
  · go_enter Tryd.func13, Tryd.ntmps13
    repeat any_goals (first | (go_at_call 40; with_reducible refine (C.out _).mono ?_; rintro e w1 ⟨rfl, hb1⟩; (first | have z1 := Lib.hid (zi_hb1 hb1) | have z1 := Lib.hid (zi_hb hb1)); obtain ⟨_, _, _, _, _⟩ := z1.out.all) | go_skip | go_guarded | go_step | go_upon | (dsimp only []))
    refine bodyPost_ret (v := .tuple #[.agg #[.bool (false ), .int .u64 (lm ( V) 0 : Nat), .int .u64 (lm ( V) 1 : Nat), .int .u64 (lm ( V) 2 : Nat), .int .u64 (lm ( V) 3 : Nat)], .bool o]) ?_ rfl ⟨rfl, by (repeat first | with_reducible exact Below.refl _ _ | with_reducible assumption | with_reducible refine Below.drew ?_ | with_reducible refine below_alloc ?_ _ | ((with_reducible refine Below.setCell ?_ ?_ _); rotate_left; (focus (first | with_reducible exact Nat.le_refl _ | (simp; done) | (simp; omega) | omega))) | (with_reducible refine below_trans ?_ (by assumption)))⟩
    simp [results, Tryd.results13, go_sem, *]
  · go_enter Tryd.func13, Tryd.ntmps13
    repeat any_goals (first | (go_at_call 40; with_reducible refine (C.out _).mono ?_; rintro e w1 ⟨rfl, hb1⟩; (first | have z1 := Lib.hid (zi_hb1 hb1) | have z1 := Lib.hid (zi_hb hb1)); obtain ⟨_, _, _, _, _⟩ := z1.out.all) | go_skip | go_guarded | go_step | go_upon | (dsimp only []))
    refine bodyPost_ret (v := .tuple #[.agg #[.bool (false ), .int .u64 (lm ( V) 0 : Nat), .int .u64 (lm ( V) 1 : Nat), .int .u64 (lm ( V) 2 : Nat), .int .u64 (lm ( V) 3 : Nat)], .bool o]) ?_ rfl ⟨rfl, by (repeat first | with_reducible exact Below.refl _ _ | with_reducible assumption | with_reducible refine Below.drew ?_ | with_reducible refine below_alloc ?_ _ | ((with_reducible refine Below.setCell ?_ ?_ _); rotate_left; (focus (first | with_reducible exact Nat.le_refl _ | (simp; done) | (simp; omega) | omega))) | (with_reducible refine below_trans ?_ (by assumption)))⟩
    simp [results, Tryd.results13, go_sem, *]
  · go_enter Tryd.func13, Tryd.ntmps13
    repeat any_goals (first | (go_at_call 40; with_reducible refine (C.out _).mono ?_; rintro e w1 ⟨rfl, hb1⟩; (first | have z1 := Lib.hid (zi_hb1 hb1) | have z1 := Lib.hid (zi_hb hb1)); obtain ⟨_, _, _, _, _⟩ := z1.out.all) | go_skip | go_guarded | go_step | go_upon | (dsimp only []))
    refine bodyPost_ret (v := .tuple #[.agg #[.bool (false ), .int .u64 (lm ( V) 0 : Nat), .int .u64 (lm ( V) 1 : Nat), .int .u64 (lm ( V) 2 : Nat), .int .u64 (lm ( V) 3 : Nat)], .bool o]) ?_ rfl ⟨rfl, by (repeat first | with_reducible exact Below.refl _ _ | with_reducible assumption | with_reducible refine Below.drew ?_ | with_reducible refine below_alloc ?_ _ | ((with_reducible refine Below.setCell ?_ ?_ _); rotate_left; (focus (first | with_reducible exact Nat.le_refl _ | (simp; done) | (simp; omega) | omega))) | (with_reducible refine below_trans ?_ (by assumption)))⟩
    simp [results, Tryd.results13, go_sem, *]
theorem pOk_minus (l : List UInt8) : pOk (45 :: l) = false := by
  refine pOk_digit (m := 0) (Nat.succ_pos _) ?_
  show isDg 45 = false
  decide
/-- **ParseInt.** -/
theorem RParse_any (s : ByteArray) (hs : s.size ≤ 1000000) (w : World) :
    Calls Tryd.prog 13 #[.string s] w fun e w' => e = .returned (.tuple #[.agg #[.bool (paS s.data.toList ), .int .u64 (lm ( paV s.data.toList) 0 : Nat), .int .u64 (lm ( paV s.data.toList) 1 : Nat), .int .u64 (lm ( paV s.data.toList) 2 : Nat), .int .u64 (lm ( paV s.data.toList) 3 : Nat)], .bool (paOk s.data.toList)]) ∧ Below w.heap.size w w' := by
  have hl : s.data.toList.length = s.size := Array.length_toList
  have hix : ∀ (k : Nat) (h : k < s.data.toList.length), ∀ W, (Instr.index 9 (.string s) (.int .i64 (k : Int))).run Tryd.prog W = .ok (.int .u8 ((s.data.toList[k].toNat : Nat) : Int)) W := fun k h W => idx_str h W
  have hex : (s.extract 1 s.size).data.toList = s.data.toList.tail := by
    rw [ByteArray.data_extract, Array.toList_extract]
    simp only [List.extract]
    rw [List.drop_one]
    exact List.take_of_length_le (by rw [List.length_tail]; omega)
  have P := DParse_any s hs
  have Q := DParse_any (s.extract 1 s.size) (by rw [ByteArray.size_extract]; omega)
  rw [hex] at Q
  cases hd : s.data.toList with
  | nil =>
    rw [hd] at P
    exact RParse_plain s _ _ 0 0 w (Lib.hid P) (.inl (by rw [hd] at hl; have : s.size = 0 := hl.symm; omega))
  | cons c l =>
    rw [hd] at P Q hl
    have hix0 := hix 0 (by rw [hd]; exact Nat.succ_pos _)
    have hc : s.data.toList[0]'(by rw [hd]; exact Nat.succ_pos _) = c := by simp [hd]
    rw [hc] at hix0
    have hl2 : l.length + 1 = s.size := hl
    by_cases c45 : c = 45
    · subst c45
      have e1 : paOk (45 :: l) = (pOk l && !(pV l == 0)) := rfl
      have e3 : paS (45 :: l) = paOk (45 :: l) := rfl
      have no : paOk (45 :: l) = false → paS (45 :: l) = false ∧ paV (45 :: l) = 0 := fun h => ⟨by rw [e3, h], by unfold paV; rw [h]; rfl⟩
      have pm := pOk_minus l
      cases hd2 : l with
      | nil =>
        have e : paOk (45 :: []) = false := rfl
        obtain ⟨n1, n2⟩ := no (by rw [hd2]; exact e)
        rw [hd2] at n1 n2 hl2
        rw [n1, n2, e]
        rw [pm, pV_no pm] at P
        exact RParse_plain s _ _ 0 0 w (Lib.hid P) (.inl (by have : 0 + 1 = s.size := hl2; omega))
      | cons d m =>
        have hd3 : s.data.toList = 45 :: d :: m := by rw [hd, hd2]
        have hix1 := hix 1 (by rw [hd3]; exact Nat.succ_lt_succ (Nat.succ_pos _))
        have hcd : s.data.toList[1]'(by rw [hd3]; exact Nat.succ_lt_succ (Nat.succ_pos _)) = d := by simp [hd3]
        rw [hcd] at hix1
        have h1 : 1 < (s.size : Int) := by
          rw [hd2, List.length_cons] at hl2
          omega
        by_cases d48 : d = 48
        · subst d48
          have e : paOk (45 :: 48 :: m) = false := by
            have e0 : paOk (45 :: 48 :: m) = (pOk (48 :: m) && !(pV (48 :: m) == 0)) := rfl
            rw [e0]
            cases m with
            | nil => rfl
            | cons x y =>
              have hno : pOk (48 :: x :: y) = false := decide_eq_false fun h => h.2.1 ⟨Nat.succ_lt_succ (Nat.succ_pos _), rfl⟩
              rw [hno]
              rfl
          obtain ⟨n1, n2⟩ := no (by rw [hd2]; exact e)
          rw [hd2] at n1 n2
          rw [n1, n2, e]
          rw [pm, pV_no pm] at P
          exact RParse_plain s _ _ 0 0 w (Lib.hid P) (.inr (.inr ⟨h1, hix0, hix1⟩))
        · rw [hd2, List.tail_cons] at Q
          have e0 : paOk (45 :: d :: m) = pOk (d :: m) := by
            have e0 : paOk (45 :: d :: m) = (pOk (d :: m) && !(pV (d :: m) == 0)) := rfl
            rw [e0]
            cases ho : pOk (d :: m) with
            | false => rfl
            | true =>
              have hdg : isDg d = true := by
                have h := (of_decide_eq_true ho).2.2.1
                rw [List.all_cons, Bool.and_eq_true] at h
                exact h.1
              have hdr : 48 ≤ d.toNat := (of_decide_eq_true hdg).1
              have hne : d.toNat ≠ 48 := fun h => d48 (UInt8.toNat_inj.1 h)
              have hge : 0 * 10 + (d.toNat - 48) ≤ decN 0 (d :: m) := decN_ge _ m
              have hv := pV_yes ho
              have : pV (d :: m) ≠ 0 := by omega
              simpa using this
          have e2 : paV (45 :: d :: m) = pV (d :: m) := by
            unfold paV
            rw [e0]
            have e4 : paL (45 :: d :: m) = d :: m := rfl
            rw [e4]
            unfold pV
            split <;> rfl
          have e5 : paS (45 :: d :: m) = pOk (d :: m) := by
            have e6 : paS (45 :: d :: m) = paOk (45 :: d :: m) := rfl
            rw [e6, e0]
          rw [e0, e2, e5]
          refine RParse_minus s _ _ _ _ w (Lib.hid Q) h1 rfl ?_ hix0 hix1
          rw [beq_eq_false_iff_ne]
          intro h
          refine d48 (UInt8.toNat_inj.1 ?_)
          show d.toNat = 48
          omega
    · have hn : paN (c :: l) = false := decide_eq_false (by simpa using c45)
      have e0 : paL (c :: l) = c :: l := if_neg (by simpa using c45)
      have e1 : paOk (c :: l) = pOk (c :: l) := by unfold paOk; rw [e0, hn]; simp
      have e2 : paV (c :: l) = pV (c :: l) := by
        unfold paV
        rw [e1, e0]
        unfold pV
        split <;> rfl
      have e3 : paS (c :: l) = false := by unfold paS; rw [hn]; rfl
      rw [e1, e2, e3]
      by_cases h1 : (s.size : Int) ≤ 1
      · exact RParse_plain s _ _ 0 0 w (Lib.hid P) (.inl h1)
      · refine RParse_plain s _ _ _ 0 w (Lib.hid P) (.inr (.inl ⟨by omega, hix0, ?_⟩))
        rw [beq_eq_false_iff_ne]
        intro h
        refine c45 (UInt8.toNat_inj.1 ?_)
        show c.toNat = 45
        omega
end Go.Proofs.YtbakgmkkebnhkaaDoor
