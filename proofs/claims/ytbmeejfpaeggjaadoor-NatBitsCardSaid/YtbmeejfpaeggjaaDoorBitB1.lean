/- The law NatBits: the walk, one of twelve (over LexC). -/
import Derived.Test.YtbmeejfpaeggjaaDoorBitM
namespace Go.Proofs.YtbmeejfpaeggjaaDoor
open Go.RowKit
set_option maxRecDepth 20000 in
set_option maxHeartbeats 6400000 in
theorem Bits_walkB1 (A : Nat) (k i M : Int) (L s F T lo D : Nat) (ok far is b1 b2 : Bool) (C : Hid (BitsC A k i M L s F T lo D ok far is b1 b2)) (hi : k.tmod 300 = i) (hM : max i 0 = M) (hM0 : 0 ≤ M) (hM1 : M ≤ 300) (hi0 : -300 ≤ i) (hi1 : i ≤ 300) (hL : (L : Int) ≤ 256)
    (hok : Hid (ok = decide (0 ≤ i ∧ (L = 0 ∨ i ≤ 256 - (L : Int))))) (hisb : Hid (is = true)) (hs : Hid (ok = false → s = 0)) (his : Hid (is = ((((lm A 1 : Nat) : Int) == 0) && (((lm A 2 : Nat) : Int) == 0) && (((lm A 3 : Nat) : Int) == 0)))) (hlo : Hid ((is = true → lo = lm A 0) ∧ (is = false → lo = 0))) (e1h : Hid (0 ≤ k)) (e2h : Hid (k ≤ 256)) (w : World) (hT : Tabs w) :
    Calls Tryd.prog 9 #[.agg #[.int .u64 (lm (A) 0 : Nat), .int .u64 (lm (A) 1 : Nat), .int .u64 (lm (A) 2 : Nat), .int .u64 (lm (A) 3 : Nat)], .int .i64 k] w fun e w' => e = .returned (.bool true) ∧ Below w.heap.size w w' := by
  have T0 := Lib.hid hT
  clear hT
  go_enter Tryd.func9, Tryd.ntmps9
  go_upto_region 1 with fail
  have X0 := Lib.hid (@box_new w A 24)
  have T1 := Lib.hid (T0.out.alloc (.cells #[.int .u64 (lm A 0 : Nat), .int .u64 (lm A 1 : Nat), .int .u64 (lm A 2 : Nat), .int .u64 (lm A 3 : Nat)] 24))
  go_upto_region 4 with (first | (go_at_call 15; with_reducible refine (C.out.c1 _).mono ?_; rintro e w1 ⟨u, rfl, hu1, hb1⟩; (first | have X1 := Lib.hid (X0.out.below hb1) | have X1 := Lib.hid (X0.out.step hb1)); obtain ⟨_, _, _, _, _⟩ := X1.out.all; (first | have T2 := Lib.hid (T1.out.below hb1) | have T2 := Lib.hid (T1.out.step hb1))) | (go_at_call 27; with_reducible refine (C.out.c2 _).mono ?_; rintro e w2 ⟨rfl, hb2⟩; (first | have X2 := Lib.hid (X1.out.below hb2) | have X2 := Lib.hid (X1.out.step hb2)); obtain ⟨_, _, _, _, _⟩ := X2.out.all; (first | have T2b := Lib.hid (T2.out.below hb2) | have T2b := Lib.hid (T2.out.step hb2))))
  have Tu2 := Lib.hid (hu1.below hb2)
  (have S3 := Lib.hid (@box_new w2 s 24); have X3 := Lib.hid (X2.out.alloc (.cells #[.int .u64 (lm s 0 : Nat), .int .u64 (lm s 1 : Nat), .int .u64 (lm s 2 : Nat), .int .u64 (lm s 3 : Nat)] 24)); have T3 := Lib.hid (T2b.out.alloc (.cells #[.int .u64 (lm s 0 : Nat), .int .u64 (lm s 1 : Nat), .int .u64 (lm s 2 : Nat), .int .u64 (lm s 3 : Nat)] 24)); have Tu3 := Lib.hid (Tu2.out.alloc (.cells #[.int .u64 (lm s 0 : Nat), .int .u64 (lm s 1 : Nat), .int .u64 (lm s 2 : Nat), .int .u64 (lm s 3 : Nat)] 24)); have hW3 : Below w.heap.size w (w2.alloc (.cells #[.int .u64 (lm s 0 : Nat), .int .u64 (lm s 1 : Nat), .int .u64 (lm s 2 : Nat), .int .u64 (lm s 3 : Nat)] 24)) := (by (repeat first | with_reducible exact Below.refl _ _ | with_reducible assumption | with_reducible refine Below.drew ?_ | with_reducible refine below_alloc ?_ _ | ((with_reducible refine Below.setCell ?_ ?_ _); rotate_left; (focus (first | with_reducible exact Nat.le_refl _ | (simp; done) | (simp; omega) | omega))) | (with_reducible refine below_trans ?_ (by assumption)))); generalize w2.alloc (.cells #[.int .u64 (lm s 0 : Nat), .int .u64 (lm s 1 : Nat), .int .u64 (lm s 2 : Nat), .int .u64 (lm s 3 : Nat)] 24) = w3 at *; obtain ⟨_, _, _, _, _⟩ := S3.out.all; obtain ⟨_, _, _, _, _⟩ := X3.out.all)
  clear hb1 hb2 hu1 X0 X1 X2 T0 T1 T2 T2b Tu2
  go_cut [9] (fun s9 wx => s9 = .bool ok ∧ wx = w3)
  case first =>
    have lenA : Hid (Calls Tryd.prog 33 #[u] w3 fun e w' => e = .returned (.int .i64 (L : Nat)) ∧ w3 = w') := Lib.hid (C.out.c3 _ _ Tu3.out)
    by_cases d0 : 0 ≤ i
    · by_cases d1 : L = 0
      · have e : ok = true := by rw [hok.out]; exact decide_eq_true ⟨d0, .inl d1⟩
        subst e
        repeat any_goals (first | (go_at_call 33; with_reducible refine lenA.out.mono ?_; rintro e w' ⟨rfl, rfl⟩) | go_skip | go_guarded | go_step | go_upon | (dsimp only []))
        all_goals (go_meet; case rel => exact ⟨by first | rfl | simp [d1], rfl⟩)
      · have d1' : ((L : Int) == 0) = false := by simp; omega
        by_cases d2 : (L : Int) + i ≤ 256
        · have e : ok = true := by rw [hok.out]; exact decide_eq_true ⟨d0, .inr (by omega)⟩
          subst e
          repeat any_goals (first | (go_at_call 33; with_reducible refine lenA.out.mono ?_; rintro e w' ⟨rfl, rfl⟩) | go_skip | go_guarded | go_step | go_upon | (dsimp only []))
          all_goals (go_meet; case rel => exact ⟨by first | rfl | simp [*], rfl⟩)
        · have e : ok = false := by rw [hok.out]; exact decide_eq_false fun h => by omega
          subst e
          repeat any_goals (first | (go_at_call 33; with_reducible refine lenA.out.mono ?_; rintro e w' ⟨rfl, rfl⟩) | go_skip | go_guarded | go_step | go_upon | (dsimp only []))
          all_goals (go_meet; case rel => exact ⟨by first | rfl | simp [*], rfl⟩)
    · have e : ok = false := by rw [hok.out]; exact decide_eq_false fun h => by omega
      subst e
      repeat any_goals (first | go_skip | go_guarded | go_step | go_upon | (simp only []; done))
      all_goals (go_meet; case rel => exact ⟨by first | rfl | simp [*], rfl⟩)
  case rest =>
    obtain ⟨rfl, rfl⟩ := hcut
    go_upto_region 5 with fail
    go_cut [54] (fun s54 wx => s54 = .bool false ∧ wx = wc)
    case first =>
      cases ok with
      | true =>
        repeat any_goals (first | go_skip | go_guarded | go_step | go_upon | (simp only []; done))
        all_goals (go_meet; case rel => exact ⟨by first | rfl | simp, rfl⟩)
      | false =>
        obtain rfl : s = 0 := hs.out rfl
        have hz := lm_z (V := 0) (by decide)
        rw [show ((0 : Nat) == 0) = true from rfl] at hz
        repeat any_goals (first | go_skip | go_guarded | go_step | go_upon | (simp only []; done))
        all_goals (go_meet; case rel => exact ⟨by first | rfl | simp [hz], rfl⟩)
    case rest =>
      obtain ⟨rfl, rfl⟩ := hcut
      go_upto_region 7 with fail
      go_cut [60] (fun s60 wx => s60 = .bool (ok && decide (0 < (L : Int))) ∧ wx = wc)
      case first =>
        have lenA : Hid (Calls Tryd.prog 33 #[u] wc fun e w' => e = .returned (.int .i64 (L : Nat)) ∧ wc = w') := Lib.hid (C.out.c3 _ _ Tu3.out)
        cases ok with
        | true =>
          repeat any_goals (first | (go_at_call 33; with_reducible refine lenA.out.mono ?_; rintro e w' ⟨rfl, rfl⟩) | go_skip | go_guarded | go_step | go_upon | (dsimp only []))
          all_goals (go_meet; case rel => exact ⟨by first | rfl | simp, rfl⟩)
        | false =>
          repeat any_goals (first | go_skip | go_guarded | go_step | go_upon | (simp only []; done))
          all_goals (go_meet; case rel => exact ⟨by first | rfl | simp, rfl⟩)
      case rest =>
        obtain ⟨rfl, rfl⟩ := hcut
        go_upto_if 60 with fail
        go_cut [10] (fun s10 wx => Below wc.heap.size wc wx)
        case first =>
          cases hf : (ok && decide (0 < (L : Int))) with
          | false =>
            repeat any_goals (first | go_skip | go_guarded | go_step | go_upon | (simp only []; done))
            all_goals (go_meet; case rel => exact Below.refl _ _)
          | true =>
            have hok1 : ok = true := by
              rw [Bool.and_eq_true] at hf
              exact hf.1
            repeat any_goals (first | (go_at_call 34; with_reducible refine (C.out.c4 _ _ Tu3.out hok1).mono ?_; rintro e w4 ⟨v4, rfl, hv4, hb4⟩; (first | have S4 := Lib.hid (S3.out.below hb4) | have S4 := Lib.hid (S3.out.step hb4)); obtain ⟨_, _, _, _, _⟩ := S4.out.all) | (go_at_call 35; with_reducible refine (C.out.c5 _ _ hv4).mono ?_; rintro e w5 ⟨rfl, hb5⟩; (first | have S5 := Lib.hid (S4.out.below hb5) | have S5 := Lib.hid (S4.out.step hb5)); obtain ⟨_, _, _, _, _⟩ := S5.out.all) | go_skip | go_guarded | go_step | go_upon | (dsimp only []))
            go_meet
            case rel => (repeat first | with_reducible exact Below.refl _ _ | with_reducible assumption | with_reducible refine Below.drew ?_ | with_reducible refine below_alloc ?_ _ | ((with_reducible refine Below.setCell ?_ ?_ _); rotate_left; (focus (first | with_reducible exact Nat.le_refl _ | (simp; done) | (simp; omega) | omega))) | (with_reducible refine below_trans ?_ (by assumption)))
        case rest =>
          have X4 := Lib.hid (X3.out.below hcut)
          have T4 := Lib.hid (T3.out.below hcut)
          have Tu4 := Lib.hid (Tu3.out.below hcut)
          have hW4 := below_trans hW3 hcut
          clear hcut X3 T3 Tu3 hW3 S3
          obtain ⟨_, _, _, _, _⟩ := X4.out.all
          go_upto_region 14 with (first | (go_at_call 34; with_reducible refine (C.out.c6 _ _ Tu4.out).mono ?_; rintro e w6 ⟨v6, rfl, hv6, hb6⟩; (first | have X6 := Lib.hid (X4.out.below hb6) | have X6 := Lib.hid (X4.out.step hb6)); obtain ⟨_, _, _, _, _⟩ := X6.out.all; (first | have T6 := Lib.hid (T4.out.below hb6) | have T6 := Lib.hid (T4.out.step hb6)); (first | have Tu6 := Lib.hid (Tu4.out.below hb6) | have Tu6 := Lib.hid (Tu4.out.step hb6))) | (go_at_call 35; with_reducible refine (C.out.c7 _ _ hv6).mono ?_; rintro e w7 ⟨rfl, hb7⟩; (first | have X7 := Lib.hid (X6.out.below hb7) | have X7 := Lib.hid (X6.out.step hb7)); obtain ⟨_, _, _, _, _⟩ := X7.out.all; (first | have T7 := Lib.hid (T6.out.below hb7) | have T7 := Lib.hid (T6.out.step hb7)); (first | have Tu7 := Lib.hid (Tu6.out.below hb7) | have Tu7 := Lib.hid (Tu6.out.step hb7))) | (go_at_call 27; with_reducible refine (C.out.c8 _).mono ?_; rintro e w8 ⟨rfl, hb8⟩; have D8 := Lib.hid (box_hb hb8); obtain ⟨_, _, _, _, _⟩ := D8.out.all; (first | have X8 := Lib.hid (X7.out.below hb8) | have X8 := Lib.hid (X7.out.step hb8)); obtain ⟨_, _, _, _, _⟩ := X8.out.all; (first | have T8 := Lib.hid (T7.out.below hb8) | have T8 := Lib.hid (T7.out.step hb8)); (first | have Tu8 := Lib.hid (Tu7.out.below hb8) | have Tu8 := Lib.hid (Tu7.out.step hb8))) | (go_at_call 36; with_reducible refine (C.out.c9 _).mono ?_; rintro e w9 ⟨rfl, hb9⟩; (first | have D9 := Lib.hid (D8.out.below hb9) | have D9 := Lib.hid (D8.out.step hb9)); obtain ⟨_, _, _, _, _⟩ := D9.out.all; (first | have X9 := Lib.hid (X8.out.below hb9) | have X9 := Lib.hid (X8.out.step hb9)); obtain ⟨_, _, _, _, _⟩ := X9.out.all; (first | have T9 := Lib.hid (T8.out.below hb9) | have T9 := Lib.hid (T8.out.step hb9)); (first | have Tu9 := Lib.hid (Tu8.out.below hb9) | have Tu9 := Lib.hid (Tu8.out.step hb9))))
          have hW5 := below_trans (below_alloc (below_trans (below_alloc (below_trans (below_trans hW4 hb6) hb7) _) hb8) _) hb9
          go_cut [18] (fun s18 wx => s18 = .bool is ∧ wx = w9)
          case first =>
            have h3 := his.out
            obtain ⟨y1, hy1⟩ : ∃ y, (((lm A 1 : Nat) : Int) == 0) = y := ⟨_, rfl⟩
            obtain ⟨y2, hy2⟩ : ∃ y, (((lm A 2 : Nat) : Int) == 0) = y := ⟨_, rfl⟩
            obtain ⟨y3, hy3⟩ : ∃ y, (((lm A 3 : Nat) : Int) == 0) = y := ⟨_, rfl⟩
            rw [hy1, hy2, hy3] at h3
            have h4 : y1 = true ∧ y2 = true ∧ y3 = true := by
              rw [hisb.out] at h3
              revert h3
              cases y1 <;> cases y2 <;> cases y3 <;> simp
            obtain ⟨rfl, rfl, rfl⟩ := h4
            repeat any_goals (first | go_skip | go_guarded | go_step | go_upon | (simp only []; done))
            go_meet
            case rel => exact ⟨by rw [hisb.out], rfl⟩
          case rest =>
            obtain ⟨rfl, rfl⟩ := hcut
            have hLL : ((L : Int) == (L : Int)) = true := by simp
            go_upto_region 15 with fail
            dsimp only [List.append]
            clear hb6 hb7 hb8 hb9 hv6 X4 X6 X7 X8 D8 T4 T6 T7 T8 Tu4 Tu6 Tu7 Tu8
            have hW9 : Below w.heap.size w wc := hW5
            clear hW4 hW5
            have eLL : ((L : Int) == (L : Int)) = true := by simp
            have hz3 : (((lm A 0 : Nat) : Int) == ((lm A 0 : Nat) : Int)) = true := by simp
            have hA := C.out
            have h6 : ∃ (b : Bool) (l0 : Nat), is = b ∧ lo = l0 ∧ (b = true → l0 = lm A 0) ∧ (b = false → l0 = 0) := ⟨is, lo, rfl, rfl, hlo.out.1, hlo.out.2⟩
            clear h6 hA
            (obtain ⟨C_, hC⟩ : ∃ C : World → Prop, C = fun w' => Below (wc).heap.size (wc) w' := ⟨_, rfl⟩; have HC := Lib.hid hC; have hne : ∀ p : Prop, (∀ w1 : World, C_ w1 → p) = p := fun p => propext ⟨fun h => h (wc) (by rw [hC]; exact Below.refl _ _), fun h _ _ => h⟩; clear hC; refine wp_region_quiet_great (C := C_) (by kernel_rfl) (by kernel_rfl) (by rw [HC.out]; exact (Below.refl _ _).drew) ?_)
            have e1 := e1h.out
            have e2 := e2h.out
            skip
            have hh := hisb.out
            subst hh
            all_goals (first | (have hlo1 := hlo.out.1 rfl; subst hlo1) | (have hlo0 := hlo.out.2 rfl; subst hlo0))
            all_goals (((go_big_quiet_want; go_big_quiet_op; refine ⟨.bool true, fun w1 hw1 => ?_, ?_⟩; (rw [HC.out] at hw1 ⊢; with_reducible refine (told_any w1 (T9.out.below hw1)).mono ?_; rintro e w4 ⟨rfl, hb4⟩; exact ⟨rfl, below_trans hw1 hb4⟩); go_big_quiet_on); (go_big_quiet_want; go_big_quiet_op; go_big_quiet_on); (first | (go_big_quiet_want; refine ⟨.agg #[.int .u64 (lm (A) 0 : Nat), .int .u64 (lm (A) 1 : Nat), .int .u64 (lm (A) 2 : Nat), .int .u64 (lm (A) 3 : Nat)], fun w1 hw1 => ?_, ?_⟩; (rw [HC.out] at hw1; obtain ⟨_, _, _, _, _⟩ := (X9.out.below hw1).all; simp [Oper.quietAt, go_sem, *]); (try simp only [Act.put, List.setIfInBounds_toArray, List.set_cons_zero, List.set_cons_succ]); go_big_quiet_on) | go_big_quiet_skip); (first | (go_big_quiet_want; go_big_quiet_op; go_big_quiet_on) | go_big_quiet_skip); (first | (go_big_quiet_want; go_big_quiet_op; refine ⟨.agg #[.int .u64 (lm (D) 0 : Nat), .int .u64 (lm (D) 1 : Nat), .int .u64 (lm (D) 2 : Nat), .int .u64 (lm (D) 3 : Nat)], fun w1 hw1 => ?_, ?_⟩; (rw [HC.out] at hw1 ⊢; with_reducible refine (C.out.ca w1).mono ?_; rintro e w4 ⟨rfl, hb4⟩; exact ⟨rfl, below_trans hw1 hb4⟩); go_big_quiet_on) | go_big_quiet_skip); (first | (go_big_quiet_want; refine ⟨.agg #[.int .u64 (lm (D) 0 : Nat), .int .u64 (lm (D) 1 : Nat), .int .u64 (lm (D) 2 : Nat), .int .u64 (lm (D) 3 : Nat)], fun w1 hw1 => ?_, ?_⟩; (rw [HC.out] at hw1; obtain ⟨_, _, _, _, _⟩ := (D9.out.below hw1).all; simp [Oper.quietAt, go_sem, *]); (try simp only [Act.put, List.setIfInBounds_toArray, List.set_cons_zero, List.set_cons_succ]); go_big_quiet_on) | go_big_quiet_skip); (first | (go_big_quiet_want; go_big_quiet_op; go_big_quiet_on) | go_big_quiet_skip); (go_big_quiet_want; go_big_quiet_op; go_big_quiet_on); (go_big_quiet_want; go_big_quiet_op; go_big_quiet_on); (first | (go_big_quiet_want; refine ⟨.agg #[.int .u64 (lm (A) 0 : Nat), .int .u64 (lm (A) 1 : Nat), .int .u64 (lm (A) 2 : Nat), .int .u64 (lm (A) 3 : Nat)], fun w1 hw1 => ?_, ?_⟩; (rw [HC.out] at hw1; obtain ⟨_, _, _, _, _⟩ := (X9.out.below hw1).all; simp [Oper.quietAt, go_sem, *]); (try simp only [Act.put, List.setIfInBounds_toArray, List.set_cons_zero, List.set_cons_succ]); go_big_quiet_on) | go_big_quiet_skip); (first | (go_big_quiet_want; go_big_quiet_op; refine ⟨.int .i64 (L : Nat), fun w1 hw1 => ?_, ?_⟩; (rw [HC.out] at hw1 ⊢; with_reducible refine (C.out.cb w1).mono ?_; rintro e w4 ⟨rfl, hb4⟩; exact ⟨rfl, below_trans hw1 hb4⟩); go_big_quiet_on) | go_big_quiet_skip); (first | (go_big_quiet_want; go_big_quiet_op; go_big_quiet_on) | go_big_quiet_skip); (first | (go_big_quiet_want; go_big_quiet_op; refine ⟨.int .i64 (L : Nat), fun w1 hw1 => ?_, ?_⟩; (rw [HC.out] at hw1 ⊢; with_reducible refine (C.out.c3 _ w1 (Tu9.out.below hw1)).mono ?_; rintro e w4 ⟨rfl, rfl⟩; exact ⟨rfl, hw1⟩); go_big_quiet_on) | go_big_quiet_skip); (first | (go_big_quiet_want; go_big_quiet_op; go_big_quiet_on) | go_big_quiet_skip); (go_big_quiet_want; go_big_quiet_op; go_big_quiet_on); (go_big_quiet_want; go_big_quiet_op; go_big_quiet_on); (first | (go_big_quiet_want; refine ⟨.agg #[.int .u64 (lm (A) 0 : Nat), .int .u64 (lm (A) 1 : Nat), .int .u64 (lm (A) 2 : Nat), .int .u64 (lm (A) 3 : Nat)], fun w1 hw1 => ?_, ?_⟩; (rw [HC.out] at hw1; obtain ⟨_, _, _, _, _⟩ := (X9.out.below hw1).all; simp [Oper.quietAt, go_sem, *]); (try simp only [Act.put, List.setIfInBounds_toArray, List.set_cons_zero, List.set_cons_succ]); go_big_quiet_on) | go_big_quiet_skip); (first | (go_big_quiet_want; go_big_quiet_op; refine ⟨.int .i64 (T : Nat), fun w1 hw1 => ?_, ?_⟩; (rw [HC.out] at hw1 ⊢; with_reducible refine (C.out.cc w1 (T9.out.below hw1)).mono ?_; rintro e w4 ⟨rfl, hb4⟩; exact ⟨rfl, below_trans hw1 hb4⟩); go_big_quiet_on) | go_big_quiet_skip); (first | (go_big_quiet_want; go_big_quiet_op; go_big_quiet_on) | go_big_quiet_skip); (first | (go_big_quiet_want; go_big_quiet_op; refine ⟨.int .i64 (T : Nat), fun w1 hw1 => ?_, ?_⟩; (rw [HC.out] at hw1 ⊢; with_reducible refine (C.out.cd _ w1 (Tu9.out.below hw1)).mono ?_; rintro e w4 ⟨rfl, rfl⟩; exact ⟨rfl, hw1⟩); go_big_quiet_on) | go_big_quiet_skip); (first | (go_big_quiet_want; go_big_quiet_op; go_big_quiet_on) | go_big_quiet_skip); (go_big_quiet_want; go_big_quiet_op; go_big_quiet_on); (go_big_quiet_want; go_big_quiet_op; go_big_quiet_on); (first | (go_big_quiet_want; refine ⟨.agg #[.int .u64 (lm (A) 0 : Nat), .int .u64 (lm (A) 1 : Nat), .int .u64 (lm (A) 2 : Nat), .int .u64 (lm (A) 3 : Nat)], fun w1 hw1 => ?_, ?_⟩; (rw [HC.out] at hw1; obtain ⟨_, _, _, _, _⟩ := (X9.out.below hw1).all; simp [Oper.quietAt, go_sem, *]); (try simp only [Act.put, List.setIfInBounds_toArray, List.set_cons_zero, List.set_cons_succ]); go_big_quiet_on) | go_big_quiet_skip); (first | (go_big_quiet_want; go_big_quiet_op; go_big_quiet_on) | go_big_quiet_skip); (first | (go_big_quiet_want; go_big_quiet_op; refine ⟨.bool b1, fun w1 hw1 => ?_, ?_⟩; (rw [HC.out] at hw1 ⊢; with_reducible refine (C.out.ce w1).mono ?_; rintro e w4 ⟨rfl, hb4⟩; exact ⟨rfl, below_trans hw1 hb4⟩); go_big_quiet_on) | go_big_quiet_skip); (first | (go_big_quiet_want; go_big_quiet_op; go_big_quiet_on) | go_big_quiet_skip); (first | (go_big_quiet_want; go_big_quiet_op; go_big_quiet_on) | go_big_quiet_skip); (first | (go_big_quiet_want; go_big_quiet_op; refine ⟨.bool b1, fun w1 hw1 => ?_, ?_⟩; (rw [HC.out] at hw1 ⊢; with_reducible refine (C.out.cf _ w1 (Tu9.out.below hw1)).mono ?_; rintro e w4 ⟨rfl, rfl⟩; exact ⟨rfl, hw1⟩); go_big_quiet_on) | go_big_quiet_skip); (first | (go_big_quiet_want; go_big_quiet_op; go_big_quiet_on) | go_big_quiet_skip); (go_big_quiet_want; go_big_quiet_op; go_big_quiet_on); (go_big_quiet_want; go_big_quiet_op; go_big_quiet_on); (first | (go_big_quiet_want; refine ⟨.agg #[.int .u64 (lm (A) 0 : Nat), .int .u64 (lm (A) 1 : Nat), .int .u64 (lm (A) 2 : Nat), .int .u64 (lm (A) 3 : Nat)], fun w1 hw1 => ?_, ?_⟩; (rw [HC.out] at hw1; obtain ⟨_, _, _, _, _⟩ := (X9.out.below hw1).all; simp [Oper.quietAt, go_sem, *]); (try simp only [Act.put, List.setIfInBounds_toArray, List.set_cons_zero, List.set_cons_succ]); go_big_quiet_on) | go_big_quiet_skip); (first | (go_big_quiet_want; go_big_quiet_op; go_big_quiet_on) | go_big_quiet_skip); (first | (go_big_quiet_want; go_big_quiet_op; refine ⟨.bool b2, fun w1 hw1 => ?_, ?_⟩; (rw [HC.out] at hw1 ⊢; with_reducible refine (C.out.cg w1).mono ?_; rintro e w4 ⟨rfl, hb4⟩; exact ⟨rfl, below_trans hw1 hb4⟩); go_big_quiet_on) | go_big_quiet_skip); (first | (go_big_quiet_want; go_big_quiet_op; go_big_quiet_on) | go_big_quiet_skip); (first | (go_big_quiet_want; go_big_quiet_op; go_big_quiet_on) | go_big_quiet_skip); (first | (go_big_quiet_want; go_big_quiet_op; refine ⟨.bool b2, fun w1 hw1 => ?_, ?_⟩; (rw [HC.out] at hw1 ⊢; with_reducible refine (C.out.ch _ w1 (Tu9.out.below hw1)).mono ?_; rintro e w4 ⟨rfl, rfl⟩; exact ⟨rfl, hw1⟩); go_big_quiet_on) | go_big_quiet_skip); (first | (go_big_quiet_want; go_big_quiet_op; go_big_quiet_on) | go_big_quiet_skip); (go_big_quiet_want; go_big_quiet_op; go_big_quiet_on); (go_big_quiet_want; go_big_quiet_op; go_big_quiet_on); (first | (go_big_quiet_want; go_big_quiet_op; go_big_quiet_on) | go_big_quiet_skip); (first | (go_big_quiet_want; go_big_quiet_op; go_big_quiet_on) | go_big_quiet_skip); (first | (go_big_quiet_want; go_big_quiet_op; go_big_quiet_on) | go_big_quiet_skip); (first | (go_big_quiet_want; go_big_quiet_op; go_big_quiet_on) | go_big_quiet_skip); (first | (go_big_quiet_want; go_big_quiet_op; go_big_quiet_on) | go_big_quiet_skip); (first | (go_big_quiet_want; go_big_quiet_op; go_big_quiet_on) | go_big_quiet_skip); (first | (go_big_quiet_want; go_big_quiet_op; go_big_quiet_on) | go_big_quiet_skip); (first | (go_big_quiet_want; go_big_quiet_op; go_big_quiet_on) | go_big_quiet_skip); (first | (go_big_quiet_want; go_big_quiet_op; go_big_quiet_on) | go_big_quiet_skip); (first | (go_big_quiet_want; go_big_quiet_op; go_big_quiet_on) | go_big_quiet_skip); (first | (go_big_quiet_want; go_big_quiet_op; go_big_quiet_on) | go_big_quiet_skip); (first | (go_big_quiet_want; go_big_quiet_op; go_big_quiet_on) | go_big_quiet_skip); (first | (go_big_quiet_want; go_big_quiet_op; refine ⟨.int .i64 (L : Nat), fun w1 hw1 => ?_, ?_⟩; (rw [HC.out] at hw1 ⊢; with_reducible refine (C.out.c3 _ w1 (Tu9.out.below hw1)).mono ?_; rintro e w4 ⟨rfl, rfl⟩; exact ⟨rfl, hw1⟩); go_big_quiet_on) | go_big_quiet_skip); (first | (go_big_quiet_want; go_big_quiet_op; go_big_quiet_on) | go_big_quiet_skip); (first | (go_big_quiet_want; go_big_quiet_op; go_big_quiet_on) | go_big_quiet_skip); (first | (go_big_quiet_want; go_big_quiet_op; go_big_quiet_on) | go_big_quiet_skip); (first | (go_big_quiet_want; go_big_quiet_op; go_big_quiet_on) | go_big_quiet_skip); (go_big_quiet_want; go_big_quiet_op; go_big_quiet_on); (go_big_quiet_want; go_big_quiet_op; go_big_quiet_on); (first | (go_big_quiet_want; go_big_quiet_op; go_big_quiet_on) | go_big_quiet_skip); (first | (go_big_quiet_want; go_big_quiet_op; go_big_quiet_on) | go_big_quiet_skip); (first | (go_big_quiet_want; go_big_quiet_op; go_big_quiet_on) | go_big_quiet_skip); (go_big_quiet_want; go_big_quiet_op; go_big_quiet_on); (go_big_quiet_want; go_big_quiet_op; go_big_quiet_on); (first | (go_big_quiet_want; go_big_quiet_op; go_big_quiet_on) | go_big_quiet_skip); (first | (go_big_quiet_want; go_big_quiet_op; go_big_quiet_on) | go_big_quiet_skip); (first | (go_big_quiet_want; go_big_quiet_op; go_big_quiet_on) | go_big_quiet_skip); (first | (go_big_quiet_want; go_big_quiet_op; go_big_quiet_on) | go_big_quiet_skip); (first | (go_big_quiet_want; refine ⟨.int .u64 (lm A 0 : Nat), fun w1 hw1 => ?_, ?_⟩; (rw [HC.out] at hw1; obtain ⟨_, _, _, _, _⟩ := (X9.out.below hw1).all; simp [Oper.quietAt, go_sem, *]); (try simp only [Act.put, List.setIfInBounds_toArray, List.set_cons_zero, List.set_cons_succ]); go_big_quiet_on) | go_big_quiet_skip); (first | (go_big_quiet_want; go_big_quiet_op; go_big_quiet_on) | go_big_quiet_skip); (first | (go_big_quiet_want; go_big_quiet_op; go_big_quiet_on) | go_big_quiet_skip); (first | (go_big_quiet_want; go_big_quiet_op; go_big_quiet_on) | go_big_quiet_skip); (first | (go_big_quiet_want; go_big_quiet_op; go_big_quiet_on) | go_big_quiet_skip); (first | (go_big_quiet_want; go_big_quiet_op; go_big_quiet_on) | go_big_quiet_skip); (first | (go_big_quiet_want; go_big_quiet_op; go_big_quiet_on) | go_big_quiet_skip); (first | (go_big_quiet_want; go_big_quiet_op; go_big_quiet_on) | go_big_quiet_skip); (first | (go_big_quiet_want; go_big_quiet_op; go_big_quiet_on) | go_big_quiet_skip); (first | (go_big_quiet_want; go_big_quiet_op; go_big_quiet_on) | go_big_quiet_skip); (first | (go_big_quiet_want; go_big_quiet_op; go_big_quiet_on) | go_big_quiet_skip); (go_big_quiet_want; go_big_quiet_op; go_big_quiet_on); (go_big_quiet_want; go_big_quiet_op; go_big_quiet_on); (first | (go_big_quiet_want; go_big_quiet_op; go_big_quiet_on) | go_big_quiet_skip); (first | (go_big_quiet_want; refine ⟨.int .u64 (lm A 0 : Nat), fun w1 hw1 => ?_, ?_⟩; (rw [HC.out] at hw1; obtain ⟨_, _, _, _, _⟩ := (X9.out.below hw1).all; simp [Oper.quietAt, go_sem, *]); (try simp only [Act.put, List.setIfInBounds_toArray, List.set_cons_zero, List.set_cons_succ]); go_big_quiet_on) | go_big_quiet_skip); (first | (go_big_quiet_want; go_big_quiet_op; refine ⟨.agg #[.int .u64 (lm A 0 : Nat), .int .u64 0, .int .u64 0, .int .u64 0], fun w1 hw1 => ?_, ?_⟩; (rw [HC.out] at hw1 ⊢; with_reducible refine (Of_any _ w1).mono ?_; rintro e w4 ⟨rfl, hb4⟩; exact ⟨rfl, below_trans hw1 hb4⟩); go_big_quiet_on) | go_big_quiet_skip); (first | (go_big_quiet_want; go_big_quiet_op; go_big_quiet_on) | go_big_quiet_skip); (first | (go_big_quiet_want; refine ⟨.int .u64 (lm A 0 : Nat), fun w1 hw1 => ?_, ?_⟩; (rw [HC.out] at hw1; obtain ⟨_, _, _, _, _⟩ := (X9.out.below hw1).all; simp [Oper.quietAt, go_sem, *]); (try simp only [Act.put, List.setIfInBounds_toArray, List.set_cons_zero, List.set_cons_succ]); go_big_quiet_on) | go_big_quiet_skip); (first | (go_big_quiet_want; go_big_quiet_op; go_big_quiet_on) | go_big_quiet_skip); (first | (go_big_quiet_want; go_big_quiet_op; go_big_quiet_on) | go_big_quiet_skip); (go_big_quiet_want; go_big_quiet_op; go_big_quiet_on); (go_big_quiet_want; go_big_quiet_op; go_big_quiet_on); (refine wpQuiet_nil ?_; intro w2 hw2; rw [HC.out] at hw2)); clear hne HC; clear C_; (refine (by assumption : ∀ (a : Act) (w : World), Code.wp Tryd.prog Code.ret _ a w → _) _ _ ?_); repeat any_goals (first | go_skip | go_guarded | go_step | go_upon | (simp only []; done)))
            all_goals (go_ret; exact ⟨by simp, below_trans hW9 hw2⟩)
end Go.Proofs.YtbmeejfpaeggjaaDoor
