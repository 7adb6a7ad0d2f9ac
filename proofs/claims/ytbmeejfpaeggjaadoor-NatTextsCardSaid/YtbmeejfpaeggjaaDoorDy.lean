/- Contracts of the document's digits: Digits. -/
import Derived.Test.YtbmeejfpaeggjaaDoorDt
import Derived.Test.YtbmeejfpaeggjaaDoorParN
import Derived.Test.YtbmeejfpaeggjaaDoorBox
namespace Go.Proofs.YtbmeejfpaeggjaaDoor
open Go.RowKit
theorem dec_le (l : List UInt8) (h : l.all isDg = true) (v : Nat) : decN v l < (v + 1) * 10 ^ l.length := by
  induction l generalizing v with
  | nil => show v < (v + 1) * 10 ^ 0; omega
  | cons c l ih =>
    rw [List.all_cons, Bool.and_eq_true] at h
    have hc : c.toNat ≤ 57 := by
      have := of_decide_eq_true h.1
      exact this.2
    have h1 := ih h.2 (v * 10 + (c.toNat - 48))
    have h2 : (v * 10 + (c.toNat - 48) + 1) * 10 ^ l.length ≤ ((v + 1) * 10) * 10 ^ l.length := Nat.mul_le_mul_right _ (by omega)
    rw [List.length_cons, Nat.pow_succ', ← Nat.mul_assoc]
    exact Nat.lt_of_lt_of_le h1 h2
set_option maxRecDepth 20000 in
/-- a slice of one digit -/
theorem ten_digit (W : World) : IsD (W.alloc (.cells #[.int .u32 10] 63)) (.slice (some ⟨W.heap.size, 0, none⟩) 1 1) 10 := by
  have e : dl 10 = 1 := by decide
  unfold IsD
  rw [e]
  refine ⟨by decide, by decide, _, 1, rfl, Nat.le_refl _, by decide, fun _ => ⟨W.heap.size, rfl, by simp, fun j hj => ?_⟩⟩
  have hj0 : j = 0 := by omega
  subst hj0
  simp [go_sem, dig]
theorem dl_small {V : Nat} (h : V < 10 ^ 100) : dl V ≤ 20 := (dl_le_iff V 20).2 (Nat.lt_of_lt_of_le h (by decide +kernel))
set_option maxRecDepth 20000 in
set_option maxHeartbeats 3200000 in
theorem DDigits_walk (s : ByteArray) (n : Nat) (hn : (s.size : Int) = n) (hl : s.data.toList.length = n) (n0 : (n : Int) ≤ 100) (x : Bool) (hx : (!s.toList.isEmpty) = x) (w : World) :
    Calls Tryd.prog 43 #[.string s] w fun e w' => ∃ v, (s.data.toList.all isDg = true ∧ e = .returned (.tuple #[v, .bool x]) ∧ IsD w' v (decN 0 s.data.toList) ∨ s.data.toList.all isDg = false ∧ e = .returned (.tuple #[v, .bool false])) ∧ Below w.heap.size w w' := by
  have HL := Lib.hid hl
  clear hl
  go_enter Tryd.func43, Tryd.ntmps43
  repeat any_goals (first | go_skip | go_guarded | go_step | go_upon | (simp only []; done))
  go_loopw [4, 5] (fun d i wr => ∃ m : Nat, m ≤ n ∧ i = .int .i64 m ∧ (s.data.toList.take m).all isDg = true ∧ IsD wr d (decN 0 (s.data.toList.take m)) ∧ Below w.heap.size w wr) (fun _ i _ => n - (intOf i).toNat)
  case atStart =>
    refine ⟨0, by omega, rfl, rfl, ?_, Below.refl _ _⟩
    show DN w (.slice none 0 0) (dl 0) 0
    exact ⟨Nat.two_pow_pos _, by decide, none, 0, rfl, Nat.le_refl _, by decide, fun h => absurd h (by decide)⟩
  case round =>
    obtain ⟨m, hm, rfl, hdg, hd, hW⟩ := hrel
    obtain ⟨V, hV⟩ : ∃ V, V = decN 0 (s.data.toList.take m) := ⟨_, rfl⟩
    rw [← hV] at hd
    have DH := Lib.hid hd
    have VH := Lib.hid (And.intro hV hdg)
    clear hV hdg hd
    by_cases c0 : m < n
    · have hml : m < s.data.toList.length := by rw [HL.out]; exact c0
      have hix := idx_str hml
      obtain ⟨y, hy⟩ : ∃ y, y = s.data.toList[m].toNat := ⟨_, rfl⟩
      have hyl : y < 256 := hy ▸ UInt8.toNat_lt _
      have htk := decN_take _ m hml
      have hta := all_take _ m hml
      rw [← hy] at hix htk
      rw [← VH.out.1] at htk
      rw [VH.out.2, Bool.true_and] at hta
      have HT := Lib.hid (And.intro hy (And.intro htk hta))
      clear hy htk hta
      by_cases hd : 48 ≤ y ∧ y ≤ 57
      · have hd1 : ¬ (y : Int) < 48 := by omega
        have hd2 : ¬ 57 < (y : Int) := by omega
        obtain ⟨c, hc⟩ : ∃ c : Nat, c = y - 48 := ⟨_, rfl⟩
        have hyc : (y : Int) - 48 = (c : Int) := by omega
        have hc9 : (c : Int) ≤ 9 := by omega
        have w8c : IntKind.u8.wrap (c : Int) = (c : Int) := by rw [IntKind.wrap_u8]; omega
        have w6c : IntKind.u64.wrap (c : Int) = (c : Int) := by rw [IntKind.wrap_u64]; omega
        have hVl : V < 10 ^ 100 := by
          have h := dec_le _ VH.out.2 0
          rw [← VH.out.1, Nat.zero_add, Nat.one_mul, List.length_take] at h
          exact Nat.lt_of_lt_of_le h (Nat.pow_le_pow_right (by decide) (by omega))
        go_upto_region 7 with fail
        have MC : Hid (∀ (v1 v2 : Value) (w : World) (_ : IsD w v1 V) (_ : IsD w v2 10), Calls Tryd.prog 14 #[v1, v2] w fun e w' => ∃ v, e = .returned v ∧ IsD w' v (V * 10) ∧ Below w.heap.size w w') := Lib.hid fun v1 v2 w h1 h2 => MulI_any v1 v2 V 10 w h1 h2 (Nat.le_trans (dl_small hVl) (by decide)) (by decide)
        have SC : Hid (∀ w : World, Calls Tryd.prog 16 #[.int .u64 (c : Int)] w fun e w' => ∃ v, e = .returned v ∧ IsD w' v c ∧ Below w.heap.size w w') := Lib.hid fun w => Small_any c (by omega) w
        have AC : Hid (∀ (v1 v2 : Value) (w : World) (_ : IsD w v1 (V * 10)) (_ : IsD w v2 c), Calls Tryd.prog 13 #[v1, v2] w fun e w' => ∃ v, e = .returned v ∧ IsD w' v (V * 10 + c) ∧ Below w.heap.size w w') := Lib.hid fun v1 v2 w h1 h2 => AddI_any v1 v2 (V * 10) c w h1 h2 (Nat.le_trans ((dl_le_iff (V * 10) 21).2 (by
          have h10 : (10 : Nat) ^ 100 * 10 ≤ 2 ^ (32 * 21) := by decide +kernel
          omega)) (by decide)) (Nat.le_trans (dl2 (V := c) (by omega)) (by decide))
        have hnew : decN 0 (s.data.toList.take (m + 1)) = V * 10 + c := by rw [HT.out.2.1, hc]
        have hal : (s.data.toList.take (m + 1)).all isDg = true := by
          rw [HT.out.2.2]
          unfold isDg
          rw [← HT.out.1]
          exact decide_eq_true hd
        have GH := Lib.hid (And.intro hnew hal)
        clear hnew hal hVl hd hc
        go_region_with (first | (go_at_call 14; with_reducible refine (MC.out _ _ _ (by first | exact DH.out.alloc _ | exact (DH.out.alloc _).below (Below.refl _ _).drew | exact (DH.out.below (Below.refl _ _).drew).alloc _) (by first | exact ten_digit _ | exact (ten_digit _).below (Below.refl _ _).drew)).mono ?_; rintro e w1 ⟨v1, rfl, hv1, hb1⟩) | (go_at_call 16; with_reducible refine (SC.out _).mono ?_; rintro e w2 ⟨v2, rfl, hv2, hb2⟩) | (go_at_call 13; with_reducible refine (AC.out _ _ _ (hv1.below hb2) hv2).mono ?_; rintro e w3 ⟨v3, rfl, hv3, hb3⟩))
        all_goals (
          repeat any_goals (first | go_skip | go_guarded | go_step | go_upon | (simp only []; done))
          go_roundw
          case rel => exact ⟨m + 1, by omega, by go_num, GH.out.2, by rw [GH.out.1]; exact hv3, by (repeat first | with_reducible exact Below.refl _ _ | with_reducible assumption | with_reducible refine Below.drew ?_ | with_reducible refine below_alloc ?_ _ | ((with_reducible refine Below.setCell ?_ ?_ _); rotate_left; (focus (first | with_reducible exact Nat.le_refl _ | (simp; done) | (simp; omega) | omega))) | (with_reducible refine below_trans ?_ (by assumption)))⟩
          case measure => first | (simp [intOf]; done) | (simp [intOf]; omega))
      · have hno : s.data.toList.all isDg = false := by
          rw [← Bool.not_eq_true]
          intro h
          rw [List.all_eq_true] at h
          have h1 := h _ (List.getElem_mem hml)
          unfold isDg at h1
          rw [← HT.out.1] at h1
          exact hd (of_decide_eq_true h1)
        have hd' : (y : Int) < 48 ∨ 57 < (y : Int) := by omega
        rcases hd' with hd' | hd'
        · repeat any_goals (first | go_skip | go_guarded | go_step | go_upon | (simp only []; done))
          refine bodyPost_ret (v := .tuple #[.slice none 0 0, .bool false]) (by simp [results, Tryd.results43, go_sem]) rfl ⟨_, .inr ⟨hno, rfl⟩, hW⟩
        · repeat any_goals (first | go_skip | go_guarded | go_step | go_upon | (simp only []; done))
          refine bodyPost_ret (v := .tuple #[.slice none 0 0, .bool false]) (by simp [results, Tryd.results43, go_sem]) rfl ⟨_, .inr ⟨hno, rfl⟩, hW⟩
    · have hmn : m = n := by omega
      subst hmn
      have htk : s.data.toList.take m = s.data.toList := List.take_of_length_le (by rw [HL.out]; exact Nat.le_refl _)
      obtain ⟨h2, h3⟩ := VH.out
      rw [htk] at h2 h3
      have DF := Lib.hid (And.intro h3 (h2 ▸ DH.out))
      clear htk h2 h3 VH DH
      repeat any_goals (first | go_skip | go_guarded | go_step | go_upon | (simp only []; done))
      refine bodyPost_ret (by simp [results, Tryd.results43, go_sem]) rfl ⟨_, .inl ⟨DF.out.1, rfl, DF.out.2⟩, hW⟩
end Go.Proofs.YtbmeejfpaeggjaaDoor
