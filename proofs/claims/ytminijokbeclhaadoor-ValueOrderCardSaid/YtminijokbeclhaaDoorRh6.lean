/- The document's digits compared; its whole numbers: Exact, ToInt, ToUint, CmpInt (law 6). IBOX -/
import Derived.Test.YtminijokbeclhaaDoorWh6
import Derived.Test.YtminijokbeclhaaDoorDM6
namespace Go.Proofs.YtminijokbeclhaaDoor
open Go.RowKit
theorem top_digit (A i : Nat) : A / 2 ^ (32 * i) = A / 2 ^ (32 * (i + 1)) * 4294967296 + dig A i := by
  unfold dig
  rw [show 32 * (i + 1) = 32 * i + 32 from by omega, Nat.pow_add, ← Nat.div_div_eq_div_mul, show (2 : Nat) ^ 32 = 4294967296 from by decide]
  exact (Nat.div_add_mod' _ _).symm
theorem dcmp_lt {A B i : Nat} (h : A / 2 ^ (32 * (i + 1)) = B / 2 ^ (32 * (i + 1))) (hl : dig A i < dig B i) : cmpV A B = -1 := by
  have : A < B := lt_of_top (k := 2 ^ (32 * i)) (by rw [top_digit A, top_digit B, h]; omega)
  unfold cmpV
  rw [if_pos this]
theorem dcmp_gt {A B i : Nat} (h : A / 2 ^ (32 * (i + 1)) = B / 2 ^ (32 * (i + 1))) (hl : dig B i < dig A i) : cmpV A B = 1 := by
  have : B < A := lt_of_top (k := 2 ^ (32 * i)) (by rw [top_digit A, top_digit B, h]; omega)
  unfold cmpV
  rw [if_neg (by omega), if_pos this]
theorem dcmp_same {A B : Nat} (h : A / 2 ^ (32 * 0) = B / 2 ^ (32 * 0)) : cmpV A B = 0 := by
  rw [Nat.mul_zero, Nat.pow_zero, Nat.div_one, Nat.div_one] at h
  subst h
  unfold cmpV
  rw [if_neg (Nat.lt_irrefl _), if_neg (Nat.lt_irrefl _)]
theorem lt_of_dl {A B : Nat} (h : dl A < dl B) : A < B := by
  apply Nat.lt_of_not_le
  intro h2
  have h3 := bl_mono h2
  unfold dl at h
  omega
theorem cmp_shorter {A B : Nat} (h : dl A < dl B) : cmpV A B = -1 := by
  unfold cmpV
  rw [if_pos (lt_of_dl h)]
theorem cmp_longer {A B : Nat} (h : dl B < dl A) : cmpV A B = 1 := by
  have := lt_of_dl h
  unfold cmpV
  rw [if_neg (by omega), if_pos this]
set_option maxRecDepth 20000 in
set_option maxHeartbeats 1600000 in
/-- **Cmp.** -/
theorem DCmp_any (v1 v2 : Value) (n1 n2 A B : Nat) (w : World) (h1 : DN w v1 n1 A) (h2 : DN w v2 n2 B) :
    Calls Tryd.prog 88 #[v1, v2] w fun e w' => e = .returned (.int .i64 (cmpV A B)) ∧ Below w.heap.size w w' := by
  obtain ⟨V, hV⟩ : ∃ V, V = cmpV A B := ⟨_, rfl⟩
  rw [← hV]
  have HV := Lib.hid hV
  have H := Lib.hid (And.intro h1 h2)
  clear hV h1 h2
  go_enter Tryd.func88, Tryd.ntmps88
  go_upto_region 2 with (first | (go_at_call 108; with_reducible refine (trim_any _ _ _ _ H.out.1).mono ?_; rintro e w' ⟨⟨u1, rfl, hu1⟩, rfl⟩) | (go_at_call 108; with_reducible refine (trim_any _ _ _ _ H.out.2).mono ?_; rintro e w' ⟨⟨u2, rfl, hu2⟩, rfl⟩))
  obtain ⟨hA, hl1, o1, p1, rfl, hp1, hm1, hcell1⟩ := hu1
  obtain ⟨hB, hl2, o2, p2, rfl, hp2, hm2, hcell2⟩ := hu2
  obtain ⟨n, hn⟩ : ∃ n, n = dl A := ⟨_, rfl⟩
  obtain ⟨m, hm⟩ : ∃ n, n = dl B := ⟨_, rfl⟩
  rw [← hn] at hA hl1 hp1 hcell1 ⊢
  rw [← hm] at hB hl2 hp2 hcell2 ⊢
  have NH := Lib.hid (And.intro hn (And.intro hm (And.intro hA (And.intro hB (And.intro hcell1 hcell2)))))
  clear hn hm hA hB hcell1 hcell2
  by_cases c1 : n < m
  · have c1i : ((n : Int) != (m : Int)) = true := by simp; omega
    have c1j : (n : Int) < (m : Int) := by omega
    have e := cmp_shorter (A := A) (B := B) (by rw [← NH.out.1, ← NH.out.2.1]; exact c1)
    rw [← HV.out] at e
    subst e
    repeat any_goals (first | go_skip | go_guarded | go_step | go_upon | (simp only []; done))
    exact bodyPost_ret (v := .int .i64 (-1)) (by simp [results, Tryd.results88, go_sem]) rfl ⟨rfl, Below.refl _ _⟩
  · by_cases c2 : m < n
    · have c1i : ((n : Int) != (m : Int)) = true := by simp; omega
      have c1j : ¬ (n : Int) < (m : Int) := by omega
      have e := cmp_longer (A := A) (B := B) (by rw [← NH.out.1, ← NH.out.2.1]; exact c2)
      rw [← HV.out] at e
      subst e
      repeat any_goals (first | go_skip | go_guarded | go_step | go_upon | (simp only []; done))
      exact bodyPost_ret (v := .int .i64 1) (by simp [results, Tryd.results88, go_sem]) rfl ⟨rfl, Below.refl _ _⟩
    · have hnm : m = n := by omega
      subst hnm
      have c1i : ((m : Int) != (m : Int)) = false := by simp
      clear c1 c2
      repeat any_goals (first | go_skip | go_guarded | go_step | go_upon | (simp only []; done))
      go_loopw [5] (fun i wr => ∃ k : Nat, k ≤ m ∧ i = .int .i64 ((k : Int) - 1) ∧ A / 2 ^ (32 * k) = B / 2 ^ (32 * k) ∧ Below w.heap.size w wr) (fun i _ => (intOf i + 1).toNat)
      case atStart =>
        refine ⟨m, Nat.le_refl _, rfl, ?_, Below.refl _ _⟩
        rw [Nat.div_eq_of_lt NH.out.2.2.1, Nat.div_eq_of_lt NH.out.2.2.2.1]
      case round =>
        obtain ⟨k, hk, rfl, ht, hW⟩ := hrel
        have TH := Lib.hid ht
        clear ht
        by_cases c0 : k = 0
        · subst c0
          have e := dcmp_same TH.out
          rw [← HV.out] at e
          subst e
          repeat any_goals (first | go_skip | go_guarded | go_step | go_upon | (simp only []; done))
          exact bodyPost_ret (v := .int .i64 0) (by simp [results, Tryd.results88, go_sem]) rfl ⟨rfl, hW⟩
        · obtain ⟨i, rfl⟩ : ∃ i, k = i + 1 := ⟨k - 1, by omega⟩
          rw [show ((i + 1 : Nat) : Int) - 1 = (i : Int) from by omega]
          obtain ⟨b1, rfl, hb1, hce1⟩ := NH.out.2.2.2.2.1 (by omega)
          obtain ⟨b2, rfl, hb2, hce2⟩ := NH.out.2.2.2.2.2 (by omega)
          have ca := (hW.cell (p := ⟨b1, i, none⟩) hb1).trans (hce1 i (by omega))
          have cb := (hW.cell (p := ⟨b2, i, none⟩) hb2).trans (hce2 i (by omega))
          obtain ⟨x, hx⟩ : ∃ x, x = dig A i := ⟨_, rfl⟩
          obtain ⟨y, hy⟩ : ∃ x, x = dig B i := ⟨_, rfl⟩
          rw [← hx] at ca
          rw [← hy] at cb
          have i1 : (i : Int) < (m : Int) := by omega
          have i2 : (0 : Int) ≤ (i : Int) := by omega
          have i5 : (i : Int).toNat = i := rfl
          have G := Lib.hid (And.intro hx hy)
          have hW1 := hW.drew
          have hW2 := hW1.drew
          clear hx hy c0 hce1 hce2
          by_cases c1 : x < y
          · have c1j : (x : Int) < (y : Int) := by omega
            have e := dcmp_lt TH.out (by rw [← G.out.1, ← G.out.2]; exact c1)
            rw [← HV.out] at e
            subst e
            repeat any_goals (first | go_skip | go_guarded | go_step | go_upon | (simp only []; done))
            go_region
            repeat any_goals (first | go_skip | go_guarded | go_step | go_upon | (simp only []; done))
            exact bodyPost_ret (v := .int .i64 (-1)) (by simp [results, Tryd.results88, go_sem]) rfl ⟨rfl, hW1⟩
          · by_cases c2 : y < x
            · have c1j : ¬ (x : Int) < (y : Int) := by omega
              have c2j : (y : Int) < (x : Int) := by omega
              have e := dcmp_gt TH.out (by rw [← G.out.1, ← G.out.2]; exact c2)
              rw [← HV.out] at e
              subst e
              repeat any_goals (first | go_skip | go_guarded | go_step | go_upon | (simp only []; done))
              go_region
              repeat any_goals (first | go_skip | go_guarded | go_step | go_upon | (simp only []; done))
              go_region
              repeat any_goals (first | go_skip | go_guarded | go_step | go_upon | (simp only []; done))
              exact bodyPost_ret (v := .int .i64 1) (by simp [results, Tryd.results88, go_sem]) rfl ⟨rfl, hW2⟩
            · have c1j : ¬ (x : Int) < (y : Int) := by omega
              have c2j : ¬ (y : Int) < (x : Int) := by omega
              have e : A / 2 ^ (32 * i) = B / 2 ^ (32 * i) := by
                rw [top_digit A, top_digit B, TH.out, ← G.out.1, ← G.out.2, show x = y from by omega]
              have E := Lib.hid e
              clear e c1 c2
              repeat any_goals (first | go_skip | go_guarded | go_step | go_upon | (simp only []; done))
              go_region
              repeat any_goals (first | go_skip | go_guarded | go_step | go_upon | (simp only []; done))
              go_region
              repeat any_goals (first | go_skip | go_guarded | go_step | go_upon | (simp only []; done))
              go_roundw
              case rel => exact ⟨i, by omega, by go_num, E.out, hW2⟩
              case measure => first | (simp [intOf]; done) | (simp [intOf]; omega)
end Go.Proofs.YtminijokbeclhaaDoor
namespace Go.Proofs.YtminijokbeclhaaDoor
open Go.RowKit
theorem dl8 {V : Nat} (h : V < 2 ^ 256) : dl V ≤ 8 := (dl_le_iff V 8).2 h
theorem dl2 {V : Nat} (h : V < 18446744073709551616) : dl V ≤ 2 := (dl_le_iff V 2).2 h
theorem IsD.below {w1 w2 : World} {v : Value} {V : Nat} (h : IsD w1 v V) (hb : Below w1.heap.size w1 w2) : IsD w2 v V := DN.below h hb
theorem IsD.alloc {w1 : World} {v : Value} {V : Nat} (h : IsD w1 v V) (o : Obj) : IsD (w1.alloc o) v V := DN.alloc h o
theorem IsD.step {w1 w2 : World} {v : Value} {V : Nat} {o : Obj} (h : IsD w1 v V) (hb : Below (w1.alloc o).heap.size (w1.alloc o) w2) : IsD w2 v V := (h.alloc o).below hb
theorem MulI_any (v1 v2 : Value) (A B : Nat) (w : World) (h1 : IsD w v1 A) (h2 : IsD w v2 B) (l1 : dl A ≤ 1000) (l2 : dl B ≤ 1000) :
    Calls Tryd.prog 106 #[v1, v2] w fun e w' => ∃ v, e = .returned v ∧ IsD w' v (A * B) ∧ Below w.heap.size w w' :=
  Mul_any v1 v2 _ _ A B w h1 h2 (by omega) (by omega)
theorem CmpI_any (v1 v2 : Value) (A B : Nat) (w : World) (h1 : IsD w v1 A) (h2 : IsD w v2 B) :
    Calls Tryd.prog 88 #[v1, v2] w fun e w' => e = .returned (.int .i64 (cmpV A B)) ∧ Below w.heap.size w w' :=
  DCmp_any v1 v2 _ _ A B w h1 h2
theorem NatI_any (v : Value) (V : Nat) (w : World) (h : IsD w v V) :
    Calls Tryd.prog 105 #[v] w fun e w' => e = .returned (.tuple #[.agg #[.int .u64 (lm (if V < 2 ^ 256 then V else 0) 0 : Nat), .int .u64 (lm (if V < 2 ^ 256 then V else 0) 1 : Nat), .int .u64 (lm (if V < 2 ^ 256 then V else 0) 2 : Nat), .int .u64 (lm (if V < 2 ^ 256 then V else 0) 3 : Nat)], .bool (decide (V < 2 ^ 256))]) ∧ Below w.heap.size w w' := DNat_any v _ V w h
theorem LenI_any (v : Value) (V : Nat) (w : World) (h : IsD w v V) :
    Calls Tryd.prog 81 #[v] w fun e w' => e = .returned (.int .i64 (bl V : Nat)) ∧ w = w' := DLen_any v _ V w h
theorem TrailI_any (v : Value) (V : Nat) (w : World) (h : IsD w v V) :
    Calls Tryd.prog 98 #[v] w fun e w' => e = .returned (.int .i64 (if V = 0 then 256 else tz V : Nat)) ∧ w = w' := DTrail_any v _ V w h
end Go.Proofs.YtminijokbeclhaaDoor
namespace Go.Proofs.YtminijokbeclhaaDoor
open Go.RowKit
theorem Below.isD {w w' : World} {v : Value} {V : Nat} (hb : Below w.heap.size w w') (h : IsD w v V) : IsD w' v V := DN.below h hb
/-- what the calls of the document's Exact answer -/
structure RxC (neg : Bool) (V l t : Nat) (m : Bool) : Prop where
  c1 : ∀ w : World, Calls Tryd.prog 89 #[.agg #[.int .u64 (lm (V) 0 : Nat), .int .u64 (lm (V) 1 : Nat), .int .u64 (lm (V) 2 : Nat), .int .u64 (lm (V) 3 : Nat)]] w fun e w' => ∃ v, e = .returned v ∧ IsD w' v V ∧ Below w.heap.size w w'
  c2 : ∀ w : World, Calls Tryd.prog 97 #[.agg #[.bool (neg ), .int .u64 (lm ( V) 0 : Nat), .int .u64 (lm ( V) 1 : Nat), .int .u64 (lm ( V) 2 : Nat), .int .u64 (lm ( V) 3 : Nat)]] w fun e w' => e = .returned (.bool m) ∧ Below w.heap.size w w'
  c3 : ∀ (v : Value) (w : World), IsD w v V → Calls Tryd.prog 81 #[v] w fun e w' => e = .returned (.int .i64 (l : Nat)) ∧ w = w'
  c4 : ∀ (v : Value) (w : World), IsD w v V → Calls Tryd.prog 98 #[v] w fun e w' => e = .returned (.int .i64 (t : Nat)) ∧ w = w'
set_option maxRecDepth 20000 in
set_option maxHeartbeats 800000 in
theorem RExact_no (neg : Bool) (V l t : Nat) (w : World) (C : Hid (RxC neg V l t false)) :
    Calls Tryd.prog 67 #[.agg #[.bool (neg ), .int .u64 (lm ( V) 0 : Nat), .int .u64 (lm ( V) 1 : Nat), .int .u64 (lm ( V) 2 : Nat), .int .u64 (lm ( V) 3 : Nat)]] w fun e w' => e = .returned (.bool false) ∧ Below w.heap.size w w' := by
  go_enter Tryd.func67, Tryd.ntmps67
  repeat any_goals (first | (go_at_call 89; with_reducible refine (C.out.c1 _).mono ?_; rintro e w1 ⟨v1, rfl, hv1, hb1⟩; have hl_w1_0 : w.heap.size < w1.heap.size := (by have h_ := (hb1).size; simp at h_; omega); have c_w1_0_0 := (hb1).cell (p := ⟨w.heap.size, 0, none⟩) (by first | (simp; done) | (simp; omega)); simp [go_sem] at c_w1_0_0; have f_w1_0_0 := (hb1).frozen (p := ⟨w.heap.size, 0, none⟩) (by first | (simp; done) | (simp; omega)); simp [go_sem] at f_w1_0_0; have c_w1_0_1 := (hb1).cell (p := ⟨w.heap.size, 1, none⟩) (by first | (simp; done) | (simp; omega)); simp [go_sem] at c_w1_0_1; have f_w1_0_1 := (hb1).frozen (p := ⟨w.heap.size, 1, none⟩) (by first | (simp; done) | (simp; omega)); simp [go_sem] at f_w1_0_1; have c_w1_0_2 := (hb1).cell (p := ⟨w.heap.size, 2, none⟩) (by first | (simp; done) | (simp; omega)); simp [go_sem] at c_w1_0_2; have f_w1_0_2 := (hb1).frozen (p := ⟨w.heap.size, 2, none⟩) (by first | (simp; done) | (simp; omega)); simp [go_sem] at f_w1_0_2; have c_w1_0_3 := (hb1).cell (p := ⟨w.heap.size, 3, none⟩) (by first | (simp; done) | (simp; omega)); simp [go_sem] at c_w1_0_3; have f_w1_0_3 := (hb1).frozen (p := ⟨w.heap.size, 3, none⟩) (by first | (simp; done) | (simp; omega)); simp [go_sem] at f_w1_0_3; have c_w1_0_4 := (hb1).cell (p := ⟨w.heap.size, 4, none⟩) (by first | (simp; done) | (simp; omega)); simp [go_sem] at c_w1_0_4; have f_w1_0_4 := (hb1).frozen (p := ⟨w.heap.size, 4, none⟩) (by first | (simp; done) | (simp; omega)); simp [go_sem] at f_w1_0_4) | (go_at_call 97; with_reducible refine (C.out.c2 _).mono ?_; rintro e w2 ⟨rfl, hb2⟩) | go_skip | go_guarded | go_step | go_upon | (dsimp only []))
  go_ret
  exact ⟨by simp, by (repeat first | with_reducible exact Below.refl _ _ | with_reducible assumption | with_reducible refine Below.drew ?_ | with_reducible refine below_alloc ?_ _ | ((with_reducible refine Below.setCell ?_ ?_ _); rotate_left; (focus (first | with_reducible exact Nat.le_refl _ | (simp; done) | (simp; omega) | omega))) | (with_reducible refine below_trans ?_ (by assumption)))⟩
set_option maxRecDepth 20000 in
set_option maxHeartbeats 800000 in
theorem RExact_zero (neg : Bool) (V t : Nat) (w : World) (C : Hid (RxC neg V 0 t true)) :
    Calls Tryd.prog 67 #[.agg #[.bool (neg ), .int .u64 (lm ( V) 0 : Nat), .int .u64 (lm ( V) 1 : Nat), .int .u64 (lm ( V) 2 : Nat), .int .u64 (lm ( V) 3 : Nat)]] w fun e w' => e = .returned (.bool true) ∧ Below w.heap.size w w' := by
  go_enter Tryd.func67, Tryd.ntmps67
  repeat any_goals (first | (go_at_call 89; with_reducible refine (C.out.c1 _).mono ?_; rintro e w1 ⟨v1, rfl, hv1, hb1⟩; have hl_w1_0 : w.heap.size < w1.heap.size := (by have h_ := (hb1).size; simp at h_; omega); have c_w1_0_0 := (hb1).cell (p := ⟨w.heap.size, 0, none⟩) (by first | (simp; done) | (simp; omega)); simp [go_sem] at c_w1_0_0; have f_w1_0_0 := (hb1).frozen (p := ⟨w.heap.size, 0, none⟩) (by first | (simp; done) | (simp; omega)); simp [go_sem] at f_w1_0_0; have c_w1_0_1 := (hb1).cell (p := ⟨w.heap.size, 1, none⟩) (by first | (simp; done) | (simp; omega)); simp [go_sem] at c_w1_0_1; have f_w1_0_1 := (hb1).frozen (p := ⟨w.heap.size, 1, none⟩) (by first | (simp; done) | (simp; omega)); simp [go_sem] at f_w1_0_1; have c_w1_0_2 := (hb1).cell (p := ⟨w.heap.size, 2, none⟩) (by first | (simp; done) | (simp; omega)); simp [go_sem] at c_w1_0_2; have f_w1_0_2 := (hb1).frozen (p := ⟨w.heap.size, 2, none⟩) (by first | (simp; done) | (simp; omega)); simp [go_sem] at f_w1_0_2; have c_w1_0_3 := (hb1).cell (p := ⟨w.heap.size, 3, none⟩) (by first | (simp; done) | (simp; omega)); simp [go_sem] at c_w1_0_3; have f_w1_0_3 := (hb1).frozen (p := ⟨w.heap.size, 3, none⟩) (by first | (simp; done) | (simp; omega)); simp [go_sem] at f_w1_0_3; have c_w1_0_4 := (hb1).cell (p := ⟨w.heap.size, 4, none⟩) (by first | (simp; done) | (simp; omega)); simp [go_sem] at c_w1_0_4; have f_w1_0_4 := (hb1).frozen (p := ⟨w.heap.size, 4, none⟩) (by first | (simp; done) | (simp; omega)); simp [go_sem] at f_w1_0_4) | (go_at_call 97; with_reducible refine (C.out.c2 _).mono ?_; rintro e w2 ⟨rfl, hb2⟩) | (go_at_call 81; with_reducible refine (C.out.c3 _ _ (Below.isD hb2 hv1)).mono ?_; rintro e w' ⟨rfl, rfl⟩) | go_skip | go_guarded | go_step | go_upon | (dsimp only []))
  go_ret
  exact ⟨by simp, by (repeat first | with_reducible exact Below.refl _ _ | with_reducible assumption | with_reducible refine Below.drew ?_ | with_reducible refine below_alloc ?_ _ | ((with_reducible refine Below.setCell ?_ ?_ _); rotate_left; (focus (first | with_reducible exact Nat.le_refl _ | (simp; done) | (simp; omega) | omega))) | (with_reducible refine below_trans ?_ (by assumption)))⟩
set_option maxRecDepth 20000 in
set_option maxHeartbeats 800000 in
theorem RExact_num (neg : Bool) (V l t : Nat) (w : World) (hl0 : ((l : Int) == 0) = false) (hl : l ≤ 256) (ht : t ≤ 256) (x : Bool) (hx : decide ((l : Int) - (t : Int) ≤ 53) = x) (C : Hid (RxC neg V l t true)) :
    Calls Tryd.prog 67 #[.agg #[.bool (neg ), .int .u64 (lm ( V) 0 : Nat), .int .u64 (lm ( V) 1 : Nat), .int .u64 (lm ( V) 2 : Nat), .int .u64 (lm ( V) 3 : Nat)]] w fun e w' => e = .returned (.bool x) ∧ Below w.heap.size w w' := by
  go_enter Tryd.func67, Tryd.ntmps67
  repeat any_goals (first | (go_at_call 89; with_reducible refine (C.out.c1 _).mono ?_; rintro e w1 ⟨v1, rfl, hv1, hb1⟩; have hl_w1_0 : w.heap.size < w1.heap.size := (by have h_ := (hb1).size; simp at h_; omega); have c_w1_0_0 := (hb1).cell (p := ⟨w.heap.size, 0, none⟩) (by first | (simp; done) | (simp; omega)); simp [go_sem] at c_w1_0_0; have f_w1_0_0 := (hb1).frozen (p := ⟨w.heap.size, 0, none⟩) (by first | (simp; done) | (simp; omega)); simp [go_sem] at f_w1_0_0; have c_w1_0_1 := (hb1).cell (p := ⟨w.heap.size, 1, none⟩) (by first | (simp; done) | (simp; omega)); simp [go_sem] at c_w1_0_1; have f_w1_0_1 := (hb1).frozen (p := ⟨w.heap.size, 1, none⟩) (by first | (simp; done) | (simp; omega)); simp [go_sem] at f_w1_0_1; have c_w1_0_2 := (hb1).cell (p := ⟨w.heap.size, 2, none⟩) (by first | (simp; done) | (simp; omega)); simp [go_sem] at c_w1_0_2; have f_w1_0_2 := (hb1).frozen (p := ⟨w.heap.size, 2, none⟩) (by first | (simp; done) | (simp; omega)); simp [go_sem] at f_w1_0_2; have c_w1_0_3 := (hb1).cell (p := ⟨w.heap.size, 3, none⟩) (by first | (simp; done) | (simp; omega)); simp [go_sem] at c_w1_0_3; have f_w1_0_3 := (hb1).frozen (p := ⟨w.heap.size, 3, none⟩) (by first | (simp; done) | (simp; omega)); simp [go_sem] at f_w1_0_3; have c_w1_0_4 := (hb1).cell (p := ⟨w.heap.size, 4, none⟩) (by first | (simp; done) | (simp; omega)); simp [go_sem] at c_w1_0_4; have f_w1_0_4 := (hb1).frozen (p := ⟨w.heap.size, 4, none⟩) (by first | (simp; done) | (simp; omega)); simp [go_sem] at f_w1_0_4) | (go_at_call 97; with_reducible refine (C.out.c2 _).mono ?_; rintro e w2 ⟨rfl, hb2⟩) | (go_at_call 81; with_reducible refine (C.out.c3 _ _ (Below.isD hb2 hv1)).mono ?_; rintro e w' ⟨rfl, rfl⟩) | (go_at_call 98; with_reducible refine (C.out.c4 _ _ (Below.isD hb2 hv1)).mono ?_; rintro e w' ⟨rfl, rfl⟩) | go_skip | go_guarded | go_step | go_upon | (dsimp only []))
  all_goals (go_ret; exact ⟨by first | (simp; done) | (simp [← hx]; omega), by (repeat first | with_reducible exact Below.refl _ _ | with_reducible assumption | with_reducible refine Below.drew ?_ | with_reducible refine below_alloc ?_ _ | ((with_reducible refine Below.setCell ?_ ?_ _); rotate_left; (focus (first | with_reducible exact Nat.le_refl _ | (simp; done) | (simp; omega) | omega))) | (with_reducible refine below_trans ?_ (by assumption)))⟩)
/-- **Exact** of the document. -/
theorem RExact_any (neg : Bool) (V : Nat) (hV : V < 2 ^ 256) (w : World) :
    Calls Tryd.prog 67 #[.agg #[.bool (neg ), .int .u64 (lm ( V) 0 : Nat), .int .u64 (lm ( V) 1 : Nat), .int .u64 (lm ( V) 2 : Nat), .int .u64 (lm ( V) 3 : Nat)]] w fun e w' => e = .returned (.bool (exactI neg V)) ∧ Below w.heap.size w w' := by
  have C := RxC.mk (fun w => DOf_any V hV w) (RMayI_any neg V hV) (fun v w h => DLen_any v _ V w h) (fun v w h => DTrail_any v _ V w h)
  cases hm : mayI neg V with
  | false =>
    have e : exactI neg V = false := by unfold exactI; rw [hm]; rfl
    rw [hm] at C
    rw [e]
    exact RExact_no neg V _ _ w (Lib.hid C)
  | true =>
    rw [hm] at C
    by_cases c : V = 0
    · have e : exactI neg V = true := by unfold exactI; rw [hm, c]; rfl
      rw [e]
      rw [show bl V = 0 from by rw [c, bl_zero]] at C
      exact RExact_zero neg V _ w (Lib.hid C)
    · have hlt := tz_lt_bl (Nat.pos_of_ne_zero c)
      have hbl := (bl_le_iff V 256).2 hV
      have e : exactI neg V = decide ((bl V : Int) - (tz V : Int) ≤ 53) := by
        unfold exactI
        rw [hm, show (V == 0) = false from by simpa using c, Bool.true_and, Bool.false_or]
        rw [decide_eq_decide]
        omega
      rw [e]
      rw [if_neg c] at C
      exact RExact_num neg V (bl V) (tz V) w (by simp; omega) hbl (by omega) _ rfl (Lib.hid C)
end Go.Proofs.YtminijokbeclhaaDoor
namespace Go.Proofs.YtminijokbeclhaaDoor
open Go.RowKit
set_option maxRecDepth 20000 in
set_option maxHeartbeats 800000 in
theorem small_walk (a0 a1 a2 a3 : Int) (x : Bool) (w : World) (h : (a1 == 0) = false ∧ x = false ∨ (a1 == 0) = true ∧ (a2 == 0) = false ∧ x = false ∨ (a1 == 0) = true ∧ (a2 == 0) = true ∧ (a3 == 0) = x) :
    Calls Tryd.prog 110 #[.agg #[.int .u64 a0, .int .u64 a1, .int .u64 a2, .int .u64 a3]] w fun e w' => e = .returned (.bool x) ∧ Below w.heap.size w w' := by
  rcases h with ⟨h, rfl⟩ | ⟨h, h2, rfl⟩ | ⟨h, h2, h3⟩
  all_goals (
    go_enter Tryd.func110, Tryd.ntmps110
    (repeat any_goals (first | go_skip | go_guarded | go_step | go_upon | (simp only []; done)))
    go_ret
    exact ⟨by simp [*], by (repeat first | with_reducible exact Below.refl _ _ | with_reducible assumption | with_reducible refine Below.drew ?_ | with_reducible refine below_alloc ?_ _ | ((with_reducible refine Below.setCell ?_ ?_ _); rotate_left; (focus (first | with_reducible exact Nat.le_refl _ | (simp; done) | (simp; omega) | omega))) | (with_reducible refine below_trans ?_ (by assumption)))⟩)
structure RtC (n : Bool) (a0 a1 a2 a3 : Int) (m x : Bool) : Prop where
  c1 : ∀ w : World, Calls Tryd.prog 97 #[.agg #[.bool n, .int .u64 a0, .int .u64 a1, .int .u64 a2, .int .u64 a3]] w fun e w' => e = .returned (.bool m) ∧ Below w.heap.size w w'
  c2 : ∀ w : World, Calls Tryd.prog 110 #[.agg #[.int .u64 a0, .int .u64 a1, .int .u64 a2, .int .u64 a3]] w fun e w' => e = .returned (.bool x) ∧ Below w.heap.size w w'
/-- **small.** -/
theorem small_any (V : Nat) (hV : V < 2 ^ 256) (w : World) :
    Calls Tryd.prog 110 #[.agg #[.int .u64 (lm (V) 0 : Nat), .int .u64 (lm (V) 1 : Nat), .int .u64 (lm (V) 2 : Nat), .int .u64 (lm (V) 3 : Nat)]] w fun e w' => e = .returned (.bool (lowOk V)) ∧ Below w.heap.size w w' := by
  refine small_walk _ _ _ _ _ w ?_
  have h := oneLimb_iff hV
  unfold oneLimb at h
  generalize lowOk V = x at *
  cases c1 : (lm V 1 == 0) with
  | false =>
    rw [c1] at h
    exact .inl ⟨by simpa using c1, h.symm⟩
  | true =>
    rw [c1] at h
    cases c2 : (lm V 2 == 0) with
    | false =>
      rw [c2] at h
      exact .inr (.inl ⟨by simpa using c1, by simpa using c2, h.symm⟩)
    | true =>
      rw [c2] at h
      refine .inr (.inr ⟨by simpa using c1, by simpa using c2, ?_⟩)
      rw [← h]
      cases c3 : (lm V 3 == 0) with
      | true => simpa using c3
      | false => simpa using c3
set_option maxRecDepth 20000 in
set_option maxHeartbeats 1600000 in
theorem RToInt_no (n : Bool) (a0 a1 a2 a3 : Int) (m x : Bool) (w : World) (C : Hid (RtC n a0 a1 a2 a3 m x)) (h : m = false ∨ m = true ∧ x = false) :
    Calls Tryd.prog 96 #[.agg #[.bool n, .int .u64 a0, .int .u64 a1, .int .u64 a2, .int .u64 a3]] w fun e w' => e = .returned (.tuple #[.int .i64 0, .bool false]) ∧ Below w.heap.size w w' := by
  rcases h with rfl | ⟨rfl, rfl⟩
  all_goals (
    go_enter Tryd.func96, Tryd.ntmps96
    (repeat any_goals (first | (go_at_call 97; refine (C.out.c1 _).mono ?_; rintro e w1 ⟨rfl, hb1⟩; have hl_w1_0 : w.heap.size < w1.heap.size := (by have h_ := (hb1).size; simp at h_; omega); have c_w1_0_0 := (hb1).cell (p := ⟨w.heap.size, 0, none⟩) (by first | (simp; done) | (simp; omega)); simp [go_sem] at c_w1_0_0; have f_w1_0_0 := (hb1).frozen (p := ⟨w.heap.size, 0, none⟩) (by first | (simp; done) | (simp; omega)); simp [go_sem] at f_w1_0_0; have c_w1_0_1 := (hb1).cell (p := ⟨w.heap.size, 1, none⟩) (by first | (simp; done) | (simp; omega)); simp [go_sem] at c_w1_0_1; have f_w1_0_1 := (hb1).frozen (p := ⟨w.heap.size, 1, none⟩) (by first | (simp; done) | (simp; omega)); simp [go_sem] at f_w1_0_1; have c_w1_0_2 := (hb1).cell (p := ⟨w.heap.size, 2, none⟩) (by first | (simp; done) | (simp; omega)); simp [go_sem] at c_w1_0_2; have f_w1_0_2 := (hb1).frozen (p := ⟨w.heap.size, 2, none⟩) (by first | (simp; done) | (simp; omega)); simp [go_sem] at f_w1_0_2; have c_w1_0_3 := (hb1).cell (p := ⟨w.heap.size, 3, none⟩) (by first | (simp; done) | (simp; omega)); simp [go_sem] at c_w1_0_3; have f_w1_0_3 := (hb1).frozen (p := ⟨w.heap.size, 3, none⟩) (by first | (simp; done) | (simp; omega)); simp [go_sem] at f_w1_0_3; have c_w1_0_4 := (hb1).cell (p := ⟨w.heap.size, 4, none⟩) (by first | (simp; done) | (simp; omega)); simp [go_sem] at c_w1_0_4; have f_w1_0_4 := (hb1).frozen (p := ⟨w.heap.size, 4, none⟩) (by first | (simp; done) | (simp; omega)); simp [go_sem] at f_w1_0_4) | (go_at_call 110; refine (C.out.c2 _).mono ?_; rintro e w2 ⟨rfl, hb2⟩; have hl_w2_0 : w.heap.size < w2.heap.size := (by have h_ := (hb2).size; (try simp at h_); omega); have c_w2_0_0 := (hb2).cell (p := ⟨w.heap.size, 0, none⟩) (by first | (simp; done) | (simp; omega)); simp [go_sem, c_w1_0_0] at c_w2_0_0; have f_w2_0_0 := (hb2).frozen (p := ⟨w.heap.size, 0, none⟩) (by first | (simp; done) | (simp; omega)); simp [go_sem, f_w1_0_0] at f_w2_0_0; have c_w2_0_1 := (hb2).cell (p := ⟨w.heap.size, 1, none⟩) (by first | (simp; done) | (simp; omega)); simp [go_sem, c_w1_0_1] at c_w2_0_1; have f_w2_0_1 := (hb2).frozen (p := ⟨w.heap.size, 1, none⟩) (by first | (simp; done) | (simp; omega)); simp [go_sem, f_w1_0_1] at f_w2_0_1; have c_w2_0_2 := (hb2).cell (p := ⟨w.heap.size, 2, none⟩) (by first | (simp; done) | (simp; omega)); simp [go_sem, c_w1_0_2] at c_w2_0_2; have f_w2_0_2 := (hb2).frozen (p := ⟨w.heap.size, 2, none⟩) (by first | (simp; done) | (simp; omega)); simp [go_sem, f_w1_0_2] at f_w2_0_2; have c_w2_0_3 := (hb2).cell (p := ⟨w.heap.size, 3, none⟩) (by first | (simp; done) | (simp; omega)); simp [go_sem, c_w1_0_3] at c_w2_0_3; have f_w2_0_3 := (hb2).frozen (p := ⟨w.heap.size, 3, none⟩) (by first | (simp; done) | (simp; omega)); simp [go_sem, f_w1_0_3] at f_w2_0_3; have c_w2_0_4 := (hb2).cell (p := ⟨w.heap.size, 4, none⟩) (by first | (simp; done) | (simp; omega)); simp [go_sem, c_w1_0_4] at c_w2_0_4; have f_w2_0_4 := (hb2).frozen (p := ⟨w.heap.size, 4, none⟩) (by first | (simp; done) | (simp; omega)); simp [go_sem, f_w1_0_4] at f_w2_0_4) | go_skip | go_guarded | go_step | go_upon | (dsimp only [])))
    go_ret2
    exact ⟨by simp, by (repeat first | with_reducible exact Below.refl _ _ | with_reducible assumption | with_reducible refine Below.drew ?_ | with_reducible refine below_alloc ?_ _ | ((with_reducible refine Below.setCell ?_ ?_ _); rotate_left; (focus (first | with_reducible exact Nat.le_refl _ | (simp; done) | (simp; omega) | omega))) | (with_reducible refine below_trans ?_ (by assumption)))⟩)
set_option maxRecDepth 20000 in
set_option maxHeartbeats 1600000 in
theorem RToInt_yes (n : Bool) (a0 a1 a2 a3 z : Int) (r : Bool) (w : World) (C : Hid (RtC n a0 a1 a2 a3 true true)) (h : n = true ∧ 9223372036854775808 < a0 ∧ z = 0 ∧ r = false ∨ n = true ∧ a0 ≤ 9223372036854775808 ∧ wrap64 (wrap64 (-wrap64 (IntKind.u64.wrap (a0 - 1))) - 1) = z ∧ r = true ∨ n = false ∧ 9223372036854775807 < a0 ∧ z = 0 ∧ r = false ∨ n = false ∧ a0 ≤ 9223372036854775807 ∧ wrap64 a0 = z ∧ r = true) :
    Calls Tryd.prog 96 #[.agg #[.bool n, .int .u64 a0, .int .u64 a1, .int .u64 a2, .int .u64 a3]] w fun e w' => e = .returned (.tuple #[.int .i64 z, .bool r]) ∧ Below w.heap.size w w' := by
  rcases h with ⟨rfl, h, rfl, rfl⟩ | ⟨rfl, h, h2, rfl⟩ | ⟨rfl, h, rfl, rfl⟩ | ⟨rfl, h, h2, rfl⟩
  all_goals (
    go_enter Tryd.func96, Tryd.ntmps96
    (repeat any_goals (first | (go_at_call 97; refine (C.out.c1 _).mono ?_; rintro e w1 ⟨rfl, hb1⟩; have hl_w1_0 : w.heap.size < w1.heap.size := (by have h_ := (hb1).size; simp at h_; omega); have c_w1_0_0 := (hb1).cell (p := ⟨w.heap.size, 0, none⟩) (by first | (simp; done) | (simp; omega)); simp [go_sem] at c_w1_0_0; have f_w1_0_0 := (hb1).frozen (p := ⟨w.heap.size, 0, none⟩) (by first | (simp; done) | (simp; omega)); simp [go_sem] at f_w1_0_0; have c_w1_0_1 := (hb1).cell (p := ⟨w.heap.size, 1, none⟩) (by first | (simp; done) | (simp; omega)); simp [go_sem] at c_w1_0_1; have f_w1_0_1 := (hb1).frozen (p := ⟨w.heap.size, 1, none⟩) (by first | (simp; done) | (simp; omega)); simp [go_sem] at f_w1_0_1; have c_w1_0_2 := (hb1).cell (p := ⟨w.heap.size, 2, none⟩) (by first | (simp; done) | (simp; omega)); simp [go_sem] at c_w1_0_2; have f_w1_0_2 := (hb1).frozen (p := ⟨w.heap.size, 2, none⟩) (by first | (simp; done) | (simp; omega)); simp [go_sem] at f_w1_0_2; have c_w1_0_3 := (hb1).cell (p := ⟨w.heap.size, 3, none⟩) (by first | (simp; done) | (simp; omega)); simp [go_sem] at c_w1_0_3; have f_w1_0_3 := (hb1).frozen (p := ⟨w.heap.size, 3, none⟩) (by first | (simp; done) | (simp; omega)); simp [go_sem] at f_w1_0_3; have c_w1_0_4 := (hb1).cell (p := ⟨w.heap.size, 4, none⟩) (by first | (simp; done) | (simp; omega)); simp [go_sem] at c_w1_0_4; have f_w1_0_4 := (hb1).frozen (p := ⟨w.heap.size, 4, none⟩) (by first | (simp; done) | (simp; omega)); simp [go_sem] at f_w1_0_4) | (go_at_call 110; refine (C.out.c2 _).mono ?_; rintro e w2 ⟨rfl, hb2⟩; have hl_w2_0 : w.heap.size < w2.heap.size := (by have h_ := (hb2).size; (try simp at h_); omega); have c_w2_0_0 := (hb2).cell (p := ⟨w.heap.size, 0, none⟩) (by first | (simp; done) | (simp; omega)); simp [go_sem, c_w1_0_0] at c_w2_0_0; have f_w2_0_0 := (hb2).frozen (p := ⟨w.heap.size, 0, none⟩) (by first | (simp; done) | (simp; omega)); simp [go_sem, f_w1_0_0] at f_w2_0_0; have c_w2_0_1 := (hb2).cell (p := ⟨w.heap.size, 1, none⟩) (by first | (simp; done) | (simp; omega)); simp [go_sem, c_w1_0_1] at c_w2_0_1; have f_w2_0_1 := (hb2).frozen (p := ⟨w.heap.size, 1, none⟩) (by first | (simp; done) | (simp; omega)); simp [go_sem, f_w1_0_1] at f_w2_0_1; have c_w2_0_2 := (hb2).cell (p := ⟨w.heap.size, 2, none⟩) (by first | (simp; done) | (simp; omega)); simp [go_sem, c_w1_0_2] at c_w2_0_2; have f_w2_0_2 := (hb2).frozen (p := ⟨w.heap.size, 2, none⟩) (by first | (simp; done) | (simp; omega)); simp [go_sem, f_w1_0_2] at f_w2_0_2; have c_w2_0_3 := (hb2).cell (p := ⟨w.heap.size, 3, none⟩) (by first | (simp; done) | (simp; omega)); simp [go_sem, c_w1_0_3] at c_w2_0_3; have f_w2_0_3 := (hb2).frozen (p := ⟨w.heap.size, 3, none⟩) (by first | (simp; done) | (simp; omega)); simp [go_sem, f_w1_0_3] at f_w2_0_3; have c_w2_0_4 := (hb2).cell (p := ⟨w.heap.size, 4, none⟩) (by first | (simp; done) | (simp; omega)); simp [go_sem, c_w1_0_4] at c_w2_0_4; have f_w2_0_4 := (hb2).frozen (p := ⟨w.heap.size, 4, none⟩) (by first | (simp; done) | (simp; omega)); simp [go_sem, f_w1_0_4] at f_w2_0_4) | go_skip | go_guarded | go_step | go_upon | (dsimp only [])))
    go_ret2
    exact ⟨by first | (simp; done) | (simp [*]; done), by (repeat first | with_reducible exact Below.refl _ _ | with_reducible assumption | with_reducible refine Below.drew ?_ | with_reducible refine below_alloc ?_ _ | ((with_reducible refine Below.setCell ?_ ?_ _); rotate_left; (focus (first | with_reducible exact Nat.le_refl _ | (simp; done) | (simp; omega) | omega))) | (with_reducible refine below_trans ?_ (by assumption)))⟩)
set_option maxRecDepth 20000 in
set_option maxHeartbeats 1600000 in
theorem RToUint_walk (n : Bool) (a0 a1 a2 a3 z : Int) (m x r : Bool) (w : World) (C : Hid (RtC n a0 a1 a2 a3 m x)) (h : m = false ∧ z = 0 ∧ r = false ∨ m = true ∧ n = true ∧ z = 0 ∧ r = false ∨ m = true ∧ n = false ∧ x = false ∧ z = 0 ∧ r = false ∨ m = true ∧ n = false ∧ x = true ∧ z = a0 ∧ r = true) :
    Calls Tryd.prog 95 #[.agg #[.bool n, .int .u64 a0, .int .u64 a1, .int .u64 a2, .int .u64 a3]] w fun e w' => e = .returned (.tuple #[.int .u64 z, .bool r]) ∧ Below w.heap.size w w' := by
  rcases h with ⟨rfl, rfl, rfl⟩ | ⟨rfl, rfl, rfl, rfl⟩ | ⟨rfl, rfl, rfl, rfl, rfl⟩ | ⟨rfl, rfl, rfl, rfl, rfl⟩
  all_goals (
    go_enter Tryd.func95, Tryd.ntmps95
    (repeat any_goals (first | (go_at_call 97; refine (C.out.c1 _).mono ?_; rintro e w1 ⟨rfl, hb1⟩; have hl_w1_0 : w.heap.size < w1.heap.size := (by have h_ := (hb1).size; simp at h_; omega); have c_w1_0_0 := (hb1).cell (p := ⟨w.heap.size, 0, none⟩) (by first | (simp; done) | (simp; omega)); simp [go_sem] at c_w1_0_0; have f_w1_0_0 := (hb1).frozen (p := ⟨w.heap.size, 0, none⟩) (by first | (simp; done) | (simp; omega)); simp [go_sem] at f_w1_0_0; have c_w1_0_1 := (hb1).cell (p := ⟨w.heap.size, 1, none⟩) (by first | (simp; done) | (simp; omega)); simp [go_sem] at c_w1_0_1; have f_w1_0_1 := (hb1).frozen (p := ⟨w.heap.size, 1, none⟩) (by first | (simp; done) | (simp; omega)); simp [go_sem] at f_w1_0_1; have c_w1_0_2 := (hb1).cell (p := ⟨w.heap.size, 2, none⟩) (by first | (simp; done) | (simp; omega)); simp [go_sem] at c_w1_0_2; have f_w1_0_2 := (hb1).frozen (p := ⟨w.heap.size, 2, none⟩) (by first | (simp; done) | (simp; omega)); simp [go_sem] at f_w1_0_2; have c_w1_0_3 := (hb1).cell (p := ⟨w.heap.size, 3, none⟩) (by first | (simp; done) | (simp; omega)); simp [go_sem] at c_w1_0_3; have f_w1_0_3 := (hb1).frozen (p := ⟨w.heap.size, 3, none⟩) (by first | (simp; done) | (simp; omega)); simp [go_sem] at f_w1_0_3; have c_w1_0_4 := (hb1).cell (p := ⟨w.heap.size, 4, none⟩) (by first | (simp; done) | (simp; omega)); simp [go_sem] at c_w1_0_4; have f_w1_0_4 := (hb1).frozen (p := ⟨w.heap.size, 4, none⟩) (by first | (simp; done) | (simp; omega)); simp [go_sem] at f_w1_0_4) | (go_at_call 110; refine (C.out.c2 _).mono ?_; rintro e w2 ⟨rfl, hb2⟩; have hl_w2_0 : w.heap.size < w2.heap.size := (by have h_ := (hb2).size; (try simp at h_); omega); have c_w2_0_0 := (hb2).cell (p := ⟨w.heap.size, 0, none⟩) (by first | (simp; done) | (simp; omega)); simp [go_sem, c_w1_0_0] at c_w2_0_0; have f_w2_0_0 := (hb2).frozen (p := ⟨w.heap.size, 0, none⟩) (by first | (simp; done) | (simp; omega)); simp [go_sem, f_w1_0_0] at f_w2_0_0; have c_w2_0_1 := (hb2).cell (p := ⟨w.heap.size, 1, none⟩) (by first | (simp; done) | (simp; omega)); simp [go_sem, c_w1_0_1] at c_w2_0_1; have f_w2_0_1 := (hb2).frozen (p := ⟨w.heap.size, 1, none⟩) (by first | (simp; done) | (simp; omega)); simp [go_sem, f_w1_0_1] at f_w2_0_1; have c_w2_0_2 := (hb2).cell (p := ⟨w.heap.size, 2, none⟩) (by first | (simp; done) | (simp; omega)); simp [go_sem, c_w1_0_2] at c_w2_0_2; have f_w2_0_2 := (hb2).frozen (p := ⟨w.heap.size, 2, none⟩) (by first | (simp; done) | (simp; omega)); simp [go_sem, f_w1_0_2] at f_w2_0_2; have c_w2_0_3 := (hb2).cell (p := ⟨w.heap.size, 3, none⟩) (by first | (simp; done) | (simp; omega)); simp [go_sem, c_w1_0_3] at c_w2_0_3; have f_w2_0_3 := (hb2).frozen (p := ⟨w.heap.size, 3, none⟩) (by first | (simp; done) | (simp; omega)); simp [go_sem, f_w1_0_3] at f_w2_0_3; have c_w2_0_4 := (hb2).cell (p := ⟨w.heap.size, 4, none⟩) (by first | (simp; done) | (simp; omega)); simp [go_sem, c_w1_0_4] at c_w2_0_4; have f_w2_0_4 := (hb2).frozen (p := ⟨w.heap.size, 4, none⟩) (by first | (simp; done) | (simp; omega)); simp [go_sem, f_w1_0_4] at f_w2_0_4) | go_skip | go_guarded | go_step | go_upon | (dsimp only [])))
    go_ret2
    exact ⟨by first | (simp; done) | (simp [*]; done), by (repeat first | with_reducible exact Below.refl _ _ | with_reducible assumption | with_reducible refine Below.drew ?_ | with_reducible refine below_alloc ?_ _ | ((with_reducible refine Below.setCell ?_ ?_ _); rotate_left; (focus (first | with_reducible exact Nat.le_refl _ | (simp; done) | (simp; omega) | omega))) | (with_reducible refine below_trans ?_ (by assumption)))⟩)
structure RcC (n : Bool) (V : Nat) (m : Bool) (U : Nat) (x : Int) : Prop where
  c1 : ∀ w : World, Calls Tryd.prog 89 #[.agg #[.int .u64 (lm (V) 0 : Nat), .int .u64 (lm (V) 1 : Nat), .int .u64 (lm (V) 2 : Nat), .int .u64 (lm (V) 3 : Nat)]] w fun e w' => ∃ v, e = .returned v ∧ IsD w' v V ∧ Below w.heap.size w w'
  c2 : ∀ w : World, Calls Tryd.prog 89 #[.agg #[.int .u64 (lm (U) 0 : Nat), .int .u64 (lm (U) 1 : Nat), .int .u64 (lm (U) 2 : Nat), .int .u64 (lm (U) 3 : Nat)]] w fun e w' => ∃ v, e = .returned v ∧ IsD w' v U ∧ Below w.heap.size w w'
  c3 : ∀ (v1 v2 : Value) (w : World), IsD w v1 V → IsD w v2 U → Calls Tryd.prog 88 #[v1, v2] w fun e w' => e = .returned (.int .i64 x) ∧ Below w.heap.size w w'
theorem ibox_new1 {w : World} {n : Bool} {V : Nat} {t : TypeId} {o : Obj} : IBox ((w.alloc o).alloc (.cells #[.bool n, .int .u64 (lm V 0 : Nat), .int .u64 (lm V 1 : Nat), .int .u64 (lm V 2 : Nat), .int .u64 (lm V 3 : Nat)] t)) (w.heap.size + 1) n V := by
  have h := @ibox_new (w.alloc o) n V t
  simpa using h
set_option maxRecDepth 20000 in
set_option maxHeartbeats 1600000 in
theorem RCmp_walk (n : Bool) (V : Nat) (m : Bool) (U : Nat) (x z : Int) (w : World) (C : Hid (RcC n V m U x)) (h : n = true ∧ m = false ∧ z = -1 ∨ n = false ∧ m = true ∧ z = 1) :
    Calls Tryd.prog 55 #[.agg #[.bool (n ), .int .u64 (lm ( V) 0 : Nat), .int .u64 (lm ( V) 1 : Nat), .int .u64 (lm ( V) 2 : Nat), .int .u64 (lm ( V) 3 : Nat)], .agg #[.bool (m ), .int .u64 (lm ( U) 0 : Nat), .int .u64 (lm ( U) 1 : Nat), .int .u64 (lm ( U) 2 : Nat), .int .u64 (lm ( U) 3 : Nat)]] w fun e w' => e = .returned (.int .i64 z) ∧ Below w.heap.size w w' := by
  rcases h with ⟨rfl, rfl, rfl⟩ | ⟨rfl, rfl, rfl⟩
  all_goals (
    go_enter Tryd.func55, Tryd.ntmps55
    (repeat any_goals (first | go_skip | go_guarded | go_step | go_upon | (simp only []; done)))
    go_ret
    exact ⟨by simp, by (repeat first | with_reducible exact Below.refl _ _ | with_reducible assumption | with_reducible refine Below.drew ?_ | with_reducible refine below_alloc ?_ _ | ((with_reducible refine Below.setCell ?_ ?_ _); rotate_left; (focus (first | with_reducible exact Nat.le_refl _ | (simp; done) | (simp; omega) | omega))) | (with_reducible refine below_trans ?_ (by assumption)))⟩)
set_option maxRecDepth 20000 in
set_option maxHeartbeats 1600000 in
theorem RCmp_same (n : Bool) (V U : Nat) (x z : Int) (w : World) (C : Hid (RcC n V n U x)) (h : n = true ∧ wrap64 (-x) = z ∨ n = false ∧ x = z) :
    Calls Tryd.prog 55 #[.agg #[.bool (n ), .int .u64 (lm ( V) 0 : Nat), .int .u64 (lm ( V) 1 : Nat), .int .u64 (lm ( V) 2 : Nat), .int .u64 (lm ( V) 3 : Nat)], .agg #[.bool (n ), .int .u64 (lm ( U) 0 : Nat), .int .u64 (lm ( U) 1 : Nat), .int .u64 (lm ( U) 2 : Nat), .int .u64 (lm ( U) 3 : Nat)]] w fun e w' => e = .returned (.int .i64 z) ∧ Below w.heap.size w w' := by
  go_enter Tryd.func55, Tryd.ntmps55
  go_upto_region 5 with fail
  have X0 := Lib.hid ((@ibox_new w n V 26).alloc (.cells #[.bool n, .int .u64 (lm U 0 : Nat), .int .u64 (lm U 1 : Nat), .int .u64 (lm U 2 : Nat), .int .u64 (lm U 3 : Nat)] 26))
  have Y0 := Lib.hid (@ibox_new1 w n U 26 (.cells #[.bool n, .int .u64 (lm V 0 : Nat), .int .u64 (lm V 1 : Nat), .int .u64 (lm V 2 : Nat), .int .u64 (lm V 3 : Nat)] 26))
  have hW : Below w.heap.size w ((w.alloc (.cells #[.bool n, .int .u64 (lm V 0 : Nat), .int .u64 (lm V 1 : Nat), .int .u64 (lm V 2 : Nat), .int .u64 (lm V 3 : Nat)] 26)).alloc (.cells #[.bool n, .int .u64 (lm U 0 : Nat), .int .u64 (lm U 1 : Nat), .int .u64 (lm U 2 : Nat), .int .u64 (lm U 3 : Nat)] 26)) := by (repeat first | with_reducible exact Below.refl _ _ | with_reducible assumption | with_reducible refine Below.drew ?_ | with_reducible refine below_alloc ?_ _ | ((with_reducible refine Below.setCell ?_ ?_ _); rotate_left; (focus (first | with_reducible exact Nat.le_refl _ | (simp; done) | (simp; omega) | omega))) | (with_reducible refine below_trans ?_ (by assumption)))
  generalize (w.alloc (.cells #[.bool n, .int .u64 (lm V 0 : Nat), .int .u64 (lm V 1 : Nat), .int .u64 (lm V 2 : Nat), .int .u64 (lm V 3 : Nat)] 26)).alloc (.cells #[.bool n, .int .u64 (lm U 0 : Nat), .int .u64 (lm U 1 : Nat), .int .u64 (lm U 2 : Nat), .int .u64 (lm U 3 : Nat)] 26) = w0 at *
  have hq : Below w0.heap.size w0 w0.drew := (Below.refl _ _).drew
  go_region_held3 (fun w' => w'.cell? ⟨w.heap.size, 0, none⟩ = some (.bool n) ∧ w'.cell? ⟨w.heap.size, 1, none⟩ = some (.int .u64 (lm V 0 : Nat)) ∧ w'.cell? ⟨w.heap.size, 2, none⟩ = some (.int .u64 (lm V 1 : Nat)) ∧ w'.cell? ⟨w.heap.size, 3, none⟩ = some (.int .u64 (lm V 2 : Nat)) ∧ w'.cell? ⟨w.heap.size, 4, none⟩ = some (.int .u64 (lm V 3 : Nat)) ∧ w'.cell? ⟨(w.heap.size + 1), 0, none⟩ = some (.bool n) ∧ w'.cell? ⟨(w.heap.size + 1), 1, none⟩ = some (.int .u64 (lm U 0 : Nat)) ∧ w'.cell? ⟨(w.heap.size + 1), 2, none⟩ = some (.int .u64 (lm U 1 : Nat)) ∧ w'.cell? ⟨(w.heap.size + 1), 3, none⟩ = some (.int .u64 (lm U 2 : Nat)) ∧ w'.cell? ⟨(w.heap.size + 1), 4, none⟩ = some (.int .u64 (lm U 3 : Nat))) (first | with_reducible assumption | (have hk_ := hq; with_reducible exact ⟨(X0.out.below hk_).c0, (X0.out.below hk_).c1, (X0.out.below hk_).c2, (X0.out.below hk_).c3, (X0.out.below hk_).c4, (Y0.out.below hk_).c0, (Y0.out.below hk_).c1, (Y0.out.below hk_).c2, (Y0.out.below hk_).c3, (Y0.out.below hk_).c4⟩) | (have hk_ := Below.refl (w0).heap.size (w0); with_reducible exact ⟨(X0.out.below hk_).c0, (X0.out.below hk_).c1, (X0.out.below hk_).c2, (X0.out.below hk_).c3, (X0.out.below hk_).c4, (Y0.out.below hk_).c0, (Y0.out.below hk_).c1, (Y0.out.below hk_).c2, (Y0.out.below hk_).c3, (Y0.out.below hk_).c4⟩) | (have hk_ := (Below.refl (w0).heap.size (w0)).drew; with_reducible exact ⟨(X0.out.below hk_).c0, (X0.out.below hk_).c1, (X0.out.below hk_).c2, (X0.out.below hk_).c3, (X0.out.below hk_).c4, (Y0.out.below hk_).c0, (Y0.out.below hk_).c1, (Y0.out.below hk_).c2, (Y0.out.below hk_).c3, (Y0.out.below hk_).c4⟩)) (first | (go_at_call 89; with_reducible refine (C.out.c1 _).mono ?_; rintro e w1 ⟨u1, rfl, hu1, hb1⟩; (first | have hq := below_trans hq hb1 | have hq := below_trans (Below.refl _ _).drew hb1 | have hq := hb1)) | (go_at_call 89; with_reducible refine (C.out.c2 _).mono ?_; rintro e w2 ⟨u2, rfl, hu2, hb2⟩; (first | have hq := below_trans hq hb2 | have hq := below_trans (Below.refl _ _).drew hb2 | have hq := hb2)) | (go_at_call 88; with_reducible refine (C.out.c3 _ _ _ (hu1.below hb2) hu2).mono ?_; rintro e w3 ⟨rfl, hb3⟩; (first | have hq := below_trans hq hb3 | have hq := below_trans (Below.refl _ _).drew hb3 | have hq := hb3)))
  obtain ⟨_, _, _, _, _⟩ := (X0.out.below hq).all
  rcases h with ⟨rfl, h⟩ | ⟨rfl, h⟩
  all_goals (
    (repeat any_goals (first | go_skip | go_guarded | go_step | go_upon | (simp only []; done)))
    go_ret
    exact ⟨by simp [← h], by (repeat first | with_reducible exact Below.refl _ _ | with_reducible assumption | with_reducible refine Below.drew ?_ | with_reducible refine below_alloc ?_ _ | ((with_reducible refine Below.setCell ?_ ?_ _); rotate_left; (focus (first | with_reducible exact Nat.le_refl _ | (simp; done) | (simp; omega) | omega))) | (with_reducible refine below_trans ?_ (by assumption)))⟩)
/-- **CmpInt**, of those that may be. -/
theorem RCmp_any (n : Bool) (V : Nat) (hV : V < 2 ^ 256) (m : Bool) (U : Nat) (hU : U < 2 ^ 256) (h1 : mayI n V = true) (h2 : mayI m U = true) (w : World) :
    Calls Tryd.prog 55 #[.agg #[.bool (n ), .int .u64 (lm ( V) 0 : Nat), .int .u64 (lm ( V) 1 : Nat), .int .u64 (lm ( V) 2 : Nat), .int .u64 (lm ( V) 3 : Nat)], .agg #[.bool (m ), .int .u64 (lm ( U) 0 : Nat), .int .u64 (lm ( U) 1 : Nat), .int .u64 (lm ( U) 2 : Nat), .int .u64 (lm ( U) 3 : Nat)]] w fun e w' => e = .returned (.int .i64 (cmpI n V m U)) ∧ Below w.heap.size w w' := by
  have C := RcC.mk (n := n) (m := m) (fun w => DOf_any V hV w) (fun w => DOf_any U hU w) (fun v1 v2 w a b => CmpI_any v1 v2 V U w a b)
  have e : cmpI n V m U = cmpZ (zI n V) (zI m U) := by unfold cmpI; rw [h1, h2]; rfl
  rw [e]
  cases n with
  | true =>
    have p1 := may_true.1 h1
    cases m with
    | true =>
      refine RCmp_same true V U _ _ w (Lib.hid C) (.inl ⟨rfl, ?_⟩)
      rw [zI_true, zI_true, cmpZ_neg, cmpV_neg]
      unfold cmpV
      split
      · simp [wrap64]
      · split <;> simp [wrap64]
    | false =>
      refine RCmp_walk true V false U _ _ w (Lib.hid C) (.inl ⟨rfl, rfl, ?_⟩)
      unfold cmpZ
      rw [if_pos (by rw [zI_true, zI_false]; omega)]
  | false =>
    cases m with
    | true =>
      have p2 := may_true.1 h2
      refine RCmp_walk false V true U _ _ w (Lib.hid C) (.inr ⟨rfl, rfl, ?_⟩)
      unfold cmpZ
      rw [if_neg (by rw [zI_true, zI_false]; omega), if_neg (by rw [zI_true, zI_false]; omega)]
    | false => exact RCmp_same false V U _ _ w (Lib.hid C) (.inr ⟨rfl, by rw [zI_false, zI_false, cmpZ_nn]⟩)
/-- **ToInt.** -/
theorem RToInt_any (n : Bool) (V : Nat) (hV : V < 2 ^ 256) (w : World) :
    Calls Tryd.prog 96 #[.agg #[.bool (n ), .int .u64 (lm ( V) 0 : Nat), .int .u64 (lm ( V) 1 : Nat), .int .u64 (lm ( V) 2 : Nat), .int .u64 (lm ( V) 3 : Nat)]] w fun e w' => e = .returned (.tuple #[.int .i64 (toI n V), .bool (toIOk n V)]) ∧ Below w.heap.size w w' := by
  have C := RtC.mk (RMayI_any n V hV) (small_any V hV)
  unfold toI
  cases hm : mayI n V with
  | false =>
    rw [hm] at C
    have e : toIOk n V = false := by unfold toIOk; rw [hm]; rfl
    rw [e, if_neg Bool.false_ne_true]
    exact RToInt_no n _ _ _ _ false _ w (Lib.hid C) (.inl rfl)
  | true =>
    rw [hm] at C
    cases hs : lowOk V with
    | true =>
      rw [hs] at C
      have hlt : V < 18446744073709551616 := of_decide_eq_true hs
      have h0 : (lm V 0 : Nat) = V := lm0_small hs
      cases n with
      | true =>
        have hp := may_true.1 hm
        have e : toIOk true V = decide (V ≤ 9223372036854775808) := by
          unfold toIOk
          rw [hm, Bool.true_and, zI_true, decide_eq_decide]
          omega
        rw [e, zI_true]
        refine RToInt_yes true _ _ _ _ _ _ w (Lib.hid C) ?_
        rw [h0]
        by_cases d : V ≤ 9223372036854775808
        · refine .inr (.inl ⟨rfl, by omega, ?_, decide_eq_true d⟩)
          rw [if_pos (decide_eq_true d), IntKind.wrap_u64]
          simp only [wrap64]
          omega
        · exact .inl ⟨rfl, by omega, if_neg (by rw [decide_eq_true_eq]; exact d), decide_eq_false d⟩
      | false =>
        have e : toIOk false V = decide (V < 9223372036854775808) := by
          unfold toIOk
          rw [hm, Bool.true_and, zI_false, decide_eq_decide]
          omega
        rw [e, zI_false]
        refine RToInt_yes false _ _ _ _ _ _ w (Lib.hid C) ?_
        rw [h0]
        by_cases d : V < 9223372036854775808
        · refine .inr (.inr (.inr ⟨rfl, by omega, ?_, decide_eq_true d⟩))
          rw [if_pos (decide_eq_true d)]
          simp only [wrap64]
          omega
        · exact .inr (.inr (.inl ⟨rfl, by omega, if_neg (by rw [decide_eq_true_eq]; exact d), decide_eq_false d⟩))
    | false =>
      rw [hs] at C
      have hge : ¬ V < 18446744073709551616 := of_decide_eq_false hs
      have e : toIOk n V = false := by
        unfold toIOk
        rw [hm, Bool.true_and]
        refine decide_eq_false ?_
        cases n with
        | true => rw [zI_true]; omega
        | false => rw [zI_false]; omega
      rw [e, if_neg Bool.false_ne_true]
      exact RToInt_no n _ _ _ _ true _ w (Lib.hid C) (.inr ⟨rfl, rfl⟩)
/-- **ToUint.** -/
theorem RToUint_any (n : Bool) (V : Nat) (hV : V < 2 ^ 256) (w : World) :
    Calls Tryd.prog 95 #[.agg #[.bool (n ), .int .u64 (lm ( V) 0 : Nat), .int .u64 (lm ( V) 1 : Nat), .int .u64 (lm ( V) 2 : Nat), .int .u64 (lm ( V) 3 : Nat)]] w fun e w' => e = .returned (.tuple #[.int .u64 (toU n V : Nat), .bool (toUOk n V)]) ∧ Below w.heap.size w w' := by
  have C := RtC.mk (RMayI_any n V hV) (small_any V hV)
  refine RToUint_walk n _ _ _ _ _ _ _ _ w (Lib.hid C) ?_
  unfold toU
  cases n with
  | true =>
    have e : toUOk true V = false := rfl
    rw [e, if_neg Bool.false_ne_true]
    cases mayI true V with
    | false => exact .inl ⟨rfl, rfl, rfl⟩
    | true => exact .inr (.inl ⟨rfl, rfl, rfl, rfl⟩)
  | false =>
    have e : toUOk false V = lowOk V := rfl
    rw [e]
    cases c : lowOk V with
    | true => exact .inr (.inr (.inr ⟨rfl, rfl, rfl, by rw [if_pos rfl, lm0_small c], rfl⟩))
    | false => exact .inr (.inr (.inl ⟨rfl, rfl, rfl, rfl, rfl⟩))
end Go.Proofs.YtminijokbeclhaaDoor
