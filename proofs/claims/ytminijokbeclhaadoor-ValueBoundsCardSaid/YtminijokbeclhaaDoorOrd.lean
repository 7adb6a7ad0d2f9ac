/- Plain facts: the order of values as trees: one of three things holds, it is passed on, 0 is the same. No program in sight. -/
import Derived.Test.YtminijokbeclhaaDoorVSelf
import Derived.Test.YtminijokbeclhaaDoorVTold
import Derived.Test.YtminijokbeclhaaDoorWithin
namespace Go.Proofs.YtminijokbeclhaaDoor
open Go.RowKit
/-- order of texts -/
def sgnL (a b : List UInt8) : Int := if Op.bytesLess a b = true then -1 else if a = b then 0 else 1
def sgnS (a b : ByteArray) : Int := sgnL a.toList b.toList
/-- the first that is not 0 -/
def or2 (x y : Int) : Int := if x = 0 then y else x
def fstC (f : Nat → Int) : Nat → Int
  | 0 => 0
  | k + 1 => or2 (fstC f k) (f k)
/-- order of rows: element by element, then the lengths -/
def lexN (f : Nat → Int) (n m : Nat) : Int := or2 (fstC f (min n m)) (cmpZZ n m)
/-- Cmp -/
def VT.cmpT : VT → VT → Int
  | .nil => fun _ => 0
  | .mk kind neg V bits text _ nL _ kids _ nK _ keys => fun U => match U with
    | .nil => 0
    | .mk kindB negB VB bitsB textB _ nLB _ kidsB _ nKB _ keysB =>
      if kind = kindB then (if kind = 3 then cmpI neg V negB VB
      else if kind = 7 then lexN (fun i => (kids i).cmpT (kidsB i)) nL nLB
      else if kind = 8 then or2 (cmpZZ nK nKB) (or2 (lexN (fun i => sgnS (keys i) (keysB i)) nK nKB) (lexN (fun i => (kids i).cmpT (kidsB i)) nL nLB))
      else or2 (cmpZZ bits bitsB) (sgnS text textB)) else cmpZZ kind kindB
/-- a triple of comparisons that passes the order on -/
def Tr (x y z : Int) : Prop := (x ≤ 0 → y ≤ 0 → z ≤ 0 ∧ (z = 0 → x = 0 ∧ y = 0)) ∧ (0 ≤ x → 0 ≤ y → 0 ≤ z ∧ (z = 0 → x = 0 ∧ y = 0))
theorem Tr.or {x y z x' y' z' : Int} (h : Tr x y z) (h' : Tr x' y' z') : Tr (or2 x x') (or2 y y') (or2 z z') := by
  unfold Tr or2 at *
  split <;> split <;> split <;> omega
theorem Tr.zero : Tr 0 0 0 := by unfold Tr; omega
theorem Tr.ints (a b c : Int) : Tr (cmpZZ a b) (cmpZZ b c) (cmpZZ a c) := by
  unfold Tr cmpZZ
  repeat' split
  all_goals omega
/-- a pair of comparisons that are each other's turn, within bounds -/
def Fl (x y : Int) : Prop := x + y = 0 ∧ -1 ≤ x ∧ x ≤ 1
theorem Fl.or {x y x' y' : Int} (h : Fl x y) (h' : Fl x' y') : Fl (or2 x x') (or2 y y') := by
  unfold Fl or2 at *
  split <;> split <;> omega
theorem Fl.zero : Fl 0 0 := by unfold Fl; omega
theorem Fl.ints (a b : Int) : Fl (cmpZZ a b) (cmpZZ b a) := by
  unfold Fl cmpZZ
  repeat' split
  all_goals omega
theorem or2_zero {x y : Int} : or2 x y = 0 ↔ x = 0 ∧ y = 0 := by unfold or2; split <;> omega
theorem cmpZZ_zero {x y : Int} : cmpZZ x y = 0 ↔ x = y := by unfold cmpZZ; repeat' split; all_goals omega
theorem fstC_zero {f : Nat → Int} {n : Nat} : fstC f n = 0 ↔ ∀ i, i < n → f i = 0 := by
  induction n with
  | zero => exact ⟨fun _ i hi => by omega, fun _ => rfl⟩
  | succ k ih =>
    simp only [fstC]
    rw [or2_zero, ih]
    constructor
    · rintro ⟨h1, h2⟩ i hi
      by_cases c : i < k
      · exact h1 i c
      · rw [show i = k from by omega]; exact h2
    · exact fun h => ⟨fun i hi => h i (by omega), h k (by omega)⟩
theorem fstC_congr {f g : Nat → Int} {n : Nat} (h : ∀ i, i < n → f i = g i) : fstC f n = fstC g n := by
  induction n with
  | zero => rfl
  | succ k ih =>
    simp only [fstC]
    rw [ih fun i hi => h i (by omega), h k (by omega)]
/-- rows, filled up -/
def padC (f : Nat → Int) (n m i : Nat) : Int := if i < n ∧ i < m then f i else if i < m then -1 else if i < n then 1 else 0
theorem fstC_pad (f : Nat → Int) (n m k : Nat) (hk : n + m ≤ min n m + k) : fstC (padC f n m) (min n m + k) = lexN f n m := by
  have e0 : fstC (padC f n m) (min n m) = fstC f (min n m) := fstC_congr fun i hi => by unfold padC; rw [if_pos (by omega)]
  have h : ∀ k, fstC (padC f n m) (min n m + (k + 1)) = or2 (fstC f (min n m)) (cmpZZ n m) := by
    intro k
    induction k with
    | zero =>
      show or2 (fstC (padC f n m) (min n m)) (padC f n m (min n m)) = _
      rw [e0]
      congr 1
      unfold padC cmpZZ
      repeat' split
      all_goals omega
    | succ k ih =>
      show or2 (fstC (padC f n m) (min n m + (k + 1))) (padC f n m (min n m + (k + 1))) = _
      rw [ih]
      unfold padC cmpZZ or2
      repeat' split
      all_goals omega
  cases k with
  | zero =>
    have : n = 0 ∧ m = 0 := by omega
    obtain ⟨rfl, rfl⟩ := this
    rfl
  | succ k => rw [h k]; rfl
theorem Tr.rows {f g h : Nat → Int} (n : Nat) (hp : ∀ i, i < n → Tr (f i) (g i) (h i)) : Tr (fstC f n) (fstC g n) (fstC h n) := by
  induction n with
  | zero => exact Tr.zero
  | succ k ih => exact (ih fun i hi => hp i (by omega)).or (hp k (by omega))
theorem Fl.rows {f g : Nat → Int} (n : Nat) (hp : ∀ i, i < n → Fl (f i) (g i)) : Fl (fstC f n) (fstC g n) := by
  induction n with
  | zero => exact Fl.zero
  | succ k ih => exact (ih fun i hi => hp i (by omega)).or (hp k (by omega))
theorem Tr.lex {f g h : Nat → Int} {a b c : Nat} (hp : ∀ i, i < a → i < b → i < c → Tr (f i) (g i) (h i)) (hf : ∀ i, i < a → i < b → -1 ≤ f i ∧ f i ≤ 1) (hg : ∀ i, i < b → i < c → -1 ≤ g i ∧ g i ≤ 1) (hh : ∀ i, i < a → i < c → -1 ≤ h i ∧ h i ≤ 1) : Tr (lexN f a b) (lexN g b c) (lexN h a c) := by
  rw [← fstC_pad f a b (a + b + c - min a b) (by omega), ← fstC_pad g b c (a + b + c - min b c) (by omega), ← fstC_pad h a c (a + b + c - min a c) (by omega),
    show min a b + (a + b + c - min a b) = a + b + c from by omega, show min b c + (a + b + c - min b c) = a + b + c from by omega, show min a c + (a + b + c - min a c) = a + b + c from by omega]
  refine Tr.rows _ fun i _ => ?_
  by_cases h1 : i < a ∧ i < b ∧ i < c
  · unfold padC
    rw [if_pos ⟨h1.1, h1.2.1⟩, if_pos h1.2, if_pos ⟨h1.1, h1.2.2⟩]
    exact hp i h1.1 h1.2.1 h1.2.2
  · have p1 := hf i
    have p2 := hg i
    have p3 := hh i
    unfold padC Tr
    repeat' split
    all_goals omega
theorem Fl.lex {f g : Nat → Int} {a b : Nat} (hp : ∀ i, i < a → i < b → Fl (f i) (g i)) : Fl (lexN f a b) (lexN g b a) := by
  unfold lexN
  rw [Nat.min_comm b a]
  exact (Fl.rows _ fun i hi => hp i (by omega) (by omega)).or (Fl.ints _ _)
theorem lexN_zero {f : Nat → Int} {n m : Nat} : lexN f n m = 0 ↔ n = m ∧ ∀ i, i < n → f i = 0 := by
  unfold lexN
  rw [or2_zero, fstC_zero, cmpZZ_zero]
  constructor
  · rintro ⟨h1, h2⟩
    have : n = m := by omega
    exact ⟨this, fun i hi => h1 i (by omega)⟩
  · rintro ⟨rfl, h⟩
    exact ⟨fun i hi => h i (by omega), rfl⟩
theorem sgnL_cons (a b : UInt8) (x y : List UInt8) : sgnL (a :: x) (b :: y) = or2 (cmpZZ (a.toNat : Int) (b.toNat : Int)) (sgnL x y) := by
  have lt : a < b ↔ a.toNat < b.toNat := UInt8.lt_iff_toNat_lt
  have eq : a = b ↔ a.toNat = b.toNat := ⟨fun h => by rw [h], fun h => UInt8.toNat_inj.1 h⟩
  unfold sgnL or2 cmpZZ
  rw [show Op.bytesLess (a :: x) (b :: y) = (decide (a < b) || (a == b && Op.bytesLess x y)) from rfl]
  by_cases h1 : a.toNat < b.toNat
  · have c1 : (a.toNat : Int) < (b.toNat : Int) := by omega
    rw [decide_eq_true (lt.2 h1), Bool.true_or, if_pos rfl]
    simp [c1]
  · rw [decide_eq_false (fun h => h1 (lt.1 h)), Bool.false_or, if_neg (show ¬ ((a.toNat : Int) < (b.toNat : Int)) by omega)]
    by_cases h2 : a = b
    · subst h2
      rw [if_neg (show ¬ ((a.toNat : Int) < (a.toNat : Int)) by omega), if_pos rfl, beq_self_eq_true, Bool.true_and]
      simp
    · have h3 : ¬ a.toNat = b.toNat := fun h => h2 (eq.2 h)
      rw [beq_false_of_ne h2, Bool.false_and, if_neg Bool.false_ne_true, if_neg (fun h => h2 (List.cons.inj h).1), if_pos (show ((b.toNat : Int) < (a.toNat : Int)) by omega), if_neg (by decide)]
theorem sgnL_fl : ∀ a b : List UInt8, Fl (sgnL a b) (sgnL b a)
  | [], [] => by unfold Fl; decide
  | [], _ :: _ => by unfold Fl sgnL; simp [Op.bytesLess]
  | _ :: _, [] => by unfold Fl sgnL; simp [Op.bytesLess]
  | a :: x, b :: y => by
    rw [sgnL_cons, sgnL_cons]
    exact (Fl.ints _ _).or (sgnL_fl x y)
theorem sgnL_tr : ∀ a b c : List UInt8, Tr (sgnL a b) (sgnL b c) (sgnL a c)
  | [], [], [] => by unfold Tr; decide
  | [], [], c :: z => by unfold Tr sgnL; simp [Op.bytesLess]
  | [], b :: y, [] => by unfold Tr sgnL; simp [Op.bytesLess]
  | [], b :: y, c :: z => by
    have h := sgnL_fl (b :: y) (c :: z)
    have e1 : sgnL [] (b :: y) = -1 := by unfold sgnL; simp [Op.bytesLess]
    have e2 : sgnL [] (c :: z) = -1 := by unfold sgnL; simp [Op.bytesLess]
    unfold Fl at h
    unfold Tr
    omega
  | a :: x, [], [] => by unfold Tr sgnL; simp [Op.bytesLess]
  | a :: x, [], c :: z => by
    have e1 : sgnL (a :: x) [] = 1 := by unfold sgnL; simp [Op.bytesLess]
    have e2 : sgnL [] (c :: z) = -1 := by unfold sgnL; simp [Op.bytesLess]
    unfold Tr
    omega
  | a :: x, b :: y, [] => by
    have h := sgnL_fl (a :: x) (b :: y)
    have e1 : sgnL (b :: y) [] = 1 := by unfold sgnL; simp [Op.bytesLess]
    have e2 : sgnL (a :: x) [] = 1 := by unfold sgnL; simp [Op.bytesLess]
    unfold Fl at h
    unfold Tr
    omega
  | a :: x, b :: y, c :: z => by
    rw [sgnL_cons, sgnL_cons, sgnL_cons]
    exact (Tr.ints _ _ _).or (sgnL_tr x y z)
theorem sgnL_zero : ∀ a b : List UInt8, sgnL a b = 0 ↔ a = b
  | [], [] => by decide
  | [], _ :: _ => by unfold sgnL; simp [Op.bytesLess]
  | _ :: _, [] => by unfold sgnL; simp [Op.bytesLess]
  | a :: x, b :: y => by
    rw [sgnL_cons, or2_zero, cmpZZ_zero, sgnL_zero x y]
    constructor
    · rintro ⟨h1, rfl⟩
      rw [UInt8.toNat_inj.1 (show a.toNat = b.toNat by omega)]
    · intro h
      injection h with h1 h2
      exact ⟨by rw [h1], h2⟩
theorem sgnS_zero {a b : ByteArray} : sgnS a b = 0 ↔ a = b := by
  unfold sgnS
  rw [sgnL_zero]
  exact ⟨toList_inj, fun h => by rw [h]⟩
theorem cmpZ_ZZ (x y : Int) : cmpZ x y = cmpZZ x y := by
  unfold cmpZ cmpZZ
  repeat' split
  all_goals omega
theorem VT.cmpT_fl : ∀ T U : VT, Fl (T.cmpT U) (U.cmpT T) := by
  intro T
  induction T with
  | nil => intro U; cases U <;> simp only [VT.cmpT] <;> exact Fl.zero
  | mk kind neg V bits text aL nL cL kids aK nK cK keys ih =>
    intro U
    cases U with
    | nil => simp only [VT.cmpT]; exact Fl.zero
    | mk kindB negB VB bitsB textB aLB nLB cLB kidsB aKB nKB cKB keysB =>
      simp only [VT.cmpT]
      by_cases h0 : kind = kindB
      · subst h0
        rw [if_pos rfl, if_pos rfl]
        by_cases h3 : kind = 3
        · rw [if_pos h3, if_pos h3]
          unfold cmpI
          rw [Bool.and_comm (mayI negB VB)]
          split
          · rw [cmpZ_ZZ, cmpZ_ZZ]; exact Fl.ints _ _
          · exact Fl.zero
        · rw [if_neg h3, if_neg h3]
          by_cases h7 : kind = 7
          · rw [if_pos h7, if_pos h7]
            exact Fl.lex fun i _ _ => ih i _
          · rw [if_neg h7, if_neg h7]
            by_cases h8 : kind = 8
            · rw [if_pos h8, if_pos h8]
              exact (Fl.ints _ _).or ((Fl.lex fun i _ _ => sgnL_fl _ _).or (Fl.lex fun i _ _ => ih i _))
            · rw [if_neg h8, if_neg h8]
              exact (Fl.ints _ _).or (sgnL_fl _ _)
      · rw [if_neg h0, if_neg (fun h => h0 h.symm)]
        exact Fl.ints _ _
theorem VT.right_int {neg : Bool} {V bits : Nat} {text : ByteArray} {aL : Option Addr} {nL cL : Nat} {kids : Nat → VT} {aK : Option Addr} {nK cK : Nat} {keys : Nat → ByteArray} (h : (VT.mk 3 neg V bits text aL nL cL kids aK nK cK keys).right = true) : mayI neg V = true := by
  simp only [VT.right, Bool.and_eq_true] at h
  have h1 := h.1.1
  unfold midB at h1
  simp at h1
  exact h1.2
theorem VT.cmpT_tr : ∀ T U X : VT, T.right = true → U.right = true → X.right = true → Tr (T.cmpT U) (U.cmpT X) (T.cmpT X) := by
  intro T
  induction T with
  | nil => intro U X h; exact absurd h Bool.false_ne_true
  | mk kind neg V bits text aL nL cL kids aK nK cK keys ih =>
    intro U X hT hU hX
    cases U with
    | nil => exact absurd hU Bool.false_ne_true
    | mk kindB negB VB bitsB textB aLB nLB cLB kidsB aKB nKB cKB keysB =>
    cases X with
    | nil => exact absurd hX Bool.false_ne_true
    | mk kindC negC VC bitsC textC aLC nLC cLC kidsC aKC nKC cKC keysC =>
      by_cases h0 : kind = kindB
      · by_cases h1 : kindB = kindC
        · subst h0
          subst h1
          simp only [VT.cmpT]
          simp only [if_true]
          have hr : ∀ i, i < nL → i < nLB → i < nLC → Tr ((kids i).cmpT (kidsB i)) ((kidsB i).cmpT (kidsC i)) ((kids i).cmpT (kidsC i)) := fun i h1 h2 h3 =>
            ih i _ _ (VT.right_kid hT h1) (VT.right_kid hU h2) (VT.right_kid hX h3)
          have hl : Tr (lexN (fun i => (kids i).cmpT (kidsB i)) nL nLB) (lexN (fun i => (kidsB i).cmpT (kidsC i)) nLB nLC) (lexN (fun i => (kids i).cmpT (kidsC i)) nL nLC) :=
            Tr.lex hr (fun i _ _ => (VT.cmpT_fl _ _).2) (fun i _ _ => (VT.cmpT_fl _ _).2) (fun i _ _ => (VT.cmpT_fl _ _).2)
          by_cases h3 : kind = 3
          · subst h3
            rw [if_pos rfl, if_pos rfl, if_pos rfl]
            unfold cmpI
            rw [VT.right_int hT, VT.right_int hU, VT.right_int hX]
            rw [Bool.and_self, if_pos rfl, if_pos rfl, if_pos rfl, cmpZ_ZZ, cmpZ_ZZ, cmpZ_ZZ]
            exact Tr.ints _ _ _
          · rw [if_neg h3, if_neg h3, if_neg h3]
            by_cases h7 : kind = 7
            · rw [if_pos h7, if_pos h7, if_pos h7]
              exact hl
            · rw [if_neg h7, if_neg h7, if_neg h7]
              by_cases h8 : kind = 8
              · rw [if_pos h8, if_pos h8, if_pos h8]
                exact (Tr.ints _ _ _).or ((Tr.lex (fun i _ _ _ => sgnL_tr _ _ _) (fun i _ _ => (sgnL_fl _ _).2) (fun i _ _ => (sgnL_fl _ _).2) (fun i _ _ => (sgnL_fl _ _).2)).or hl)
              · rw [if_neg h8, if_neg h8, if_neg h8]
                exact (Tr.ints _ _ _).or (sgnL_tr _ _ _)
        · subst h0
          simp only [VT.cmpT]
          rw [if_true, if_neg h1, if_neg h1]
          have hf := (VT.cmpT_fl (VT.mk kind neg V bits text aL nL cL kids aK nK cK keys) (VT.mk kind negB VB bitsB textB aLB nLB cLB kidsB aKB nKB cKB keysB)).2
          simp only [VT.cmpT] at hf
          rw [if_true] at hf
          have hz : cmpZZ kind kindC ≠ 0 := fun h => h1 (cmpZZ_zero.1 h)
          unfold Tr
          omega
      · by_cases h1 : kindB = kindC
        · subst h1
          simp only [VT.cmpT]
          rw [if_true, if_neg h0, if_neg h0]
          have hz : cmpZZ kind kindB ≠ 0 := fun h => h0 (cmpZZ_zero.1 h)
          unfold Tr
          omega
        · by_cases h2 : kind = kindC
          · subst h2
            have hf := (VT.cmpT_fl (VT.mk kind neg V bits text aL nL cL kids aK nK cK keys) (VT.mk kind negC VC bitsC textC aLC nLC cLC kidsC aKC nKC cKC keysC)).2
            simp only [VT.cmpT] at hf ⊢
            rw [if_neg h0, if_neg h1]
            have hz : cmpZZ kind kindB ≠ 0 := fun h => h0 (cmpZZ_zero.1 h)
            have hz2 := (Fl.ints kind kindB).1
            unfold Tr
            omega
          · simp only [VT.cmpT]
            rw [if_neg h0, if_neg h1, if_neg h2]
            exact Tr.ints _ _ _
theorem VT.cmpT_zero : ∀ T U : VT, T.right = true → U.right = true → (T.cmpT U = 0 ↔ T.sameB U = true) := by
  intro T
  induction T with
  | nil => intro U h; exact absurd h Bool.false_ne_true
  | mk kind neg V bits text aL nL cL kids aK nK cK keys ih =>
    intro U hT hU
    cases U with
    | nil => exact absurd hU Bool.false_ne_true
    | mk kindB negB VB bitsB textB aLB nLB cLB kidsB aKB nKB cKB keysB =>
      have hl : lexN (fun i => (kids i).cmpT (kidsB i)) nL nLB = 0 ↔ nL = nLB ∧ anyN (fun i => !(kids i).sameB (kidsB i)) nL = false := by
        rw [lexN_zero]
        constructor
        · rintro ⟨rfl, h⟩
          exact ⟨rfl, anyN_no0 fun i hi => by rw [(ih i _ (VT.right_kid hT hi) (VT.right_kid hU hi)).1 (h i hi)]; rfl⟩
        · rintro ⟨rfl, h⟩
          exact ⟨rfl, fun i hi => (ih i _ (VT.right_kid hT hi) (VT.right_kid hU hi)).2 (by have := anyN_no h hi; simpa using this)⟩
      have hk : lexN (fun i => sgnS (keys i) (keysB i)) nK nKB = 0 ↔ nK = nKB ∧ anyN (fun i => decide (keys i ≠ keysB i)) nK = false := by
        rw [lexN_zero]
        constructor
        · rintro ⟨rfl, h⟩
          exact ⟨rfl, anyN_no0 fun i hi => decide_eq_false fun g => g (sgnS_zero.1 (h i hi))⟩
        · rintro ⟨rfl, h⟩
          exact ⟨rfl, fun i hi => sgnS_zero.2 (by have := anyN_no h hi; simpa using this)⟩
      simp only [VT.cmpT, VT.sameB]
      by_cases h0 : kind = kindB
      · subst h0
        rw [if_pos rfl]
        simp only [VT.right, Bool.and_eq_true] at hT hU
        obtain ⟨⟨m1, e1⟩, -⟩ := hT
        obtain ⟨⟨m2, e2⟩, -⟩ := hU
        unfold eqB at e1 e2
        simp only [decide_eq_true_eq] at e1 e2
        obtain ⟨a1, a2, a3, a4⟩ := e1
        obtain ⟨b1, b2, b3, b4⟩ := e2
        unfold midB at m1 m2
        by_cases h3 : kind = 3
        · subst h3
          rw [if_pos rfl]
          simp [bareB, bareT] at a3 a4 b3 b4
          simp at m1 m2
          subst a3 a4 b3 b4
          obtain ⟨⟨rfl, rfl⟩, m1⟩ := m1
          obtain ⟨⟨rfl, rfl⟩, m2⟩ := m2
          unfold cmpI
          rw [m1, m2, Bool.and_self, if_pos rfl, cmpZ_ZZ, cmpZZ_zero]
          constructor
          · intro h
            obtain ⟨rfl, rfl⟩ := zI_inj m1 m2 h
            simp [anyN]
          · intro h
            simp [anyN] at h
            rw [h.1, h.2]
        · rw [if_neg h3]
          simp only [bareNeg, bareV, if_neg h3] at a1 a2 b1 b2
          subst a1 a2 b1 b2
          by_cases h7 : kind = 7
          · subst h7
            rw [if_pos rfl, hl]
            simp [bareB, bareT] at a3 a4 b3 b4
            simp at m1 m2
            subst a3 a4 b3 b4 m1 m2
            simp [anyN]
          · rw [if_neg h7]
            by_cases h8 : kind = 8
            · subst h8
              rw [if_pos rfl, or2_zero, or2_zero, cmpZZ_zero, hl, hk]
              simp [bareB, bareT] at a3 a4 b3 b4
              subst a3 a4 b3 b4
              simp
              constructor
              · rintro ⟨-, ⟨rfl, h1⟩, rfl, h2⟩
                exact ⟨⟨⟨rfl, rfl⟩, h1⟩, h2⟩
              · rintro ⟨⟨⟨rfl, rfl⟩, h1⟩, h2⟩
                exact ⟨rfl, ⟨rfl, h1⟩, rfl, h2⟩
            · rw [if_neg h8, or2_zero, cmpZZ_zero, sgnS_zero]
              rw [if_neg h7, if_neg h8] at m1 m2
              simp only [Bool.and_eq_true, beq_iff_eq] at m1 m2
              obtain ⟨⟨rfl, rfl⟩, -⟩ := m1
              obtain ⟨⟨rfl, rfl⟩, -⟩ := m2
              simp [anyN]
              omega
      · rw [if_neg h0, cmpZZ_zero]
        simp [h0]
end Go.Proofs.YtminijokbeclhaaDoor
