/- Plain facts: sets of whole numbers as lists of intervals: a list that rises, its intervals not empty and apart, is told by its numbers. No program in sight. · Plain facts: the number that is least in size, of like ones not below 0: told by its set. No program in sight. -/
import Derived.LoopN
namespace Go.Proofs.YtekeedjhaakbhaaGreatDoor
/-- an interval, both ends in it -/
abbrev Iv := Int × Int
/-- a number is in one of them -/
def MemL (l : List Iv) (z : Int) : Prop := ∃ c, c ∈ l ∧ c.1 ≤ z ∧ z ≤ c.2
theorem MemL_nil (z : Int) : ¬ MemL [] z := by rintro ⟨c, hc, -⟩; cases hc
theorem MemL_cons {c : Iv} {l : List Iv} {z : Int} : MemL (c :: l) z ↔ (c.1 ≤ z ∧ z ≤ c.2) ∨ MemL l z := by
  constructor
  · rintro ⟨d, hd, h⟩
    rcases List.mem_cons.1 hd with rfl | hd
    · exact .inl h
    · exact .inr ⟨d, hd, h⟩
  · rintro (h | ⟨d, hd, h⟩)
    · exact ⟨c, List.mem_cons_self .., h⟩
    · exact ⟨d, List.mem_cons_of_mem _ hd, h⟩
theorem MemL_append {a b : List Iv} {z : Int} : MemL (a ++ b) z ↔ MemL a z ∨ MemL b z := by
  constructor
  · rintro ⟨d, hd, h⟩
    rcases List.mem_append.1 hd with hd | hd
    · exact .inl ⟨d, hd, h⟩
    · exact .inr ⟨d, hd, h⟩
  · rintro (⟨d, hd, h⟩ | ⟨d, hd, h⟩)
    · exact ⟨d, List.mem_append_left _ hd, h⟩
    · exact ⟨d, List.mem_append_right _ hd, h⟩
theorem MemL_perm {a b : List Iv} (h : a.Perm b) {z : Int} : MemL a z ↔ MemL b z :=
  ⟨fun ⟨d, hd, e⟩ => ⟨d, h.mem_iff.1 hd, e⟩, fun ⟨d, hd, e⟩ => ⟨d, h.mem_iff.2 hd, e⟩⟩
/-- not empty, rising, and apart -/
def NF : List Iv → Prop
  | [] => True
  | c :: t => c.1 ≤ c.2 ∧ (∀ d, d ∈ t → c.2 + 1 < d.1) ∧ NF t
theorem NF.tail {c : Iv} {t : List Iv} (h : NF (c :: t)) : NF t := h.2.2
theorem NF.gt {c : Iv} {t : List Iv} (h : NF (c :: t)) {z : Int} (hz : MemL t z) : c.2 + 1 < z := by
  obtain ⟨d, hd, h1, -⟩ := hz
  have := h.2.1 d hd
  omega
theorem NF_unique : ∀ {a b : List Iv}, NF a → NF b → (∀ z, MemL a z ↔ MemL b z) → a = b := by
  intro a
  induction a with
  | nil =>
    intro b _ hb h
    cases b with
    | nil => rfl
    | cons d t => exact absurd ((h d.1).2 (MemL_cons.2 (.inl ⟨Int.le_refl _, hb.1⟩))) (MemL_nil _)
  | cons c s ih =>
    intro b ha hb h
    cases b with
    | nil => exact absurd ((h c.1).1 (MemL_cons.2 (.inl ⟨Int.le_refl _, ha.1⟩))) (MemL_nil _)
    | cons d t =>
      have a1 := ha.1
      have b1 := hb.1
      have h1 : d.1 ≤ c.1 := by
        rcases MemL_cons.1 ((h c.1).1 (MemL_cons.2 (.inl ⟨Int.le_refl _, ha.1⟩))) with x | x
        · exact x.1
        · have := hb.gt x; omega
      have h2 : c.1 ≤ d.1 := by
        rcases MemL_cons.1 ((h d.1).2 (MemL_cons.2 (.inl ⟨Int.le_refl _, hb.1⟩))) with x | x
        · exact x.1
        · have := ha.gt x; omega
      have h3 : d.2 ≤ c.2 := by
        apply Decidable.byContradiction
        intro hn
        rcases MemL_cons.1 ((h (c.2 + 1)).2 (MemL_cons.2 (.inl ⟨by omega, by omega⟩))) with x | x
        · omega
        · have := ha.gt x; omega
      have h4 : c.2 ≤ d.2 := by
        apply Decidable.byContradiction
        intro hn
        rcases MemL_cons.1 ((h (d.2 + 1)).1 (MemL_cons.2 (.inl ⟨by omega, by omega⟩))) with x | x
        · omega
        · have := hb.gt x; omega
      have e : c = d := Prod.ext (by omega) (by omega)
      subst e
      rw [ih ha.tail hb.tail fun z => ?_]
      constructor
      · intro hz
        rcases MemL_cons.1 ((h z).1 (MemL_cons.2 (.inr hz))) with x | x
        · have := ha.gt hz; omega
        · exact x
      · intro hz
        rcases MemL_cons.1 ((h z).2 (MemL_cons.2 (.inr hz))) with x | x
        · have := hb.gt hz; omega
        · exact x
/-! ### joined -/
/-- rising by their first ends -/
def Rise : List Iv → Prop
  | [] => True
  | c :: t => (∀ d, d ∈ t → c.1 ≤ d.1) ∧ Rise t
/-- the rest of a rising list joined onto the interval c -/
def joinC : Iv → List Iv → List Iv
  | c, [] => [c]
  | c, d :: t => if d.1 ≤ c.2 + 1 then joinC (c.1, if c.2 < d.2 then d.2 else c.2) t else c :: joinC d t
def joinL : List Iv → List Iv
  | [] => []
  | c :: t => joinC c t
theorem joinC_spec : ∀ (l : List Iv) (c : Iv), c.1 ≤ c.2 → (∀ d, d ∈ l → d.1 ≤ d.2 ∧ c.1 ≤ d.1) → Rise l → NF (joinC c l) ∧ (∀ d, d ∈ joinC c l → c.1 ≤ d.1) ∧ ∀ z, MemL (joinC c l) z ↔ MemL (c :: l) z := by
  intro l
  induction l with
  | nil =>
    intro c hc _ _
    refine ⟨⟨hc, fun d hd => (by cases hd), trivial⟩, fun d hd => ?_, fun z => Iff.rfl⟩
    rcases List.mem_cons.1 hd with rfl | hd
    · exact Int.le_refl _
    · cases hd
  | cons d t ih =>
    intro c hc hl hr
    have hd := hl d (List.mem_cons_self ..)
    simp only [joinC]
    by_cases h : d.1 ≤ c.2 + 1
    · rw [if_pos h]
      have hle : c.2 ≤ (if c.2 < d.2 then d.2 else c.2) ∧ d.2 ≤ (if c.2 < d.2 then d.2 else c.2) ∧ ((if c.2 < d.2 then d.2 else c.2) = c.2 ∨ (if c.2 < d.2 then d.2 else c.2) = d.2) := by split <;> omega
      generalize (if c.2 < d.2 then d.2 else c.2) = m at hle
      obtain ⟨i1, i2, i3⟩ := ih (c.1, m) (show c.1 ≤ m by omega) (fun e he => ⟨(hl e (List.mem_cons_of_mem _ he)).1, (hl e (List.mem_cons_of_mem _ he)).2⟩) hr.2
      refine ⟨i1, i2, fun z => ?_⟩
      rw [i3 z, MemL_cons, MemL_cons, MemL_cons]
      constructor
      · rintro (⟨x, y⟩ | x)
        · simp only at x y
          by_cases hz : z ≤ c.2
          · exact .inl ⟨x, hz⟩
          · exact .inr (.inl ⟨by omega, by omega⟩)
        · exact .inr (.inr x)
      · rintro (⟨x, y⟩ | ⟨x, y⟩ | x)
        · exact .inl ⟨x, by simp only; omega⟩
        · exact .inl ⟨by simp only; omega, by simp only; omega⟩
        · exact .inr x
    · rw [if_neg h]
      obtain ⟨i1, i2, i3⟩ := ih d hd.1 (fun e he => ⟨(hl e (List.mem_cons_of_mem _ he)).1, hr.1 e he⟩) hr.2
      refine ⟨⟨hc, fun e he => ?_, i1⟩, fun e he => ?_, fun z => ?_⟩
      · have := i2 e he; omega
      · rcases List.mem_cons.1 he with rfl | he
        · exact Int.le_refl _
        · have := i2 e he; omega
      · rw [MemL_cons, i3 z, MemL_cons (l := d :: t)]
theorem joinL_spec {l : List Iv} (h : ∀ d, d ∈ l → d.1 ≤ d.2) (hr : Rise l) : NF (joinL l) ∧ ∀ z, MemL (joinL l) z ↔ MemL l z := by
  cases l with
  | nil => exact ⟨trivial, fun _ => Iff.rfl⟩
  | cons c t =>
    have := joinC_spec t c (h c (List.mem_cons_self ..)) (fun d hd => ⟨h d (List.mem_cons_of_mem _ hd), hr.1 d hd⟩) hr.2
    exact ⟨this.1, this.2.2⟩
/-! ### both -/
def cutI (c d : Iv) : List Iv := let lo := if c.1 < d.1 then d.1 else c.1
  let hi := if d.2 < c.2 then d.2 else c.2
  if lo ≤ hi then [(lo, hi)] else []
theorem cutI_ends (c d : Iv) : ∃ lo hi : Int, cutI c d = (if lo ≤ hi then [(lo, hi)] else []) ∧ c.1 ≤ lo ∧ d.1 ≤ lo ∧ (lo = c.1 ∨ lo = d.1) ∧ hi ≤ c.2 ∧ hi ≤ d.2 ∧ (hi = c.2 ∨ hi = d.2) := by
  refine ⟨if c.1 < d.1 then d.1 else c.1, if d.2 < c.2 then d.2 else c.2, rfl, ?_, ?_, ?_, ?_, ?_, ?_⟩ <;> split <;> omega
theorem cutI_mem {c d : Iv} {z : Int} : MemL (cutI c d) z ↔ (c.1 ≤ z ∧ z ≤ c.2) ∧ d.1 ≤ z ∧ z ≤ d.2 := by
  obtain ⟨lo, hi, e, h⟩ := cutI_ends c d
  rw [e]
  by_cases hl : lo ≤ hi
  · rw [if_pos hl, MemL_cons]
    constructor
    · rintro (⟨x, y⟩ | x)
      · simp only at x y; omega
      · exact absurd x (MemL_nil _)
    · intro h
      exact .inl ⟨by simp only; omega, by simp only; omega⟩
  · rw [if_neg hl]
    exact ⟨fun h => absurd h (MemL_nil _), fun h => by omega⟩
theorem cutI_NF {c d : Iv} : NF (cutI c d) := by
  obtain ⟨lo, hi, e, h⟩ := cutI_ends c d
  rw [e]
  by_cases hl : lo ≤ hi
  · rw [if_pos hl]
    exact ⟨hl, fun e he => (by cases he), trivial⟩
  · rw [if_neg hl]
    trivial
theorem cutI_in {c d e : Iv} (h : e ∈ cutI c d) : c.1 ≤ e.1 ∧ d.1 ≤ e.1 ∧ e.2 ≤ c.2 ∧ e.2 ≤ d.2 ∧ e.1 ≤ e.2 := by
  obtain ⟨lo, hi, e1, h1⟩ := cutI_ends c d
  rw [e1] at h
  by_cases hl : lo ≤ hi
  · rw [if_pos hl] at h
    rcases List.mem_cons.1 h with rfl | h
    · simp only; omega
    · cases h
  · rw [if_neg hl] at h
    cases h
theorem NF_append {a b : List Iv} (ha : NF a) (hb : NF b) (h : ∀ c, c ∈ a → ∀ d, d ∈ b → c.2 + 1 < d.1) : NF (a ++ b) := by
  induction a with
  | nil => exact hb
  | cons c t ih =>
    refine ⟨ha.1, fun d hd => ?_, ih ha.tail fun c hc => h c (List.mem_cons_of_mem _ hc)⟩
    rcases List.mem_append.1 hd with hd | hd
    · exact ha.2.1 d hd
    · exact h c (List.mem_cons_self ..) d hd
/-- what is met, two lists walked side by side -/
def bothL : List Iv → List Iv → List Iv
  | [], _ => []
  | _ :: _, [] => []
  | c :: s, d :: t => cutI c d ++ if c.2 < d.2 then bothL s (d :: t) else bothL (c :: s) t
  termination_by x y => x.length + y.length
theorem bothL_spec : ∀ (n : Nat) (x y : List Iv), x.length + y.length ≤ n → NF x → NF y → NF (bothL x y) ∧ (∀ e, e ∈ bothL x y → (∀ c, c ∈ x.head? → c.1 ≤ e.1) ∧ ∀ c, c ∈ y.head? → c.1 ≤ e.1) ∧ ∀ z, MemL (bothL x y) z ↔ MemL x z ∧ MemL y z := by
  intro n
  induction n with
  | zero =>
    intro x y h _ _
    have : x = [] := List.length_eq_zero_iff.1 (by omega)
    subst this
    rw [bothL]
    exact ⟨trivial, fun e he => (by cases he), fun z => ⟨fun h => absurd h (MemL_nil _), fun h => absurd h.1 (MemL_nil _)⟩⟩
  | succ n ih =>
    intro x y h hx hy
    match x, y with
    | [], _ =>
      rw [bothL]
      exact ⟨trivial, fun e he => (by cases he), fun z => ⟨fun h => absurd h (MemL_nil _), fun h => absurd h.1 (MemL_nil _)⟩⟩
    | c :: s, [] =>
      rw [bothL]
      exact ⟨trivial, fun e he => (by cases he), fun z => ⟨fun h => absurd h (MemL_nil _), fun h => absurd h.2 (MemL_nil _)⟩⟩
    | c :: s, d :: t =>
      rw [bothL]
      simp only [List.length_cons] at h
      by_cases hc : c.2 < d.2
      · rw [if_pos hc]
        obtain ⟨i1, i2, i3⟩ := ih s (d :: t) (by simp only [List.length_cons]; omega) hx.tail hy
        have hlow : ∀ e, e ∈ bothL s (d :: t) → c.2 + 1 < e.1 ∧ d.1 ≤ e.1 := fun e he => by
          have h1 := i2 e he
          refine ⟨?_, h1.2 d rfl⟩
          cases s with
          | nil => rw [bothL] at he; cases he
          | cons c' s' =>
            have h2 := h1.1 c' rfl
            have h3 := hx.2.1 c' (List.mem_cons_self ..)
            omega
        refine ⟨NF_append cutI_NF i1 fun e he f hf => ?_, fun e he => ?_, fun z => ?_⟩
        · have h1 := cutI_in he
          have h2 := hlow f hf
          omega
        · have hc0 := hx.1
          refine ⟨fun c' hc' => ?_, fun d' hd' => ?_⟩
          · injection hc' with hc'; subst hc'
            rcases List.mem_append.1 he with he | he
            · exact (cutI_in he).1
            · have := hlow e he; omega
          · injection hd' with hd'; subst hd'
            rcases List.mem_append.1 he with he | he
            · exact (cutI_in he).2.1
            · exact (hlow e he).2
        · rw [MemL_append, cutI_mem, i3 z, MemL_cons (c := c)]
          constructor
          · rintro (⟨x1, x2⟩ | ⟨x1, x2⟩)
            · exact ⟨.inl x1, MemL_cons.2 (.inl x2)⟩
            · exact ⟨.inr x1, x2⟩
          · rintro ⟨x1 | x1, x2⟩
            · rcases MemL_cons.1 x2 with x2 | x2
              · exact .inl ⟨x1, x2⟩
              · have := hy.gt x2; omega
            · exact .inr ⟨x1, x2⟩
      · rw [if_neg hc]
        obtain ⟨i1, i2, i3⟩ := ih (c :: s) t (by simp only [List.length_cons]; omega) hx hy.tail
        have hlow : ∀ e, e ∈ bothL (c :: s) t → d.2 + 1 < e.1 ∧ c.1 ≤ e.1 := fun e he => by
          have h1 := i2 e he
          refine ⟨?_, h1.1 c rfl⟩
          cases t with
          | nil => rw [bothL] at he; cases he
          | cons d' t' =>
            have h2 := h1.2 d' rfl
            have h3 := hy.2.1 d' (List.mem_cons_self ..)
            omega
        refine ⟨NF_append cutI_NF i1 fun e he f hf => ?_, fun e he => ?_, fun z => ?_⟩
        · have h1 := cutI_in he
          have h2 := hlow f hf
          omega
        · have hd0 := hy.1
          refine ⟨fun c' hc' => ?_, fun d' hd' => ?_⟩
          · injection hc' with hc'; subst hc'
            rcases List.mem_append.1 he with he | he
            · exact (cutI_in he).1
            · exact (hlow e he).2
          · injection hd' with hd'; subst hd'
            rcases List.mem_append.1 he with he | he
            · exact (cutI_in he).2.1
            · have := hlow e he; omega
        · rw [MemL_append, cutI_mem, i3 z, MemL_cons (c := d)]
          constructor
          · rintro (⟨x1, x2⟩ | ⟨x1, x2⟩)
            · exact ⟨MemL_cons.2 (.inl x1), .inl x2⟩
            · exact ⟨x1, .inr x2⟩
          · rintro ⟨x1, x2 | x2⟩
            · rcases MemL_cons.1 x1 with x1 | x1
              · exact .inl ⟨x1, x2⟩
              · have := hx.gt x1; omega
            · exact .inr ⟨x1, x2⟩
/-- what is met, each with each -/
def crossL (x y : List Iv) : List Iv := x.flatMap fun c => y.flatMap fun d => cutI c d
theorem row_spec (c : Iv) : ∀ y : List Iv, NF y → NF (y.flatMap fun d => cutI c d) ∧ (∀ e, e ∈ (y.flatMap fun d => cutI c d) → c.1 ≤ e.1 ∧ e.2 ≤ c.2) ∧ (∀ e, e ∈ (y.flatMap fun d => cutI c d) → ∃ d, d ∈ y ∧ d.1 ≤ e.1) ∧ ∀ z, MemL (y.flatMap fun d => cutI c d) z ↔ (c.1 ≤ z ∧ z ≤ c.2) ∧ MemL y z := by
  intro y
  induction y with
  | nil => exact fun _ => ⟨trivial, fun e he => (by cases he), fun e he => (by cases he), fun z => ⟨fun h => absurd h (MemL_nil _), fun h => absurd h.2 (MemL_nil _)⟩⟩
  | cons d t ih =>
    intro hy
    obtain ⟨i1, i2, i3, i4⟩ := ih hy.tail
    rw [List.flatMap_cons]
    refine ⟨NF_append cutI_NF i1 fun e he f hf => ?_, fun e he => ?_, fun e he => ?_, fun z => ?_⟩
    · have h1 := cutI_in he
      obtain ⟨d', hd', h2⟩ := i3 f hf
      have h3 := hy.2.1 d' hd'
      omega
    · rcases List.mem_append.1 he with he | he
      · have := cutI_in he; omega
      · exact i2 e he
    · rcases List.mem_append.1 he with he | he
      · exact ⟨d, List.mem_cons_self .., (cutI_in he).2.1⟩
      · obtain ⟨d', hd', h2⟩ := i3 e he
        exact ⟨d', List.mem_cons_of_mem _ hd', h2⟩
    · rw [MemL_append, cutI_mem, i4 z, MemL_cons]
      constructor
      · rintro (⟨x1, x2⟩ | ⟨x1, x2⟩)
        · exact ⟨x1, .inl x2⟩
        · exact ⟨x1, .inr x2⟩
      · rintro ⟨x1, x2 | x2⟩
        · exact .inl ⟨x1, x2⟩
        · exact .inr ⟨x1, x2⟩
theorem crossL_spec : ∀ x y : List Iv, NF x → NF y → NF (crossL x y) ∧ (∀ e, e ∈ crossL x y → ∃ c, c ∈ x ∧ c.1 ≤ e.1) ∧ ∀ z, MemL (crossL x y) z ↔ MemL x z ∧ MemL y z := by
  intro x
  induction x with
  | nil => exact fun y _ _ => ⟨trivial, fun e he => (by cases he), fun z => ⟨fun h => absurd h (MemL_nil _), fun h => absurd h.1 (MemL_nil _)⟩⟩
  | cons c s ih =>
    intro y hx hy
    obtain ⟨i1, i2, i3⟩ := ih y hx.tail hy
    obtain ⟨r1, r2, r3, r4⟩ := row_spec c y hy
    unfold crossL at i1 i2 i3 ⊢
    rw [List.flatMap_cons]
    refine ⟨NF_append r1 i1 fun e he f hf => ?_, fun e he => ?_, fun z => ?_⟩
    · have h1 := r2 e he
      obtain ⟨c', hc', h2⟩ := i2 f hf
      have h3 := hx.2.1 c' hc'
      omega
    · rcases List.mem_append.1 he with he | he
      · exact ⟨c, List.mem_cons_self .., (r2 e he).1⟩
      · obtain ⟨c', hc', h2⟩ := i2 e he
        exact ⟨c', List.mem_cons_of_mem _ hc', h2⟩
    · rw [MemL_append, r4 z, i3 z, MemL_cons]
      constructor
      · rintro (⟨x1, x2⟩ | ⟨x1, x2⟩)
        · exact ⟨.inl x1, x2⟩
        · exact ⟨.inr x1, x2⟩
      · rintro ⟨x1 | x1, x2⟩
        · exact .inl ⟨x1, x2⟩
        · exact .inr ⟨x1, x2⟩
theorem both_cross {x y : List Iv} (hx : NF x) (hy : NF y) : bothL x y = crossL x y := by
  have h1 := bothL_spec _ x y (Nat.le_refl _) hx hy
  have h2 := crossL_spec x y hx hy
  exact NF_unique h1.1 h2.1 fun z => by rw [h1.2.2 z, h2.2.2 z]
/-! ### all others, from `at` up to the greatest M -/
def notL (M : Int) : Int → List Iv → List Iv
  | a, [] => [(a, M)]
  | a, c :: t => (if a ≤ c.1 - 1 then [(a, c.1 - 1)] else []) ++ if c.2 < M then notL M (c.2 + 1) t else []
theorem notL_spec (M : Int) : ∀ (l : List Iv) (a : Int), a ≤ M → NF l → (∀ c, c ∈ l → a ≤ c.1 ∧ c.2 ≤ M) → NF (notL M a l) ∧ (∀ e, e ∈ notL M a l → a ≤ e.1) ∧ ∀ z, MemL (notL M a l) z ↔ (a ≤ z ∧ z ≤ M) ∧ ¬ MemL l z := by
  intro l
  induction l with
  | nil =>
    intro a ha _ _
    refine ⟨⟨ha, fun d hd => (by cases hd), trivial⟩, fun e he => ?_, fun z => ?_⟩
    · rcases List.mem_cons.1 he with rfl | he
      · exact Int.le_refl _
      · cases he
    · rw [notL, MemL_cons]
      constructor
      · rintro (h | h)
        · exact ⟨h, MemL_nil _⟩
        · exact absurd h (MemL_nil _)
      · exact fun h => .inl h.1
  | cons c t ih =>
    intro a ha hl hb
    have hc := hb c (List.mem_cons_self ..)
    have hcc := hl.1
    rw [notL]
    have pre : NF (if a ≤ c.1 - 1 then [(a, c.1 - 1)] else []) ∧ (∀ e, e ∈ (if a ≤ c.1 - 1 then [(a, c.1 - 1)] else []) → e = (a, c.1 - 1)) ∧ ∀ z, MemL (if a ≤ c.1 - 1 then [(a, c.1 - 1)] else []) z ↔ a ≤ z ∧ z < c.1 := by
      split
      · rename_i h
        refine ⟨⟨h, fun d hd => (by cases hd), trivial⟩, fun e he => ?_, fun z => ?_⟩
        · rcases List.mem_cons.1 he with rfl | he
          · rfl
          · cases he
        · rw [MemL_cons]
          constructor
          · rintro (⟨x, y⟩ | x)
            · simp only at x y; omega
            · exact absurd x (MemL_nil _)
          · exact fun h => .inl ⟨h.1, by simp only; omega⟩
      · exact ⟨trivial, fun e he => (by cases he), fun z => ⟨fun h => absurd h (MemL_nil _), fun h => by omega⟩⟩
    generalize (if a ≤ c.1 - 1 then [(a, c.1 - 1)] else []) = p at pre
    obtain ⟨p1, p2, p3⟩ := pre
    by_cases hM : c.2 < M
    · rw [if_pos hM]
      obtain ⟨i1, i2, i3⟩ := ih (c.2 + 1) (by omega) hl.tail fun d hd => ⟨by have := hl.2.1 d hd; omega, (hb d (List.mem_cons_of_mem _ hd)).2⟩
      refine ⟨NF_append p1 i1 fun e he f hf => ?_, fun e he => ?_, fun z => ?_⟩
      · have h1 := p2 e he
        have h2 := i2 f hf
        subst h1
        simp only
        omega
      · rcases List.mem_append.1 he with he | he
        · rw [p2 e he]; exact Int.le_refl _
        · have := i2 e he; omega
      · rw [MemL_append, p3 z, i3 z, MemL_cons]
        constructor
        · rintro (h | ⟨h1, h2⟩)
          · refine ⟨by omega, ?_⟩
            rintro (x | x)
            · omega
            · have := hl.gt x; omega
          · refine ⟨by omega, ?_⟩
            rintro (x | x)
            · omega
            · exact h2 x
        · rintro ⟨h1, h2⟩
          by_cases hz : z < c.1
          · exact .inl ⟨h1.1, hz⟩
          · refine .inr ⟨⟨?_, h1.2⟩, fun x => h2 (.inr x)⟩
            apply Decidable.byContradiction
            intro hn
            exact h2 (.inl ⟨by omega, by omega⟩)
    · rw [if_neg hM, List.append_nil]
      refine ⟨p1, fun e he => by rw [p2 e he]; exact Int.le_refl _, fun z => ?_⟩
      rw [p3 z, MemL_cons]
      constructor
      · intro h
        refine ⟨by omega, ?_⟩
        rintro (x | x)
        · omega
        · have := hl.gt x; omega
      · rintro ⟨h1, h2⟩
        refine ⟨h1.1, ?_⟩
        apply Decidable.byContradiction
        intro hn
        exact h2 (.inl ⟨by omega, by omega⟩)
end Go.Proofs.YtekeedjhaakbhaaGreatDoor

namespace Go.Proofs.YtekeedjhaakbhaaGreatDoor
/-- no worse -/
def keyLe (x y : Int) : Prop := x.natAbs < y.natAbs ∨ (x.natAbs = y.natAbs ∧ (0 ≤ x ∨ y < 0))
theorem keyLe_refl (x : Int) : keyLe x x := by unfold keyLe; omega
theorem keyLe_trans {x y z : Int} (h : keyLe x y) (k : keyLe y z) : keyLe x z := by unfold keyLe at *; omega
theorem keyLe_anti {x y : Int} (h : keyLe x y) (k : keyLe y x) : x = y := by unfold keyLe at *; omega
theorem keyLe_total (x y : Int) : keyLe x y ∨ keyLe y x := by unfold keyLe; omega
/-- the best of a set, if there is one -/
def IsBest (S : Int → Prop) : Option Int → Prop
  | none => ∀ z, ¬ S z
  | some m => S m ∧ ∀ z, S z → keyLe m z
theorem IsBest_unique {S : Int → Prop} {a b : Option Int} (ha : IsBest S a) (hb : IsBest S b) : a = b := by
  cases a with
  | none =>
    cases b with
    | none => rfl
    | some m => exact absurd hb.1 (ha m)
  | some x =>
    cases b with
    | none => exact absurd ha.1 (hb x)
    | some y => rw [keyLe_anti (ha.2 y hb.1) (hb.2 x ha.1)]
theorem IsBest_congr {S T : Int → Prop} (h : ∀ z, S z ↔ T z) {a : Option Int} (ha : IsBest S a) : IsBest T a := by
  cases a with
  | none => exact fun z hz => ha z ((h z).2 hz)
  | some m => exact ⟨(h m).1 ha.1, fun z hz => ha.2 z ((h z).2 hz)⟩
/-- one number more is tried -/
def pickS (b : Option Int) (a : Int) : Option Int := match b with
  | none => some a
  | some y => if a.natAbs < y.natAbs ∨ (a.natAbs = y.natAbs ∧ 0 ≤ a) then some a else some y
theorem pickS_best {S : Int → Prop} {b : Option Int} {a : Int} (h : IsBest S b) : IsBest (fun z => S z ∨ z = a) (pickS b a) := by
  cases b with
  | none => exact ⟨.inr rfl, fun z hz => by rcases hz with hz | rfl; exact absurd hz (h z); exact keyLe_refl _⟩
  | some y =>
    simp only [pickS]
    split
    · rename_i c
      refine ⟨.inr rfl, fun z hz => ?_⟩
      rcases hz with hz | rfl
      · exact keyLe_trans (by unfold keyLe; omega) (h.2 z hz)
      · exact keyLe_refl _
    · rename_i c
      refine ⟨.inl h.1, fun z hz => ?_⟩
      rcases hz with hz | rfl
      · exact h.2 z hz
      · unfold keyLe; omega
/-- numbers tried one behind the other -/
theorem fold_best : ∀ (C : List Int) (S : Int → Prop) (b : Option Int), IsBest S b → IsBest (fun z => S z ∨ z ∈ C) (C.foldl pickS b) := by
  intro C
  induction C with
  | nil => exact fun S b h => IsBest_congr (fun z => by simp) h
  | cons a t ih =>
    intro S b h
    rw [List.foldl_cons]
    exact IsBest_congr (fun z => by simp only [List.mem_cons]; exact ⟨fun h => by rcases h with (h | h) | h; exact .inl h; exact .inr (.inl h); exact .inr (.inr h), fun h => by rcases h with h | h | h; exact .inl (.inl h); exact .inl (.inr h); exact .inr h⟩) (ih _ _ (pickS_best h))
/-- numbers of a set, among them one no worse than each of it: their best is the set's -/
theorem best_of {S : Int → Prop} {C : List Int} (h1 : ∀ a, a ∈ C → S a) (h2 : ∀ z, S z → ∃ a, a ∈ C ∧ keyLe a z) : IsBest S (C.foldl pickS none) := by
  have h := fold_best C (fun _ => False) none (fun z hz => hz)
  cases hr : C.foldl pickS none with
  | none =>
    rw [hr] at h
    intro z hz
    obtain ⟨a, ha, -⟩ := h2 z hz
    exact h a (.inr ha)
  | some m =>
    rw [hr] at h
    refine ⟨?_, fun z hz => ?_⟩
    · rcases h.1 with x | x
      · exact x.elim
      · exact h1 m x
    · obtain ⟨a, ha, hk⟩ := h2 z hz
      exact keyLe_trans (h.2 a (.inr ha)) hk
/-- the nearest of a kind from x on, upwards | downwards -/
def UpOf (E : Int → Prop) (x : Int) : Option Int → Prop
  | none => ∀ z, E z → z < x
  | some a => E a ∧ x ≤ a ∧ ∀ z, E z → x ≤ z → a ≤ z
def DownOf (E : Int → Prop) (x : Int) : Option Int → Prop
  | none => ∀ z, E z → x < z
  | some a => E a ∧ a ≤ x ∧ ∀ z, E z → z ≤ x → z ≤ a
/-- a number, if it is one and lies in the interval -/
def inC (c : Iv) (a : Option Int) : List Int := match a with
  | none => []
  | some x => if c.1 ≤ x ∧ x ≤ c.2 then [x] else []
theorem inC_mem {c : Iv} {a : Option Int} {x : Int} : x ∈ inC c a ↔ a = some x ∧ c.1 ≤ x ∧ x ≤ c.2 := by
  cases a with
  | none => simp [inC]
  | some y =>
    simp only [inC]
    split
    · rename_i h
      simp only [List.mem_singleton, Option.some.injEq]
      exact ⟨fun e => by subst e; exact ⟨rfl, h⟩, fun e => e.1.symm⟩
    · rename_i h
      simp only [List.not_mem_nil, Option.some.injEq, false_iff]
      exact fun e => h (by rw [e.1]; exact e.2)
/-- of one interval: from 0 on up, and from 0 on down -/
theorem near_two {E : Int → Prop} {c : Iv} {up down : Int} {a b : Option Int} (hu : up = (if c.1 < 0 then 0 else c.1)) (hd : down = (if 0 < c.2 then 0 else c.2)) (ha : UpOf E up a) (hb : DownOf E down b) {z : Int} (hz : E z) (hc : c.1 ≤ z ∧ z ≤ c.2) :
    ∃ x, x ∈ inC c a ++ inC c b ∧ E x ∧ keyLe x z := by
  by_cases h0 : 0 ≤ z
  · have h1 : up ≤ z := by rw [hu]; split <;> omega
    have h2 : c.1 ≤ up ∧ 0 ≤ up := by rw [hu]; split <;> omega
    cases a with
    | none => have := ha z hz; omega
    | some x =>
      obtain ⟨e, l, m⟩ := ha
      have h3 := m z hz h1
      exact ⟨x, List.mem_append_left _ (inC_mem.2 ⟨rfl, by omega, by omega⟩), e, by unfold keyLe; omega⟩
  · have h1 : z ≤ down := by rw [hd]; split <;> omega
    have h2 : down ≤ c.2 ∧ down ≤ 0 := by rw [hd]; split <;> omega
    cases b with
    | none => have := hb z hz; omega
    | some x =>
      obtain ⟨e, l, m⟩ := hb
      have h3 := m z hz h1
      exact ⟨x, List.mem_append_right _ (inC_mem.2 ⟨rfl, by omega, by omega⟩), e, by unfold keyLe; omega⟩
/-- of one interval: from the number in it that is nearest to 0, up and down -/
theorem near_one {E : Int → Prop} {c : Iv} {f : Int} {a b : Option Int} (hf : f = (if c.2 < (if 0 < c.1 then c.1 else 0) then c.2 else (if 0 < c.1 then c.1 else 0))) (ha : UpOf E f a) (hb : DownOf E f b) {z : Int} (hz : E z) (hc : c.1 ≤ z ∧ z ≤ c.2) :
    ∃ x, x ∈ inC c a ++ inC c b ∧ E x ∧ keyLe x z := by
  have h : (0 < c.1 ∧ f = c.1) ∨ (c.1 ≤ 0 ∧ 0 ≤ c.2 ∧ f = 0) ∨ (c.2 < 0 ∧ f = c.2) := by
    rw [hf]
    by_cases h1 : 0 < c.1
    · rw [if_pos h1]
      split <;> omega
    · rw [if_neg h1]
      split <;> omega
  by_cases hz2 : f ≤ z
  · cases a with
    | none => have := ha z hz; omega
    | some x =>
      obtain ⟨e, l, m⟩ := ha
      have h3 := m z hz hz2
      by_cases h4 : c.2 < 0
      · have : x = z := by omega
        subst this
        exact ⟨x, List.mem_append_left _ (inC_mem.2 ⟨rfl, hc⟩), e, keyLe_refl _⟩
      · exact ⟨x, List.mem_append_left _ (inC_mem.2 ⟨rfl, by omega, by omega⟩), e, by unfold keyLe; omega⟩
  · cases b with
    | none => have := hb z hz; omega
    | some x =>
      obtain ⟨e, l, m⟩ := hb
      have h3 := m z hz (by omega)
      exact ⟨x, List.mem_append_right _ (inC_mem.2 ⟨rfl, by omega, by omega⟩), e, by unfold keyLe; omega⟩
/-! ### a sorted row rises -/
theorem Rise_of {l : List Iv} (h : ∀ i j : Nat, i < j → ∀ a b : Iv, l[i]? = some a → l[j]? = some b → a.1 ≤ b.1) : Rise l := by
  induction l with
  | nil => trivial
  | cons c t ih =>
    refine ⟨fun d hd => ?_, ih fun i j hij a b ha hb => h (i + 1) (j + 1) (by omega) a b (by simpa using ha) (by simpa using hb)⟩
    obtain ⟨k, hk⟩ := List.getElem?_of_mem hd
    exact h 0 (k + 1) (by omega) c d rfl (by simpa using hk)
end Go.Proofs.YtekeedjhaakbhaaGreatDoor
