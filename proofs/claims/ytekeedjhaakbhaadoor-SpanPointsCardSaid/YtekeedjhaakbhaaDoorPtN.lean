/- Plain facts for SpanPoints: the points, their row of spans, the least of them. -/
import Derived.Test.YtekeedjhaakbhaaDoorPtO
import Derived.Test.YtekeedjhaakbhaaDoorPtS
import Derived.Test.YtekeedjhaakbhaaDoorHasL
namespace Go.Proofs.YtekeedjhaakbhaaDoor
open Go Go.RowKit
def ptN (z : Int) : Nat := (IntKind.u64.wrap z % 60).toNat
theorem ptN_lt (z : Int) : ptN z < 60 := by
  have := Int.emod_lt_of_pos (IntKind.u64.wrap z) (show (0 : Int) < 60 by decide)
  have := Int.emod_nonneg (IntKind.u64.wrap z) (show (60 : Int) ≠ 0 by decide)
  unfold ptN
  omega
theorem ptN_eq (z : Int) : wrap64 ((IntKind.u64.wrap z).tmod 60) = (ptN z : Int) := by
  have h0 : 0 ≤ IntKind.u64.wrap z := by rw [IntKind.wrap_u64]; omega
  have e : (IntKind.u64.wrap z).tmod 60 = IntKind.u64.wrap z % 60 := Int.tmod_eq_emod_of_nonneg h0
  have h1 := Int.emod_nonneg (IntKind.u64.wrap z) (show (60 : Int) ≠ 0 by decide)
  have h2 := Int.emod_lt_of_pos (IntKind.u64.wrap z) (show (0 : Int) < 60 by decide)
  rw [e]
  unfold ptN wrap64
  omega
/-- the spans of the first k points -/
def ptL (L : Nat → Int) : Nat → List Sp
  | 0 => []
  | k + 1 => ptL L k ++ [twoS (ptN (L k)) (ptN (L k))]
/-- is a point there, as the law's table has it -/
def inB (L : Nat → Int) : Nat → Nat → Bool
  | 0, _ => false
  | k + 1, j => inB L k j || decide (j = ptN (L k) + 2)
theorem ptL_len (L : Nat → Int) (k : Nat) : (ptL L k).length = k := by
  induction k with
  | zero => rfl
  | succ k ih => simp only [ptL]; rw [List.length_append, ih]; rfl
theorem ptL_mem {L : Nat → Int} {k : Nat} {s : Sp} : s ∈ ptL L k ↔ ∃ i, i < k ∧ s = twoS (ptN (L i)) (ptN (L i)) := by
  induction k with
  | zero => exact ⟨fun h => (by cases h), fun ⟨i, hi, _⟩ => by omega⟩
  | succ k ih =>
    simp only [ptL]
    rw [List.mem_append, ih, List.mem_singleton]
    constructor
    · rintro (⟨i, hi, h⟩ | h)
      · exact ⟨i, by omega, h⟩
      · exact ⟨k, by omega, h⟩
    · rintro ⟨i, hi, h⟩
      by_cases e : i = k
      · subst e; exact .inr h
      · exact .inl ⟨i, by omega, h⟩
theorem inB_iff {L : Nat → Int} {k j : Nat} : inB L k j = true ↔ ∃ i, i < k ∧ j = ptN (L i) + 2 := by
  induction k with
  | zero => exact ⟨fun h => (by cases h), fun ⟨i, hi, _⟩ => by omega⟩
  | succ k ih =>
    simp only [inB, Bool.or_eq_true, decide_eq_true_eq]
    rw [ih]
    constructor
    · rintro (⟨i, hi, h⟩ | h)
      · exact ⟨i, by omega, h⟩
      · exact ⟨k, by omega, h⟩
    · rintro ⟨i, hi, h⟩
      by_cases e : i = k
      · subst e; exact .inr h
      · exact .inl ⟨i, by omega, h⟩
theorem twoS_lt {p : Nat} (h : p < 60) : (twoS p p).vl < 2 ^ 256 ∧ (twoS p p).vh < 2 ^ 256 := by
  unfold twoS ab
  simp only
  exact ⟨by omega, by omega⟩
theorem ptL_in {L : Nat → Int} {k : Nat} : ∀ s ∈ ptL L k, s.vl < 2 ^ 256 ∧ s.vh < 2 ^ 256 := fun s hs => by
  obtain ⟨i, -, rfl⟩ := ptL_mem.1 hs
  exact twoS_lt (ptN_lt _)
theorem ptL_ins {L : Nat → Int} {k : Nat} {z : Int} : InS (nthS (ptL L k)) (ptL L k).length z ↔ ∃ j : Nat, inB L k j = true ∧ (j : Int) = z + 2 := by
  constructor
  · rintro ⟨i, hi, h1, h2⟩
    obtain ⟨t, ht, e⟩ := ptL_mem.1 (List.mem_of_getElem? (nth_get hi))
    rw [e, twoS_iv] at h1 h2
    exact ⟨ptN (L t) + 2, inB_iff.2 ⟨t, ht, rfl⟩, by simp only at h1 h2; omega⟩
  · rintro ⟨j, hj, e⟩
    obtain ⟨t, ht, rfl⟩ := inB_iff.1 hj
    obtain ⟨i, hi, e2⟩ := List.getElem_of_mem (ptL_mem.2 ⟨t, ht, rfl⟩)
    refine ⟨i, hi, ?_⟩
    have e3 : nthS (ptL L k) i = twoS (ptN (L t)) (ptN (L t)) := Option.some.inj ((nth_get hi).symm.trans ((List.getElem?_eq_getElem hi).trans (congrArg some e2)))
    rw [e3, twoS_iv]
    simp only
    omega
theorem ptL_may {L : Nat → Int} {k : Nat} (hk : k ≤ 30) : mayR (nthS (ptL L k)) (ptL L k).length = true := by
  refine mayR_mk (by rw [ptL_len]; omega) fun i hi => ?_
  obtain ⟨t, -, e⟩ := ptL_mem.1 (List.mem_of_getElem? (nth_get hi))
  rw [e]
  exact twoS_may _ _
theorem inB_lo {L : Nat → Int} {k j : Nat} (h : inB L k j = true) : 2 ≤ j ∧ j < 62 := by
  obtain ⟨i, -, rfl⟩ := inB_iff.1 h
  have := ptN_lt (L i)
  omega
theorem inB_get {L : Nat → Int} {k n : Nat} : InS (nthS (ptL L k)) (ptL L k).length ((n : Int) - 2) ↔ inB L k n = true := by
  rw [ptL_ins]
  constructor
  · rintro ⟨j, hj, e⟩
    obtain rfl : j = n := by omega
    exact hj
  · intro h
    exact ⟨n, h, by omega⟩
/-- the least point that has been seen from above, or -1 -/
def lwV (D : Nat → Bool) : Nat → Int
  | 0 => -1
  | t + 1 => if D (63 - t) = true then ((63 - t : Nat) : Int) - 2 else lwV D t
theorem lwV_spec (D : Nat → Bool) : ∀ t, t ≤ 62 → (lwV D t = -1 ∧ ∀ j, 63 - t < j → j ≤ 63 → D j = false) ∨ ∃ j, 63 - t < j ∧ j ≤ 63 ∧ D j = true ∧ lwV D t = (j : Int) - 2 ∧ ∀ i, 63 - t < i → i < j → D i = false := by
  intro t
  induction t with
  | zero => exact fun _ => .inl ⟨rfl, fun j h1 h2 => by omega⟩
  | succ t ih =>
    intro ht
    simp only [lwV]
    by_cases c : D (63 - t) = true
    · rw [if_pos c]
      exact .inr ⟨63 - t, by omega, by omega, c, rfl, fun i h1 h2 => by omega⟩
    · rw [if_neg c]
      have c' : D (63 - t) = false := by simpa using c
      rcases ih (by omega) with ⟨h1, h2⟩ | ⟨j, h1, h2, h3, h4, h5⟩
      · refine .inl ⟨h1, fun j g1 g2 => ?_⟩
        by_cases e : j = 63 - t
        · rw [e]; exact c'
        · exact h2 j (by omega) g2
      · refine .inr ⟨j, by omega, h2, h3, h4, fun i g1 g2 => ?_⟩
        by_cases e : i = 63 - t
        · rw [e]; exact c'
        · exact h5 i (by omega) g2
def lwO (D : Nat → Bool) : Option Int := if 0 ≤ lwV D 62 then some (lwV D 62) else none
theorem lwO_is {L : Nat → Int} {k : Nat} (hk : k ≤ 30) : PickO (nthS (ptL L k)) (ptL L k).length true true (lwO (inB L k)) := by
  have hw : ∀ z, want true true z := fun z => by
    unfold want
    cases exZ z
    · exact .inr ⟨rfl, rfl⟩
    · exact .inl ⟨rfl, rfl⟩
  unfold PickO lwO
  rcases lwV_spec (inB L k) 62 (by omega) with ⟨h1, h2⟩ | ⟨j, h1, h2, h3, h4, h5⟩
  · rw [if_neg (by omega)]
    intro z hz
    obtain ⟨j, hj, e⟩ := ptL_ins.1 hz.2.1
    have := inB_lo hj
    rw [h2 j (by omega) (by omega)] at hj
    cases hj
  · rw [if_pos (by omega)]
    have hlo := inB_lo h3
    refine ⟨⟨ptL_may hk, ptL_ins.2 ⟨j, h3, by omega⟩, hw _⟩, fun z hz => ?_⟩
    obtain ⟨i, hi, e⟩ := ptL_ins.1 hz.2.1
    have hi2 := inB_lo hi
    have hij : j ≤ i := by
      by_cases c : j ≤ i
      · exact c
      · rw [h5 i (by omega) (by omega)] at hi
        cases hi
    unfold keyLe
    omega
theorem pt_runs {L : Nat → Int} {k : Nat} {l : List Cl} (h : SetF l (InS (nthS (ptL L k)) (ptL L k).length)) : l.length = cntS (inB L k) 64 := by
  have hb : ∀ c ∈ l.map Cl.iv, ∃ j : Nat, 2 ≤ j ∧ j < 62 ∧ (j : Int) = c.1 + 2 := fun c hc => by
    have hm : MemL (l.map Cl.iv) c.1 := ⟨c, hc, Int.le_refl _, NF_ok h.nf c hc⟩
    obtain ⟨j, hj, e⟩ := ptL_ins.1 ((h.mem _).1 hm)
    have := inB_lo hj
    exact ⟨j, this.1, this.2, e⟩
  have e := runs_len h.nf (inB L k) 64 (fun n _ => (h.mem _).trans inB_get) (by
    rw [← Bool.not_eq_true]
    intro h0
    have := inB_lo h0
    omega) (fun c hc => by obtain ⟨j, h1, h2, h3⟩ := hb c hc; omega) (fun c hc => by obtain ⟨j, h1, h2, h3⟩ := hb c hc; omega)
  rwa [List.length_map] at e
theorem pt_has {L : Nat → Int} {k n : Nat} (hk : k ≤ 30) : hasB (nthS (ptL L k)) (ptL L k).length (sg ((n : Int) - 2)) (ab ((n : Int) - 2)) = inB L k n := by
  rw [Bool.eq_iff_iff, hasB_iff, zI_sg, inB_get]
  exact ⟨fun h => h.2.2, fun h => ⟨ptL_may hk, mayI_sg _, h⟩⟩
end Go.Proofs.YtekeedjhaakbhaaDoor
