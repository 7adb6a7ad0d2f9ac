/- Others of the program: plain facts, and what its loop keeps. · Plain facts: the nearest numbers that are exact, or not (from law 2), as XSpanP speaks of them. -/
import Derived.Test.YtekeedjhaakbhaaGreatDoorJON
import Derived.Test.YtekeedjhaakbhaaGreatDoorWhP9
import Derived.Deep.AppendLies
namespace Go.Proofs.YtekeedjhaakbhaaGreatDoor
open Go.RowKit
def tI : Int := (topN : Nat)
theorem tI_lt {z : Int} : z.natAbs < 2 ^ 256 ↔ -tI ≤ z ∧ z ≤ tI := by
  unfold tI
  have : topN = 2 ^ 256 - 1 := by decide +kernel
  omega
/-- a number that there is -/
def inR (z : Int) : Prop := -tI ≤ z ∧ z ≤ tI
theorem Cl.inL (x : Cl) : -tI ≤ x.lo ∧ x.lo ≤ tI := tI_lt.1 x.hl
theorem Cl.inH (x : Cl) : -tI ≤ x.hi ∧ x.hi ≤ tI := tI_lt.1 x.hh
def cutC (fr : Int) (x : Cl) (h : fr.natAbs < 2 ^ 256) (c : fr ≤ x.lo - 1) : Cl := ⟨fr, x.lo - 1, h, tI_lt.2 (by have := tI_lt.1 h; have := x.inL; omega)⟩
def endC (fr : Int) (h : fr.natAbs < 2 ^ 256) : Cl := ⟨fr, tI, h, tI_lt.2 (by unfold tI; omega)⟩
structure OthP (l ks : List Cl) (k : Nat) (fr : Int) : Prop where
  eq : ks.map Cl.iv ++ notL tI fr ((l.drop k).map Cl.iv) = notL tI (-tI) (l.map Cl.iv)
  len : ks.length ≤ k
  b : fr.natAbs < 2 ^ 256
theorem OthP.start (l : List Cl) : OthP l [] 0 (-tI) := ⟨by simp, Nat.le_refl _, tI_lt.2 (by unfold tI; omega)⟩
theorem drop_at {l : List Cl} {k : Nat} {x : Cl} (hx : l[k]? = some x) : l.drop k = x :: l.drop (k + 1) := by
  obtain ⟨h, rfl⟩ := List.getElem?_eq_some_iff.1 hx
  exact List.drop_eq_getElem_cons h
theorem OthP.step {l ks : List Cl} {k : Nat} {fr : Int} {x : Cl} (h : OthP l ks k fr) (hx : l[k]? = some x) :
    (∀ c : fr ≤ x.lo - 1, (x.hi < tI → OthP l (ks ++ [cutC fr x h.b c]) (k + 1) (x.hi + 1)) ∧ (¬ x.hi < tI → (ks ++ [cutC fr x h.b c]).map Cl.iv = notL tI (-tI) (l.map Cl.iv))) ∧
    (¬ fr ≤ x.lo - 1 → (x.hi < tI → OthP l ks (k + 1) (x.hi + 1)) ∧ (¬ x.hi < tI → ks.map Cl.iv = notL tI (-tI) (l.map Cl.iv))) := by
  have e := h.eq
  rw [drop_at hx, List.map_cons, notL] at e
  have hh := x.inH
  refine ⟨fun c => ⟨fun d => ⟨?_, ?_, tI_lt.2 (by omega)⟩, fun d => ?_⟩, fun c => ⟨fun d => ⟨?_, ?_, tI_lt.2 (by omega)⟩, fun d => ?_⟩⟩
  · rw [if_pos (show fr ≤ x.iv.1 - 1 from c), if_pos (show x.iv.2 < tI from d)] at e
    rw [List.map_append, List.append_assoc]
    exact e
  · have := h.len
    rw [List.length_append]
    show ks.length + 1 ≤ k + 1
    omega
  · rw [if_pos (show fr ≤ x.iv.1 - 1 from c), if_neg (show ¬ x.iv.2 < tI from d), List.append_nil] at e
    rw [List.map_append]
    exact e
  · rw [if_neg (show ¬ fr ≤ x.iv.1 - 1 from c), if_pos (show x.iv.2 < tI from d), List.nil_append] at e
    exact e
  · have := h.len
    omega
  · rw [if_neg (show ¬ fr ≤ x.iv.1 - 1 from c), if_neg (show ¬ x.iv.2 < tI from d), List.nil_append, List.append_nil] at e
    exact e
theorem OthP.fin {l ks : List Cl} {k : Nat} {fr : Int} (h : OthP l ks k fr) (hk : k = l.length) : (ks ++ [endC fr h.b]).map Cl.iv = notL tI (-tI) (l.map Cl.iv) := by
  have e := h.eq
  rw [hk, List.drop_length] at e
  rw [List.map_append]
  exact e
theorem oth_set {l ks : List Cl} {P : Int → Prop} (hl : SetF l P) (h : ks.map Cl.iv = notL tI (-tI) (l.map Cl.iv)) : SetF ks (fun z => inR z ∧ ¬ P z) := by
  have hs := notL_spec tI (l.map Cl.iv) (-tI) (by unfold tI; omega) hl.nf (fun c hc => by
    obtain ⟨x, -, rfl⟩ := List.mem_map.1 hc
    exact ⟨x.inL.1, x.inH.2⟩)
  rw [← h] at hs
  exact ⟨hs.1, fun z => (hs.2.2 z).trans (and_congr Iff.rfl (not_congr (hl.mem z)))⟩
theorem oth_prev {x : Cl} {fr : Int} (hb : fr.natAbs < 2 ^ 256) (q : Bool) (z : Int) (hq : nxOk (-1) (sg x.lo) (ab x.lo) = q) (hz : cmpI (sg fr) (ab fr) (sg (nx (-1) (sg x.lo) (ab x.lo))) (ab (nx (-1) (sg x.lo) (ab x.lo))) = z) :
    (q = false → ¬ fr ≤ x.lo - 1) ∧ (q = true → (z ≤ 0 ↔ fr ≤ x.lo - 1) ∧ nx (-1) (sg x.lo) (ab x.lo) = x.lo - 1) := by
  have e : zI (sg x.lo) (ab x.lo) = x.lo := zI_sg _
  have h1 := tI_lt.1 hb
  have h2 := x.inL
  rw [cmpI_sg] at hz
  unfold nx at hz ⊢
  rw [hq, e] at hz
  rw [hq, e]
  unfold nxOk at hq
  rw [mayI_sg, e, Bool.true_and] at hq
  constructor
  · intro c
    rw [c, decide_eq_false_iff_not] at hq
    have h3 : ¬ (x.lo + -1).natAbs < 2 ^ 256 := hq
    rw [tI_lt] at h3
    omega
  · intro c
    rw [c, if_pos rfl] at hz
    subst hz
    rw [c, if_pos rfl]
    refine ⟨?_, by omega⟩
    unfold cmpZ
    split
    · omega
    · split <;> omega
theorem oth_next {x : Cl} (q : Bool) (hq : nxOk 1 (sg x.hi) (ab x.hi) = q) : (q = false → ¬ x.hi < tI) ∧ (q = true → x.hi < tI ∧ nx 1 (sg x.hi) (ab x.hi) = x.hi + 1) := by
  have e : zI (sg x.hi) (ab x.hi) = x.hi := zI_sg _
  have h2 := x.inH
  unfold nx
  rw [hq, e]
  unfold nxOk at hq
  rw [mayI_sg, e, Bool.true_and] at hq
  constructor
  · intro c
    rw [c, decide_eq_false_iff_not] at hq
    have h3 : ¬ (x.hi + 1).natAbs < 2 ^ 256 := hq
    rw [tI_lt] at h3
    omega
  · intro c
    rw [c, decide_eq_true_eq] at hq
    have h3 : (x.hi + 1).natAbs < 2 ^ 256 := hq
    rw [tI_lt] at h3
    rw [c, if_pos rfl]
    exact ⟨by omega, rfl⟩
/-! ### the world -/
theorem gb_below {w1 wr wx : World} {row : Option Nat} (h : w1.grownBy wr row) (hb : Below wr.heap.size wr wx) : w1.grownBy wx row :=
  ⟨hb.os.trans h.os, hb.tape.trans h.tape, hb.output.trans h.output, Nat.le_trans h.size hb.size, fun k hk hne => (hb.block k (Nat.lt_of_lt_of_le hk h.size)).trans (h.block k hk hne)⟩
theorem gb_own {w1 wr wx : World} {row r : Option Nat} (h : w1.grownBy wr row) (hb : wr.grownBy wx r) (hr : ∀ k, r = some k → w1.heap.size ≤ k) : w1.grownBy wx row :=
  ⟨hb.os.trans h.os, hb.tape.trans h.tape, hb.output.trans h.output, Nat.le_trans h.size hb.size, fun k hk hne => (hb.block k (Nat.lt_of_lt_of_le hk h.size) (fun e => by have := hr k e.symm; omega)).trans (h.block k hk hne)⟩
theorem gb_set {w1 wr : World} {E j : Nat} {v : Value} (h : w1.grownBy wr (some E)) : w1.grownBy (wr.setCell ⟨E, j, none⟩ v) (some E) :=
  ⟨h.os, h.tape, h.output, by rw [World.size_setCell]; exact h.size, fun k hk hne => by
    rw [heap_setCell_other wr ⟨E, j, none⟩ k v (fun e => hne (by rw [e]))]
    exact h.block k hk hne⟩
theorem iboxF_grown {w1 w2 : World} {B V : Nat} {n : Bool} {row : Option Nat} (h : IBoxF w1 B n V) (hg : w1.grownBy w2 row) (hne : some B ≠ row) : IBoxF w2 B n V :=
  ⟨⟨hg.cell h.b.c0 hne, hg.cell h.b.c1 hne, hg.cell h.b.c2 hne, hg.cell h.b.c3 hne, hg.cell h.b.c4 hne, Nat.lt_of_lt_of_le h.b.l hg.size⟩,
    by rw [hg.frozen_far ⟨B, 0, none⟩ h.b.l hne]; exact h.f0, by rw [hg.frozen_far ⟨B, 1, none⟩ h.b.l hne]; exact h.f1, by rw [hg.frozen_far ⟨B, 2, none⟩ h.b.l hne]; exact h.f2, by rw [hg.frozen_far ⟨B, 3, none⟩ h.b.l hne]; exact h.f3, by rw [hg.frozen_far ⟨B, 4, none⟩ h.b.l hne]; exact h.f4⟩
theorem k10_grown {w1 w2 : World} {B : Nat} {n m : Bool} {V U : Nat} {row : Option Nat} (h : K10 w1 B n V m U) (hg : w1.grownBy w2 row) (hne : some B ≠ row) : K10 w2 B n V m U := by
  obtain ⟨h0, h1, h2, h3, h4, h5, h6, h7, h8, h9⟩ := h.all
  exact ⟨hg.cell h0 hne, hg.cell h1 hne, hg.cell h2 hne, hg.cell h3 hne, hg.cell h4 hne, hg.cell h5 hne, hg.cell h6 hne, hg.cell h7 hne, hg.cell h8 hne, hg.cell h9 hne⟩
/-- what the loop of Others keeps: w1 the world ahead of it, E the block of 'from' -/
structure OthI (w1 wr : World) (E : Nat) (v : Value) (ks : List Cl) (fr : Int) : Prop where
  o : wr.ownsRow w1.heap.size 51 10 v ks.length (encs ks)
  g : w1.grownBy wr (some E)
  a : IBoxF wr E (sg fr) (ab fr)
  l : E + 1 < w1.heap.size
theorem OthI.drop {w1 wr wx : World} {E : Nat} {v : Value} {ks : List Cl} {fr : Int} (h : OthI w1 wr E v ks fr) (hb : Below wr.heap.size wr wx) : OthI w1 wx E v ks fr :=
  ⟨own_below h.o hb, gb_below h.g hb, h.a.below hb, h.l⟩
theorem OthI.keep {w1 wr wx w2 : World} {E m : Nat} {v v' : Value} {ks : List Cl} {fr : Int} {x : Cl} (h : OthI w1 wr E v ks fr) (hb : Below wr.heap.size wr wx) (hm : m = ks.length + 1)
    (h2 : w2.ownsRow w1.heap.size 51 10 v' m (encs ks ++ x.enc)) (hg : wx.grownBy w2 v.ownBlock) : OthI w1 w2 E v' (ks ++ [x]) fr := by
  subst hm
  have h' := h.drop hb
  have hv : ∀ k, v.ownBlock = some k → w1.heap.size ≤ k := fun k hk => (h.o.lt k hk).1
  refine ⟨by rw [encs_app, List.length_append]; exact h2, gb_own h'.g hg hv, iboxF_grown h'.a hg (fun e => ?_), h.l⟩
  have := hv E e.symm
  have := h.l
  omega
theorem OthI.put {w1 wr : World} {E V : Nat} {m : Bool} {v : Value} {ks : List Cl} {fr fr' : Int} (h : OthI w1 wr E v ks fr) (h1 : m = sg fr') (h2 : V = ab fr') :
    OthI w1 (((((wr.setCell ⟨E, 0, none⟩ (.bool m)).setCell ⟨E, 1, none⟩ (.int .u64 (lm V 0 : Nat))).setCell ⟨E, 2, none⟩ (.int .u64 (lm V 1 : Nat))).setCell ⟨E, 3, none⟩ (.int .u64 (lm V 2 : Nat))).setCell ⟨E, 4, none⟩ (.int .u64 (lm V 3 : Nat))) E v ks fr' := by
  subst h1 h2
  have hl := h.l
  have hs : ∀ {w2 : World} {j : Nat} {u : Value}, w2.ownsRow w1.heap.size 51 10 v ks.length (encs ks) → (w2.setCell ⟨E, j, none⟩ u).ownsRow w1.heap.size 51 10 v ks.length (encs ks) :=
    fun h2 => ownsRow_setCell_below h2 (show E < w1.heap.size by omega) _
  exact ⟨hs (hs (hs (hs (hs h.o)))), gb_set (gb_set (gb_set (gb_set (gb_set h.g)))), h.a.set, hl⟩
end Go.Proofs.YtekeedjhaakbhaaGreatDoor

namespace Go.Proofs.YtekeedjhaakbhaaGreatDoor
open Go.RowKit
theorem ex_val {up n : Bool} {V : Nat} (h : mayI n V = true) : exOk up n V = decide (exV V (up != n) < 2 ^ 256) := by unfold exOk; rw [h, Bool.true_and]
/-- the exact ones above and below -/
theorem ex_up {z : Int} (hz : ab z < 2 ^ 256) (b : Int) (hb : ab b < 2 ^ 256) (hx : exZ b = true) (h : z ≤ b) : exOk true (sg z) (ab z) = true ∧ ex true (sg z) (ab z) ≤ b := by
  have hxN : exN (ab b) := of_decide_eq_true hx
  have ok := ex_val (up := true) (may_z z)
  have hz3 := z_z z
  have lt : ∀ o : Bool, exV (ab z) o < 2 ^ 256 → exOk true (sg z) (ab z) = decide (exV (ab z) (true != sg z) < 2 ^ 256) := fun _ _ => ok
  cases hs : sg z with
  | false =>
    have hz0 : 0 ≤ z := by
      have := of_decide_eq_false hs
      omega
    have hab : ab z ≤ ab b := by unfold ab; omega
    have hle : exV (ab z) true ≤ ab b := by
      unfold exV
      split
      · rename_i c
        exact gap_least hxN hab c.2
      · have := cut_le (ab z)
        omega
    have o : exOk true false (ab z) = true := by
      rw [hs] at ok
      rw [ok]
      exact decide_eq_true (Nat.lt_of_le_of_lt hle hb)
    refine ⟨o, ?_⟩
    have e : ex true false (ab z) = (exV (ab z) true : Nat) := by
      unfold ex
      rw [if_pos o]
      rfl
    rw [e]
    have : (ab b : Int) = b := by unfold ab; omega
    omega
  | true =>
    have hz0 : z < 0 := of_decide_eq_true hs
    have hv : exV (ab z) false = cutV (ab z) := rfl
    have o : exOk true true (ab z) = true := by
      rw [hs] at ok
      rw [ok]
      exact decide_eq_true (Nat.lt_of_le_of_lt (cut_le _) hz)
    refine ⟨o, ?_⟩
    have e : ex true true (ab z) = -(cutV (ab z) : Int) := by
      unfold ex
      rw [if_pos o]
      rfl
    rw [e]
    by_cases c : 0 ≤ b
    · omega
    · have := cut_greatest hxN (show ab b ≤ ab z by unfold ab; omega)
      have e2 : (ab b : Int) = -b := by unfold ab; omega
      omega
theorem ex_down {z : Int} (hz : ab z < 2 ^ 256) (b : Int) (hb : ab b < 2 ^ 256) (hx : exZ b = true) (h : b ≤ z) : exOk false (sg z) (ab z) = true ∧ b ≤ ex false (sg z) (ab z) := by
  have hxN : exN (ab b) := of_decide_eq_true hx
  have ok := ex_val (up := false) (may_z z)
  cases hs : sg z with
  | true =>
    have hz0 : z < 0 := of_decide_eq_true hs
    have hab : ab z ≤ ab b := by unfold ab; omega
    have hle : exV (ab z) true ≤ ab b := by
      unfold exV
      split
      · rename_i c
        exact gap_least hxN hab c.2
      · have := cut_le (ab z)
        omega
    have o : exOk false true (ab z) = true := by
      rw [hs] at ok
      rw [ok]
      exact decide_eq_true (Nat.lt_of_le_of_lt hle hb)
    refine ⟨o, ?_⟩
    have e : ex false true (ab z) = -(exV (ab z) true : Int) := by
      unfold ex
      rw [if_pos o]
      rfl
    rw [e]
    have : (ab b : Int) = -b := by unfold ab; omega
    omega
  | false =>
    have hz0 : 0 ≤ z := by
      have := of_decide_eq_false hs
      omega
    have o : exOk false false (ab z) = true := by
      rw [hs] at ok
      rw [ok]
      exact decide_eq_true (Nat.lt_of_le_of_lt (cut_le _) hz)
    refine ⟨o, ?_⟩
    have e : ex false false (ab z) = (cutV (ab z) : Nat) := by
      unfold ex
      rw [if_pos o]
      rfl
    rw [e]
    by_cases c : b ≤ 0
    · omega
    · have := cut_greatest hxN (show ab b ≤ ab z by unfold ab; omega)
      have e2 : (ab b : Int) = b := by unfold ab; omega
      omega
theorem ex_is {up : Bool} {z : Int} (o : exOk up (sg z) (ab z) = true) : ab (ex up (sg z) (ab z)) < 2 ^ 256 ∧ exZ (ex up (sg z) (ab z)) = true ∧ (up = true → z ≤ ex up (sg z) (ab z)) ∧ (up = false → ex up (sg z) (ab z) ≤ z) := by
  have ok := ex_val (up := up) (may_z z)
  have e : ex up (sg z) (ab z) = zI (sg z) (exV (ab z) (up != sg z)) := if_pos o
  have hlt : exV (ab z) (up != sg z) < 2 ^ 256 := of_decide_eq_true (ok.symm.trans o)
  rw [e, ab_zI]
  refine ⟨hlt, ?_, fun h => ?_, fun h => ?_⟩
  · unfold exZ
    rw [ab_zI]
    exact decide_eq_true (exV_ex _ _)
  · subst h
    cases hs : sg z with
    | false =>
      rw [zI_false]
      have hz0 : 0 ≤ z := by
        have := of_decide_eq_false hs
        omega
      have : (ab z : Int) = z := by unfold ab; omega
      have k : ab z ≤ exV (ab z) true := by
        unfold exV
        have := cut_lt (ab z)
        have := cut_le (ab z)
        split
        · omega
        · rename_i c
          have : cutV (ab z) = ab z := Classical.not_not.1 fun h => c ⟨rfl, h⟩
          omega
      show z ≤ ((exV (ab z) true : Nat) : Int)
      omega
    | true =>
      rw [zI_true]
      have hz0 : z < 0 := of_decide_eq_true hs
      have : (ab z : Int) = -z := by unfold ab; omega
      have k := cut_le (ab z)
      show z ≤ -((cutV (ab z) : Nat) : Int)
      omega
  · subst h
    cases hs : sg z with
    | true =>
      rw [zI_true]
      have hz0 : z < 0 := of_decide_eq_true hs
      have : (ab z : Int) = -z := by unfold ab; omega
      have k : ab z ≤ exV (ab z) true := by
        unfold exV
        have := cut_lt (ab z)
        have := cut_le (ab z)
        split
        · omega
        · rename_i c
          have : cutV (ab z) = ab z := Classical.not_not.1 fun h => c ⟨rfl, h⟩
          omega
      show -((exV (ab z) true : Nat) : Int) ≤ z
      omega
    | false =>
      rw [zI_false]
      have hz0 : 0 ≤ z := by
        have := of_decide_eq_false hs
        omega
      have : (ab z : Int) = z := by unfold ab; omega
      have k := cut_le (ab z)
      show ((cutV (ab z) : Nat) : Int) ≤ z
      omega
/-- the others above and below -/
theorem rg_is {z : Int} (hz : ab z < 2 ^ 256) : (ab (rgZ true z) < 2 ^ 256 ∧ exZ (rgZ true z) = false ∧ z ≤ rgZ true z) ∧ (ab (rgZ false z) < 2 ^ 256 ∧ exZ (rgZ false z) = false ∧ rgZ false z ≤ z) := by
  have N : ∀ x : Int, 9007199254740992 < ab x → ab x % 2 = 1 → exZ x = false := fun x h1 h2 => by
    rw [← Bool.not_eq_true]
    intro h
    have := exZ_even h h1
    omega
  unfold rgZ
  by_cases hx : exZ z = true
  · rw [if_pos hx, if_pos hx, if_pos rfl, if_neg Bool.false_ne_true]
    have he := fun h => exZ_even hx h
    have hm := exZ_max hx hz
    constructor
    · by_cases c : -9007199254740992 ≤ z ∧ z < 9007199254740992
      · rw [if_pos c]
        exact ⟨by decide, by decide, by omega⟩
      · rw [if_neg c]
        have k := @ab_step z 1 (.inl rfl)
        refine ⟨by omega, ?_, by omega⟩
        unfold ab at *
        exact N _ (by omega) (by omega)
    · by_cases c : -9007199254740992 < z ∧ z ≤ 9007199254740992
      · rw [if_pos c]
        exact ⟨by decide, by decide, by omega⟩
      · rw [if_neg c]
        have k := @ab_step z (-1) (.inr rfl)
        refine ⟨by omega, ?_, by omega⟩
        unfold ab at *
        exact N _ (by omega) (by omega)
  · rw [if_neg hx, if_neg hx]
    have hx2 : exZ z = false := by simpa using hx
    exact ⟨⟨hz, hx2, Int.le_refl _⟩, ⟨hz, hx2, Int.le_refl _⟩⟩
theorem rg_near {z b : Int} (hb : exZ b = false) : (z ≤ b → rgZ true z ≤ b) ∧ (b ≤ z → b ≤ rgZ false z) := by
  have hS : 9007199254740992 < ab b := by
    by_cases c : 9007199254740992 < ab b
    · exact c
    · exact absurd (exZ_small (z := b) (by omega)) (by rw [hb]; exact Bool.false_ne_true)
  unfold ab at hS
  unfold rgZ
  constructor
  · intro h
    by_cases hx : exZ z = true
    · rw [if_pos hx, if_pos rfl]
      have hne : z ≠ b := fun e => by rw [e, hb] at hx; exact Bool.false_ne_true hx
      split <;> omega
    · rw [if_neg hx]
      exact h
  · intro h
    by_cases hx : exZ z = true
    · rw [if_pos hx, if_neg Bool.false_ne_true]
      have hne : z ≠ b := fun e => by rw [e, hb] at hx; exact Bool.false_ne_true hx
      split <;> omega
    · rw [if_neg hx]
      exact h
/-- the nearest exact one, if there is one -/
def eo (up : Bool) (z : Int) : Option Int := if exOk up (sg z) (ab z) = true then some (ex up (sg z) (ab z)) else none
theorem inR_ab {z : Int} : inR z ↔ ab z < 2 ^ 256 := tI_lt.symm
theorem eo_up {z : Int} (hz : inR z) : UpOf (fun b => inR b ∧ exZ b = true) z (eo true z) := by
  have hz' := inR_ab.1 hz
  unfold eo
  by_cases c : exOk true (sg z) (ab z) = true
  · rw [if_pos c]
    have h := ex_is (up := true) c
    exact ⟨⟨inR_ab.2 h.1, h.2.1⟩, h.2.2.1 rfl, fun b hb hzb => (ex_up hz' b (inR_ab.1 hb.1) hb.2 hzb).2⟩
  · rw [if_neg c]
    intro b hb
    by_cases d : z ≤ b
    · exact absurd (ex_up hz' b (inR_ab.1 hb.1) hb.2 d).1 c
    · omega
theorem eo_down {z : Int} (hz : inR z) : DownOf (fun b => inR b ∧ exZ b = true) z (eo false z) := by
  have hz' := inR_ab.1 hz
  unfold eo
  by_cases c : exOk false (sg z) (ab z) = true
  · rw [if_pos c]
    have h := ex_is (up := false) c
    exact ⟨⟨inR_ab.2 h.1, h.2.1⟩, h.2.2.2 rfl, fun b hb hzb => (ex_down hz' b (inR_ab.1 hb.1) hb.2 hzb).2⟩
  · rw [if_neg c]
    intro b hb
    by_cases d : b ≤ z
    · exact absurd (ex_down hz' b (inR_ab.1 hb.1) hb.2 d).1 c
    · omega
theorem ro_up {z : Int} (hz : inR z) : UpOf (fun b => inR b ∧ exZ b = false) z (some (rgZ true z)) := by
  have h := (rg_is (inR_ab.1 hz)).1
  exact ⟨⟨inR_ab.2 h.1, h.2.1⟩, h.2.2, fun b hb hzb => (rg_near hb.2).1 hzb⟩
theorem ro_down {z : Int} (hz : inR z) : DownOf (fun b => inR b ∧ exZ b = false) z (some (rgZ false z)) := by
  have h := (rg_is (inR_ab.1 hz)).2
  exact ⟨⟨inR_ab.2 h.1, h.2.1⟩, h.2.2, fun b hb hzb => (rg_near hb.2).2 hzb⟩
/-- what is asked for: exact ones, others, both -/
def want (ex ro : Bool) (b : Int) : Prop := ex = true ∧ exZ b = true ∨ ro = true ∧ exZ b = false
def upX (x : Cl) : Int := if x.lo < 0 then 0 else x.lo
def dnX (x : Cl) : Int := if 0 < x.hi then 0 else x.hi
/-- what Any tries of an interval -/
def candX (ex ro : Bool) (x : Cl) : List Int :=
  (if ex = true then inC x.iv (eo true (upX x)) ++ inC x.iv (eo false (dnX x)) else []) ++ (if ro = true then inC x.iv (some (rgZ true (upX x))) ++ inC x.iv (some (rgZ false (dnX x))) else [])
theorem upX_in (x : Cl) : inR (upX x) := by
  have := x.inL
  unfold upX inR
  split <;> unfold tI at * <;> omega
theorem dnX_in (x : Cl) : inR (dnX x) := by
  have := x.inH
  unfold dnX inR
  split <;> unfold tI at * <;> omega
theorem cand_is {ex ro : Bool} {x : Cl} {a : Int} (h : a ∈ candX ex ro x) : (x.lo ≤ a ∧ a ≤ x.hi) ∧ want ex ro a := by
  unfold candX at h
  rcases List.mem_append.1 h with h | h
  · cases ex with
    | false => rw [if_neg Bool.false_ne_true] at h; cases h
    | true =>
      rw [if_pos rfl] at h
      rcases List.mem_append.1 h with h | h
      · obtain ⟨e, h1, h2⟩ := inC_mem.1 h
        have hu := eo_up (upX_in x)
        rw [e] at hu
        exact ⟨⟨h1, h2⟩, .inl ⟨rfl, hu.1.2⟩⟩
      · obtain ⟨e, h1, h2⟩ := inC_mem.1 h
        have hu := eo_down (dnX_in x)
        rw [e] at hu
        exact ⟨⟨h1, h2⟩, .inl ⟨rfl, hu.1.2⟩⟩
  · cases ro with
    | false => rw [if_neg Bool.false_ne_true] at h; cases h
    | true =>
      rw [if_pos rfl] at h
      rcases List.mem_append.1 h with h | h
      · obtain ⟨e, h1, h2⟩ := inC_mem.1 h
        have hu := ro_up (upX_in x)
        rw [e] at hu
        exact ⟨⟨h1, h2⟩, .inr ⟨rfl, hu.1.2⟩⟩
      · obtain ⟨e, h1, h2⟩ := inC_mem.1 h
        have hu := ro_down (dnX_in x)
        rw [e] at hu
        exact ⟨⟨h1, h2⟩, .inr ⟨rfl, hu.1.2⟩⟩
theorem cand_best {ex ro : Bool} {x : Cl} {z : Int} (h : x.lo ≤ z ∧ z ≤ x.hi) (hw : want ex ro z) : ∃ a, a ∈ candX ex ro x ∧ keyLe a z := by
  have hz : inR z := ⟨by have := x.inL; omega, by have := x.inH; omega⟩
  unfold candX
  rcases hw with ⟨rfl, hx⟩ | ⟨rfl, hx⟩
  · obtain ⟨a, h1, -, h3⟩ := near_two (c := x.iv) (up := upX x) (down := dnX x) rfl rfl (eo_up (upX_in x)) (eo_down (dnX_in x)) (z := z) ⟨hz, hx⟩ h
    exact ⟨a, List.mem_append_left _ (by rw [if_pos rfl]; exact h1), h3⟩
  · obtain ⟨a, h1, -, h3⟩ := near_two (c := x.iv) (up := upX x) (down := dnX x) rfl rfl (ro_up (upX_in x)) (ro_down (dnX_in x)) (z := z) ⟨hz, hx⟩ h
    exact ⟨a, List.mem_append_right _ (by rw [if_pos rfl]; exact h1), h3⟩
/-- the answer of Any -/
def anyS (ex ro : Bool) (l : List Cl) : Option Int := (l.flatMap (candX ex ro)).foldl pickS none
theorem anyS_best (ex ro : Bool) (l : List Cl) : IsBest (fun z => MemL (l.map Cl.iv) z ∧ want ex ro z) (anyS ex ro l) := by
  refine best_of (fun a ha => ?_) (fun z hz => ?_)
  · obtain ⟨x, hx, ha⟩ := List.mem_flatMap.1 ha
    have h := cand_is ha
    exact ⟨⟨x.iv, List.mem_map.2 ⟨x, hx, rfl⟩, h.1⟩, h.2⟩
  · obtain ⟨⟨c, hc, h1, h2⟩, hw⟩ := hz
    obtain ⟨x, hx, rfl⟩ := List.mem_map.1 hc
    obtain ⟨a, ha, hk⟩ := cand_best (x := x) ⟨h1, h2⟩ hw
    exact ⟨a, List.mem_flatMap.2 ⟨x, hx, ha⟩, hk⟩
end Go.Proofs.YtekeedjhaakbhaaGreatDoor
