/- A row of ints that came in, opened. -/
import Derived.Test.YtekeedjhaakbhaaDoorFrS
namespace Go.Proofs.YtekeedjhaakbhaaDoor
open Go.ChangeShapes Go.WideShapes Go.ChangeAt Go.RowKit
/-- a row of ints in the world -/
structure IRow (w : World) (a : Option Addr) (n c : Nat) (L : Nat → Int) : Prop where
  l : n ≤ c
  lc : c ≤ maxLen
  c : n = 0 ∨ ∃ b off, a = some ⟨b, off, none⟩ ∧ b < w.heap.size ∧ ∀ i, i < n → w.cell? ⟨b, off + i, none⟩ = some (.int .i64 (L i))
  o : ∀ i, i < n → -9223372036854775808 ≤ L i ∧ L i < 9223372036854775808
theorem IRow.below {w w' : World} {a : Option Addr} {n c : Nat} {L : Nat → Int} (h : IRow w a n c L) (hb : Below w.heap.size w w') : IRow w' a n c L :=
  ⟨h.l, h.lc, by
    rcases h.c with h1 | ⟨b, off, e, hl, hc⟩
    · exact .inl h1
    · exact .inr ⟨b, off, e, Nat.lt_of_lt_of_le hl hb.size, fun i hi => by rw [hb.cell (p := ⟨b, off + i, none⟩) hl]; exact hc i hi⟩, h.o⟩
section
variable {H : Type} {enc : TypeId × Value → H} {W : World} {sp : Nat → Bool} {base : Nat}
set_option maxRecDepth 20000 in
/-- an argument that is a row of ints -/
theorem open_irow {v : Value} {d : DataW H} {ps : List MemPlace} (hval : Value.okWide Tryd.prog W .any base 39 v) (h : DataW.Trod enc Tryd.prog W 0 sp true 39 v d ps) :
    ∃ (a : Option Addr) (n c : Nat) (L : Nat → Int), v = .slice a n c ∧ IRow W a n c L := by
  obtain ⟨a, len, cap, rfl⟩ := okWide_slice Tryd.underlying39 hval
  obtain ⟨fuel, hf⟩ := h
  rcases DataW.trod_slice Tryd.underlying39 hf with ⟨h8, -⟩ | ⟨a, len, cap, elems, rest, n2, hn2, h8, -, -, hlc, hcm, hel, hel2, -, -⟩
  · simp [Value.cells] at h8
    obtain ⟨rfl, rfl, rfl⟩ := h8
    exact ⟨none, 0, 0, fun _ => 0, rfl, Nat.le_refl _, Nat.zero_le _, .inl rfl, fun i hi => by omega⟩
  · simp [Value.cells] at h8
    obtain ⟨rfl, rfl, rfl⟩ := h8
    rw [cellsI1] at hel2
    have hex : ∀ i, ∃ z : Int, i < len → (-9223372036854775808 ≤ z ∧ z < 9223372036854775808) ∧ W.cell? (a.add i) = some (.int .i64 z) := by
      intro i
      by_cases hi : i < len
      · have h1 := hel2 i hi
        have h2 : ∃ y, elems[i]? = some y := ⟨elems[i]'(by omega), List.getElem?_eq_getElem (by omega)⟩
        obtain ⟨y, hy⟩ := h2
        rw [hy, Option.bind_eq_some_iff, Nat.mul_one] at h1
        obtain ⟨cs, hcs, hty⟩ := h1
        obtain ⟨z, rfl, -, wf⟩ := DataW.trod_int Tryd.underlying3 hty
        obtain ⟨-, -, hc⟩ := World.cells?_some hcs
        have h0 := hc 0 (by omega)
        have e : (a.add i).add 0 = a.add i := by unfold Addr.add; simp
        rw [e] at h0
        exact ⟨z, fun _ => ⟨i64_wf wf, h0⟩⟩
      · exact ⟨0, fun h => absurd h hi⟩
    refine ⟨some a, len, cap, fun i => Classical.choose (hex i), rfl, hlc, hcm, ?_, fun i hi => (Classical.choose_spec (hex i) hi).1⟩
    by_cases h0 : len = 0
    · exact .inl h0
    · obtain ⟨ha, hb⟩ := addr_spot (Classical.choose_spec (hex 0) (by omega)).2
      refine .inr ⟨a.block, a.off, by rw [← ha], hb, fun i hi => ?_⟩
      have h6 := (Classical.choose_spec (hex i) hi).2
      generalize Classical.choose (hex i) = z at h6 ⊢
      rw [addr_one' ha] at h6
      exact h6
end
end Go.Proofs.YtekeedjhaakbhaaDoor
