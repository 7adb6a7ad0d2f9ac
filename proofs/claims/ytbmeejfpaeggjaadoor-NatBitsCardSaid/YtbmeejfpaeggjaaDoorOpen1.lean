/- Opening and shutting an argument that is a number, without a sign, of api. -/
import Derived.Test.YtbmeejfpaeggjaaDoorFrame1
import Derived.Laws.IdiomArrays
namespace Go.Proofs.YtbmeejfpaeggjaaDoor
open Go.ChangeShapes Go.WideShapes Go.ChangeAt Go.RowKit
theorem cellsNat4 : Tryd.prog.cellsOf 24 = 4 := by kernel_rfl
theorem cellsU1 : Tryd.prog.cellsOf 22 = 1 := by kernel_rfl
theorem cellsB1 : Tryd.prog.cellsOf 4 = 1 := by kernel_rfl
theorem list4' {α : Type} (l : List α) (h : (⟨l⟩ : Array α).size = 4) : ∃ a b c d, l = [a, b, c, d] := by
  match l, h with
  | [a, b, c, d], _ => exact ⟨a, b, c, d, rfl⟩
section
variable {H : Type} {enc : TypeId × Value → H} {W : World} {base : Nat} {sp : Nat → Bool} {v : Value} {d : DataW H} {ps : List MemPlace}
theorem okWide_arr {P : Program} {w : World} {r : Reach} {b0 n : Nat} {t e : TypeId} {v : Value} (ht : P.underlying t = some (.array n e)) (h : Value.okWide P w r b0 t v) : ∃ cs, v = .agg cs ∧ cs.size = P.cellsOf t := by
  simp only [Value.okWide, ht] at h
  obtain ⟨cs, h1, h2, _⟩ := h
  exact ⟨cs, h1, h2⟩
/-- what a number reads as -/
def datN (V : Nat) : DataW H := .agg [.lit (.int .u64 (lm V 0 : Nat)), .lit (.int .u64 (lm V 1 : Nat)), .lit (.int .u64 (lm V 2 : Nat)), .lit (.int .u64 (lm V 3 : Nat))]
theorem open_apiNat (hval : Value.okWide Tryd.prog W .any base 24 v) (h : DataW.Trod enc Tryd.prog W 0 sp true 24 v d ps) :
    ∃ V, V < 2 ^ 256 ∧ v = .agg #[.int .u64 (lm (V) 0 : Nat), .int .u64 (lm (V) 1 : Nat), .int .u64 (lm (V) 2 : Nat), .int .u64 (lm (V) 3 : Nat)] ∧ d = datN V ∧ ps = [] := by
  obtain ⟨cs, rfl, hsz⟩ := okWide_arr Tryd.underlying24 hval
  rw [cellsNat4] at hsz
  obtain ⟨l⟩ := cs
  obtain ⟨c0, c1, c2, c3, rfl⟩ := list4' l hsz
  obtain ⟨fuel, hf⟩ := h
  obtain ⟨z0, z1, z2, z3, m, hz, hy0, hy1, hy2, hy3⟩ := trod_array4 Tryd.underlying24 cellsU1 hf
  obtain ⟨x0, e1, rfl, w0⟩ := DataW.trod_int Tryd.underlying22 hy0
  obtain ⟨x1, e2, rfl, w1⟩ := DataW.trod_int Tryd.underlying22 hy1
  obtain ⟨x2, e3, rfl, w2⟩ := DataW.trod_int Tryd.underlying22 hy2
  obtain ⟨x3, e4, rfl, w3⟩ := DataW.trod_int Tryd.underlying22 hy3
  simp at e1 e2 e3 e4
  subst e1 e2 e3 e4
  obtain ⟨a0, rfl, l0⟩ := u64_wf w0
  obtain ⟨a1, rfl, l1⟩ := u64_wf w1
  obtain ⟨a2, rfl, l2⟩ := u64_wf w2
  obtain ⟨a3, rfl, l3⟩ := u64_wf w3
  obtain ⟨m0, m1, m2, m3⟩ := lm_of4 l0 l1 l2 l3
  simp only [Prod.mk.injEq] at hz
  obtain ⟨rfl, rfl⟩ := hz
  refine ⟨of4 a0 a1 a2 a3, of4_lt l0 l1 l2 l3, ?_, ?_, ?_⟩
  · rw [m0, m1, m2, m3]
  · unfold datN
    rw [m0, m1, m2, m3]
  · simp
theorem shut_apiNat (V : Nat) : DataW.Trod enc Tryd.prog W 0 sp true 24 (.agg #[.int .u64 (lm (V) 0 : Nat), .int .u64 (lm (V) 1 : Nat), .int .u64 (lm (V) 2 : Nat), .int .u64 (lm (V) 3 : Nat)]) (datN V) [] := by
  have w : ∀ i, (Lit.int .u64 (lm V i : Nat)).wf = true := by
    intro i
    have := lm_lt V i
    simp [Lit.wf, IntKind.bits, IntKind.signed, IntKind.min, IntKind.max]
    omega
  refine ⟨3, ?_⟩
  unfold datN
  simp [DataW.trod, Value.cells, Tryd.underlying24, Tryd.underlying22, cellsNat4, cellsU1, w, List.range, List.range.loop]
end
end Go.Proofs.YtbmeejfpaeggjaaDoor
