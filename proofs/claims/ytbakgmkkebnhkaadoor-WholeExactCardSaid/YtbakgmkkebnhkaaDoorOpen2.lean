/- Opening and shutting an argument that is a number, with or without a sign, of api. -/
import Derived.Test.YtbakgmkkebnhkaaDoorFrame1
import Derived.Laws.IdiomArrays
namespace Go.Proofs.YtbakgmkkebnhkaaDoor
open Go.ChangeShapes Go.WideShapes Go.ChangeAt Go.RowKit
theorem cellsInt5 : Tryd.prog.cellsOf 26 = 5 := by kernel_rfl
theorem cellsNat4 : Tryd.prog.cellsOf 24 = 4 := by kernel_rfl
theorem cellsU1 : Tryd.prog.cellsOf 22 = 1 := by kernel_rfl
theorem cellsB1 : Tryd.prog.cellsOf 4 = 1 := by kernel_rfl
theorem list5 {α : Type} (l : List α) (h : (⟨l⟩ : Array α).size = 5) : ∃ a b c d e, l = [a, b, c, d, e] := by
  match l, h with
  | [a, b, c, d, e], _ => exact ⟨a, b, c, d, e, rfl⟩
theorem list4' {α : Type} (l : List α) (h : (⟨l⟩ : Array α).size = 4) : ∃ a b c d, l = [a, b, c, d] := by
  match l, h with
  | [a, b, c, d], _ => exact ⟨a, b, c, d, rfl⟩
section
variable {H : Type} {enc : TypeId × Value → H} {W : World} {base : Nat} {sp : Nat → Bool} {v : Value} {d : DataW H} {ps : List MemPlace}
/-- what a number with a sign reads as -/
def datI (neg : Bool) (V : Nat) : DataW H := .agg [.lit (.bool neg), .agg [.lit (.int .u64 (lm V 0 : Nat)), .lit (.int .u64 (lm V 1 : Nat)), .lit (.int .u64 (lm V 2 : Nat)), .lit (.int .u64 (lm V 3 : Nat))]]
set_option maxRecDepth 20000 in
theorem open_apiInt (hval : Value.okWide Tryd.prog W .any base 26 v) (h : DataW.Trod enc Tryd.prog W 0 sp true 26 v d ps) :
    ∃ neg V, V < 2 ^ 256 ∧ v = .agg #[.bool (neg ), .int .u64 (lm ( V) 0 : Nat), .int .u64 (lm ( V) 1 : Nat), .int .u64 (lm ( V) 2 : Nat), .int .u64 (lm ( V) 3 : Nat)] ∧ d = datI neg V ∧ ps = [] := by
  obtain ⟨cs, rfl, hsz⟩ := okWide_struct Tryd.underlying26 hval
  rw [cellsInt5] at hsz
  obtain ⟨l⟩ := cs
  obtain ⟨c0, c1, c2, c3, c4, rfl⟩ := list5 l hsz
  obtain ⟨fuel, hf⟩ := h
  obtain ⟨y0, y1, n, hx, _, t0, t1⟩ := trod_struct2 Tryd.underlying26 hf
  simp only [cellsB1, cellsNat4, Value.cells, List.drop, List.take] at t0 t1
  obtain ⟨neg, e0, rfl⟩ := DataW.trod_bool Tryd.underlying4 t0
  obtain ⟨z0, z1, z2, z3, m, hz, hy0, hy1, hy2, hy3⟩ := trod_array4 Tryd.underlying24 cellsU1 t1
  obtain ⟨x0, e1, rfl, w0⟩ := DataW.trod_int Tryd.underlying22 hy0
  obtain ⟨x1, e2, rfl, w1⟩ := DataW.trod_int Tryd.underlying22 hy1
  obtain ⟨x2, e3, rfl, w2⟩ := DataW.trod_int Tryd.underlying22 hy2
  obtain ⟨x3, e4, rfl, w3⟩ := DataW.trod_int Tryd.underlying22 hy3
  simp at e0 e1 e2 e3 e4
  subst e0 e1 e2 e3 e4
  obtain ⟨a0, rfl, l0⟩ := u64_wf w0
  obtain ⟨a1, rfl, l1⟩ := u64_wf w1
  obtain ⟨a2, rfl, l2⟩ := u64_wf w2
  obtain ⟨a3, rfl, l3⟩ := u64_wf w3
  obtain ⟨m0, m1, m2, m3⟩ := lm_of4 l0 l1 l2 l3
  subst hz
  simp only [Prod.mk.injEq] at hx
  obtain ⟨rfl, rfl⟩ := hx
  refine ⟨neg, of4 a0 a1 a2 a3, of4_lt l0 l1 l2 l3, ?_, ?_, ?_⟩
  · rw [m0, m1, m2, m3]
  · unfold datI
    rw [m0, m1, m2, m3]
  · simp
set_option maxRecDepth 20000 in
theorem shut_apiInt (neg : Bool) (V : Nat) : DataW.Trod enc Tryd.prog W 0 sp true 26 (.agg #[.bool (neg ), .int .u64 (lm ( V) 0 : Nat), .int .u64 (lm ( V) 1 : Nat), .int .u64 (lm ( V) 2 : Nat), .int .u64 (lm ( V) 3 : Nat)]) (datI neg V) [] := by
  have w : ∀ i, (Lit.int .u64 (lm V i : Nat)).wf = true := by
    intro i
    have := lm_lt V i
    simp [Lit.wf, IntKind.bits, IntKind.signed, IntKind.min, IntKind.max]
    omega
  refine ⟨3, ?_⟩
  unfold datI
  simp [DataW.trod, Value.cells, Tryd.underlying26, Tryd.underlying24, Tryd.underlying22, Tryd.underlying4, cellsInt5, cellsNat4, cellsU1, cellsB1, w, List.range, List.range.loop]
end
end Go.Proofs.YtbakgmkkebnhkaaDoor
