/- A value that came in, opened into its tree. -/
import Derived.Test.YtminijokbeclhaaDoorCounts
import Derived.SliceStrings
import Derived.Laws.IdiomArrays
import Derived.WalkKit
import Derived.ProofKit
namespace Go.Proofs.YtminijokbeclhaaDoor
open Go.ChangeShapes Go.WideShapes Go.ChangeAt Go.RowKit
theorem u64_wf {n : Int} (h : (Lit.int .u64 n).wf = true) : ∃ m : Nat, n = m ∧ m < 18446744073709551616 := by
  simp [Lit.wf, IntKind.bits, IntKind.signed, IntKind.min, IntKind.max] at h
  exact ⟨n.toNat, by omega, by omega⟩
theorem i64_wf {n : Int} (h : (Lit.int .i64 n).wf = true) : -9223372036854775808 ≤ n ∧ n < 9223372036854775808 := by
  simp [Lit.wf, IntKind.bits, IntKind.signed, IntKind.min, IntKind.max] at h
  omega
theorem cellsVal10 : Tryd.prog.cellsOf 30 = 10 := by kernel_rfl
theorem cellsStr1 : Tryd.prog.cellsOf 9 = 1 := by kernel_rfl
theorem cellsSV1 : Tryd.prog.cellsOf 27 = 1 := by kernel_rfl
theorem cellsSS1 : Tryd.prog.cellsOf 28 = 1 := by kernel_rfl
theorem cellsI1 : Tryd.prog.cellsOf 3 = 1 := by kernel_rfl
theorem cellsInt5 : Tryd.prog.cellsOf 26 = 5 := by kernel_rfl
theorem cellsNat4 : Tryd.prog.cellsOf 24 = 4 := by kernel_rfl
theorem cellsU1 : Tryd.prog.cellsOf 22 = 1 := by kernel_rfl
theorem cellsB1 : Tryd.prog.cellsOf 4 = 1 := by kernel_rfl
theorem list10 {α : Type} (l : List α) (h : l.length = 10) : ∃ a b c d e f g i j k, l = [a, b, c, d, e, f, g, i, j, k] := by
  match l, h with
  | [a, b, c, d, e, f, g, i, j, k], _ => exact ⟨a, b, c, d, e, f, g, i, j, k, rfl⟩
theorem list6 {α : Type} (l : List α) (h : l.length = 6) : ∃ a b c d e f, l = [a, b, c, d, e, f] := by
  match l, h with
  | [a, b, c, d, e, f], _ => exact ⟨a, b, c, d, e, f, rfl⟩
theorem addr_row {b off i j : Nat} : ((⟨b, off, none⟩ : Addr).add i).add j = ⟨b, off + i + j, none⟩ := by
  unfold Addr.add
  split <;> split <;> simp_all <;> omega
theorem addr_one {b off i : Nat} : (⟨b, off, none⟩ : Addr).add i = ⟨b, off + i, none⟩ := by
  unfold Addr.add
  split <;> simp_all
theorem addr_spot {w : World} {a : Addr} {v : Value} (h : w.cell? (a.add 0) = some v) : a = ⟨a.block, a.off, none⟩ ∧ a.block < w.heap.size := by
  have h0 : a.add 0 = a := by unfold Addr.add; rw [if_pos rfl]
  rw [h0] at h
  have hs := World.cell?_spot h
  obtain ⟨b, o, s⟩ := a
  simp only at hs
  subst hs
  exact ⟨rfl, World.block_lt_of_cell? w _ h⟩
theorem addr_row' {a : Addr} {i j : Nat} (h : a = ⟨a.block, a.off, none⟩) : (a.add i).add j = ⟨a.block, a.off + i + j, none⟩ := by
  obtain ⟨b, o, s⟩ := a
  simp only [Addr.mk.injEq, true_and] at h
  subst h
  exact addr_row
theorem addr_one' {a : Addr} {i : Nat} (h : a = ⟨a.block, a.off, none⟩) : a.add i = ⟨a.block, a.off + i, none⟩ := by
  obtain ⟨b, o, s⟩ := a
  simp only [Addr.mk.injEq, true_and] at h
  subst h
  exact addr_one
section
variable {H : Type} {enc : TypeId × Value → H} {W : World} {sp : Nat → Bool} {base : Nat}
set_option maxRecDepth 20000 in
theorem open_VT : ∀ (fuel : Nat) (cs : List Value) (x : DataW H × List MemPlace), DataW.trod enc Tryd.prog W 0 sp true fuel 30 cs = some x → ∃ T : VT, T.cells = cs ∧ T.In W := by
  intro fuel
  induction fuel using Nat.strongRecOn with
  | _ fuel ih =>
    intro cs x h
    obtain ⟨xs, n, rfl, rfl, hlen, hxl, hf⟩ := DataW.trod_struct Tryd.underlying30 h
    rw [cellsVal10] at hlen
    obtain ⟨c0, c1, c2, c3, c4, c5, c6, c7, c8, c9, rfl⟩ := list10 cs hlen
    obtain ⟨x0, x1, x2, x3, x4, x5, rfl⟩ := list6 xs hxl
    have t0 : DataW.trod enc Tryd.prog W 0 sp true n 3 (([c0, c1, c2, c3, c4, c5, c6, c7, c8, c9].drop 0).take (Tryd.prog.cellsOf 3)) = some x0 := hf 0 _ rfl
    have t1 : DataW.trod enc Tryd.prog W 0 sp true n 26 (([c0, c1, c2, c3, c4, c5, c6, c7, c8, c9].drop 1).take (Tryd.prog.cellsOf 26)) = some x1 := hf 1 _ rfl
    have t2 : DataW.trod enc Tryd.prog W 0 sp true n 22 (([c0, c1, c2, c3, c4, c5, c6, c7, c8, c9].drop 6).take (Tryd.prog.cellsOf 22)) = some x2 := hf 2 _ rfl
    have t3 : DataW.trod enc Tryd.prog W 0 sp true n 9 (([c0, c1, c2, c3, c4, c5, c6, c7, c8, c9].drop 7).take (Tryd.prog.cellsOf 9)) = some x3 := hf 3 _ rfl
    have t4 : DataW.trod enc Tryd.prog W 0 sp true n 27 (([c0, c1, c2, c3, c4, c5, c6, c7, c8, c9].drop 8).take (Tryd.prog.cellsOf 27)) = some x4 := hf 4 _ rfl
    have t5 : DataW.trod enc Tryd.prog W 0 sp true n 28 (([c0, c1, c2, c3, c4, c5, c6, c7, c8, c9].drop 9).take (Tryd.prog.cellsOf 28)) = some x5 := hf 5 _ rfl
    simp only [cellsI1, cellsInt5, cellsU1, cellsStr1, cellsSV1, cellsSS1, List.drop_succ_cons, List.drop_zero, List.take_succ_cons, List.take_zero] at t0 t1 t2 t3 t4 t5
    obtain ⟨kind, ek, hk0, wk⟩ := DataW.trod_int Tryd.underlying3 t0
    obtain ⟨yn, yi, n1, hx1, -, u0, u1⟩ := trod_struct2 Tryd.underlying26 t1
    simp only [cellsB1, cellsNat4, List.drop_succ_cons, List.drop_zero, List.take_succ_cons, List.take_zero] at u0 u1
    obtain ⟨neg, e1, -⟩ := DataW.trod_bool Tryd.underlying4 u0
    obtain ⟨z0, z1, z2, z3, m, hz, hy0, hy1, hy2, hy3⟩ := trod_array4 Tryd.underlying24 cellsU1 u1
    obtain ⟨v0, e2, -, w0⟩ := DataW.trod_int Tryd.underlying22 hy0
    obtain ⟨v1, e3, -, w1⟩ := DataW.trod_int Tryd.underlying22 hy1
    obtain ⟨v2, e4, -, w2⟩ := DataW.trod_int Tryd.underlying22 hy2
    obtain ⟨v3, e5, -, w3⟩ := DataW.trod_int Tryd.underlying22 hy3
    obtain ⟨bits, e6, -, w6⟩ := DataW.trod_int Tryd.underlying22 t2
    obtain ⟨text, e7, -, w7⟩ := DataW.trod_string Tryd.underlying9 t3
    simp at ek e1 e2 e3 e4 e5 e6 e7
    subst ek e1 e2 e3 e4 e5 e6 e7
    obtain ⟨a0, rfl, l0⟩ := u64_wf w0
    obtain ⟨a1, rfl, l1⟩ := u64_wf w1
    obtain ⟨a2, rfl, l2⟩ := u64_wf w2
    obtain ⟨a3, rfl, l3⟩ := u64_wf w3
    obtain ⟨bt, rfl, l6⟩ := u64_wf w6
    obtain ⟨m0, m1, m2, m3⟩ := lm_of4 l0 l1 l2 l3
    have hV := of4_lt l0 l1 l2 l3
    have hkind := i64_wf wk
    have hLs : ∃ (aL : Option Addr) (nL cL : Nat) (kids : Nat → VT), c8 = .slice aL nL cL ∧ nL ≤ cL ∧ cL ≤ maxLen ∧ (nL = 0 ∨ ∃ b off, aL = some ⟨b, off, none⟩ ∧ b < W.heap.size ∧ ∀ i, i < nL → ∀ j, j < 10 → W.cell? ⟨b, off + i * 10 + j, none⟩ = (kids i).cells[j]?) ∧ ∀ i, i < nL → (kids i).In W := by
      rcases DataW.trod_slice Tryd.underlying27 t4 with ⟨h8, -⟩ | ⟨a, len, cap, elems, rest, n2, hn2, h8, -, -, hlc, hcm, hel, hel2, -, -⟩
      · simp at h8
        exact ⟨none, 0, 0, fun _ => .nil, h8, Nat.le_refl _, Nat.zero_le _, .inl rfl, fun i hi => by omega⟩
      · simp at h8
        rw [cellsVal10] at hel2
        have hex : ∀ i, ∃ T : VT, i < len → T.In W ∧ ∀ j, j < 10 → W.cell? ((a.add (i * 10)).add j) = T.cells[j]? := by
          intro i
          by_cases hi : i < len
          · have h1 := hel2 i hi
            have h2 : ∃ y, elems[i]? = some y := ⟨elems[i]'(by omega), List.getElem?_eq_getElem (by omega)⟩
            obtain ⟨y, hy⟩ := h2
            rw [hy, Option.bind_eq_some_iff] at h1
            obtain ⟨cs, hcs, hty⟩ := h1
            obtain ⟨T, hT, hin⟩ := ih n2 (by omega) cs y hty
            obtain ⟨-, -, hc⟩ := World.cells?_some hcs
            exact ⟨T, fun _ => ⟨hin, fun j hj => by rw [hT]; exact hc j hj⟩⟩
          · exact ⟨.nil, fun h => absurd h hi⟩
        refine ⟨some a, len, cap, fun i => Classical.choose (hex i), h8, hlc, hcm, ?_, fun i hi => (Classical.choose_spec (hex i) hi).1⟩
        by_cases h0 : len = 0
        · exact .inl h0
        · obtain ⟨h1, h2⟩ := Classical.choose_spec (hex 0) (by omega)
          have h3 := h2 0 (by omega)
          have h4 : ∃ v, (Classical.choose (hex 0)).cells[0]? = some v := by
            generalize Classical.choose (hex 0) = T at h1
            cases T with
            | nil => exact h1.elim
            | mk => exact ⟨_, rfl⟩
          obtain ⟨v, hv⟩ := h4
          rw [hv] at h3
          have h5 : W.cell? (a.add 0) = some v := by
            have e : (a.add (0 * 10)).add 0 = a.add 0 := by unfold Addr.add; simp
            rwa [e] at h3
          obtain ⟨ha, hb⟩ := addr_spot h5
          refine .inr ⟨a.block, a.off, by rw [← ha], hb, fun i hi j hj => ?_⟩
          have h6 := (Classical.choose_spec (hex i) hi).2 j hj
          rw [addr_row' ha] at h6
          exact h6
    have hKs : ∃ (aK : Option Addr) (nK cK : Nat) (keys : Nat → ByteArray), c9 = .slice aK nK cK ∧ nK ≤ cK ∧ cK ≤ maxLen ∧ (nK = 0 ∨ ∃ b off, aK = some ⟨b, off, none⟩ ∧ b < W.heap.size ∧ ∀ i, i < nK → W.cell? ⟨b, off + i, none⟩ = some (.string (keys i)) ∧ (keys i).size ≤ maxLen) := by
      rcases open_strings Tryd.underlying28 Tryd.underlying9 cellsStr1 t5 with ⟨h9, -⟩ | ⟨a, len, cap, ss, h9, -, hlc, hcm, hss, -, hcell, hsz⟩
      · simp at h9
        exact ⟨none, 0, 0, fun _ => ⟨#[]⟩, h9, Nat.le_refl _, Nat.zero_le _, .inl rfl⟩
      · simp at h9
        have hl : len ≤ ss.length := by
          rw [hss]
          split <;> omega
        refine ⟨some a, len, cap, fun i => ss.getD i ByteArray.empty, h9, hlc, hcm, ?_⟩
        by_cases h0 : len = 0
        · exact .inl h0
        · obtain ⟨ha, hb⟩ := addr_spot (hcell 0 (by omega))
          refine .inr ⟨a.block, a.off, by rw [← ha], hb, fun i hi => ⟨?_, ?_⟩⟩
          · have h6 := hcell i (by omega)
            rw [addr_one' ha] at h6
            exact h6
          · have hi2 : i < ss.length := by omega
            show (ss.getD i ByteArray.empty).size ≤ maxLen
            rw [List.getD_eq_getElem?_getD, List.getElem?_eq_getElem hi2]
            exact hsz _ (List.getElem_mem hi2)
    obtain ⟨aL, nL, cL, kids, rfl, q1, q2, q3, q4⟩ := hLs
    obtain ⟨aK, nK, cK, keys, rfl, q5, q6, q7⟩ := hKs
    refine ⟨.mk kind neg (of4 a0 a1 a2 a3) bt text aL nL cL kids aK nK cK keys, ?_, ⟨⟨hkind.1, hkind.2, hV, l6, w7, q1, q2, q5, q6⟩, q3, q4, q7⟩⟩
    simp only [VT.cells]
    rw [m0, m1, m2, m3]
set_option maxRecDepth 20000 in
/-- an argument that is a value -/
theorem open_val {v : Value} {d : DataW H} {ps : List MemPlace} (hval : Value.okWide Tryd.prog W .any base 30 v) (h : DataW.Trod enc Tryd.prog W 0 sp true 30 v d ps) : ∃ T : VT, v = T.agg ∧ T.In W := by
  obtain ⟨cs, rfl, hsz⟩ := okWide_struct Tryd.underlying30 hval
  obtain ⟨fuel, hf⟩ := h
  obtain ⟨T, hT, hin⟩ := open_VT fuel _ _ hf
  refine ⟨T, ?_, hin⟩
  unfold VT.agg
  rw [hT]
  simp [Value.cells]
set_option maxRecDepth 20000 in
/-- an argument that is a slice of values -/
theorem open_vals {v : Value} {d : DataW H} {ps : List MemPlace} (hval : Value.okWide Tryd.prog W .any base 27 v) (h : DataW.Trod enc Tryd.prog W 0 sp true 27 v d ps) : ∃ (aL : Option Addr) (nL cL : Nat) (kids : Nat → VT), v = .slice aL nL cL ∧ LIn W aL nL cL kids := by
  obtain ⟨a, len, cap, rfl⟩ := okWide_slice Tryd.underlying27 hval
  obtain ⟨fuel, hf⟩ := h
  rcases DataW.trod_slice Tryd.underlying27 hf with ⟨h8, -⟩ | ⟨a, len, cap, elems, rest, n2, hn2, h8, -, -, hlc, hcm, hel, hel2, -, -⟩
  · simp [Value.cells] at h8
    obtain ⟨rfl, rfl, rfl⟩ := h8
    exact ⟨none, 0, 0, fun _ => .nil, rfl, Nat.le_refl _, Nat.zero_le _, .inl rfl, fun i hi => by omega⟩
  · simp [Value.cells] at h8
    obtain ⟨rfl, rfl, rfl⟩ := h8
    rw [cellsVal10] at hel2
    have hex : ∀ i, ∃ T : VT, i < len → T.In W ∧ ∀ j, j < 10 → W.cell? ((a.add (i * 10)).add j) = T.cells[j]? := by
      intro i
      by_cases hi : i < len
      · have h1 := hel2 i hi
        have h2 : ∃ y, elems[i]? = some y := ⟨elems[i]'(by omega), List.getElem?_eq_getElem (by omega)⟩
        obtain ⟨y, hy⟩ := h2
        rw [hy, Option.bind_eq_some_iff] at h1
        obtain ⟨cs, hcs, hty⟩ := h1
        obtain ⟨T, hT, hin⟩ := open_VT n2 cs y hty
        obtain ⟨-, -, hc⟩ := World.cells?_some hcs
        exact ⟨T, fun _ => ⟨hin, fun j hj => by rw [hT]; exact hc j hj⟩⟩
      · exact ⟨.nil, fun h => absurd h hi⟩
    refine ⟨some a, len, cap, fun i => Classical.choose (hex i), rfl, hlc, hcm, ?_, fun i hi => (Classical.choose_spec (hex i) hi).1⟩
    by_cases h0 : len = 0
    · exact .inl h0
    · obtain ⟨h1, h2⟩ := Classical.choose_spec (hex 0) (by omega)
      have h3 := h2 0 (by omega)
      have h4 : ∃ v, (Classical.choose (hex 0)).cells[0]? = some v := by
        generalize Classical.choose (hex 0) = T at h1
        cases T with
        | nil => exact h1.elim
        | mk => exact ⟨_, rfl⟩
      obtain ⟨v, hv⟩ := h4
      rw [hv] at h3
      have h5 : W.cell? (a.add 0) = some v := by
        have e : (a.add (0 * 10)).add 0 = a.add 0 := by unfold Addr.add; simp
        rwa [e] at h3
      obtain ⟨ha, hb⟩ := addr_spot h5
      refine .inr ⟨a.block, a.off, by rw [← ha], hb, fun i hi j hj => ?_⟩
      have h6 := (Classical.choose_spec (hex i) hi).2 j hj
      rw [addr_row' ha] at h6
      exact h6
end
end Go.Proofs.YtminijokbeclhaaDoor
