/- Rows of spans, numbers with a sign, rows of ints that came in, opened. · The frame of law 9's cards: one table, a world for the witness, the post of a function that only reads its arguments. -/
import Derived.Test.YtekeedjhaakbhaaGreatDoorClB
import Derived.SliceStrings
import Derived.Laws.IdiomArrays
import Derived.Lib.SmallJoins
import Derived.Deep.Slices
import Derived.WalkKit
import Derived.ProofKit
import Derived.Test.YtekeedjhaakbhaaGreatDoorCards
import Derived.Test.YtekeedjhaakbhaaGreatDoorTie
import Derived.OpenShut
import Derived.Deep.DeepHandedRow
import Derived.Lib.LaidTab
import Derived.Carry
import Derived.ChangeOld
namespace Go.Proofs.YtekeedjhaakbhaaGreatDoor
open Go.ChangeShapes Go.WideShapes Go.ChangeAt Go.RowKit
theorem u64_wf {n : Int} (h : (Lit.int .u64 n).wf = true) : ∃ m : Nat, n = m ∧ m < 18446744073709551616 := by
  simp [Lit.wf, IntKind.bits, IntKind.signed, IntKind.min, IntKind.max] at h
  exact ⟨n.toNat, by omega, by omega⟩
theorem i64_wf {n : Int} (h : (Lit.int .i64 n).wf = true) : -9223372036854775808 ≤ n ∧ n < 9223372036854775808 := by
  simp [Lit.wf, IntKind.bits, IntKind.signed, IntKind.min, IntKind.max] at h
  omega
theorem cellsSp12 : Tryz.prog.cellsOf 37 = 12 := by kernel_rfl
theorem cellsInt5 : Tryz.prog.cellsOf 29 = 5 := by kernel_rfl
theorem cellsNat4 : Tryz.prog.cellsOf 27 = 4 := by kernel_rfl
theorem cellsU1 : Tryz.prog.cellsOf 25 = 1 := by kernel_rfl
theorem cellsB1 : Tryz.prog.cellsOf 4 = 1 := by kernel_rfl
theorem cellsI1 : Tryz.prog.cellsOf 3 = 1 := by kernel_rfl
theorem list5 {α : Type} (l : List α) (h : l.length = 5) : ∃ a b c d e, l = [a, b, c, d, e] := by
  match l, h with
  | [a, b, c, d, e], _ => exact ⟨a, b, c, d, e, rfl⟩
theorem list12 {α : Type} (l : List α) (h : l.length = 12) : ∃ a b c d e f g i j k m n, l = [a, b, c, d, e, f, g, i, j, k, m, n] := by
  match l, h with
  | [a, b, c, d, e, f, g, i, j, k, m, n], _ => exact ⟨a, b, c, d, e, f, g, i, j, k, m, n, rfl⟩
theorem addr_row {b off i j : Nat} : ((⟨b, off, none⟩ : Addr).add i).add j = ⟨b, off + i + j, none⟩ := by
  unfold Addr.add
  split <;> split <;> simp_all <;> omega
theorem addr_one {b off i : Nat} : (⟨b, off, none⟩ : Addr).add i = ⟨b, off + i, none⟩ := by
  unfold Addr.add
  split <;> simp_all
theorem addr_spot {w : World} {a : Addr} {v : Value} (h : w.cell? (a.add 0) = some v) : a = ⟨a.block, a.off, none⟩ ∧ a.block < w.heap.size := by
  have h0 : a.add 0 = a := by unfold Addr.add; rw [if_pos rfl]
  rw [h0] at h
  have hs := World.cell?_spot h
  obtain ⟨b, o, s⟩ := a
  simp only at hs
  subst hs
  exact ⟨rfl, World.block_lt_of_cell? w _ h⟩
theorem addr_row' {a : Addr} {i j : Nat} (h : a = ⟨a.block, a.off, none⟩) : (a.add i).add j = ⟨a.block, a.off + i + j, none⟩ := by
  obtain ⟨b, o, s⟩ := a
  simp only [Addr.mk.injEq, true_and] at h
  subst h
  exact addr_row
theorem addr_one' {a : Addr} {i : Nat} (h : a = ⟨a.block, a.off, none⟩) : a.add i = ⟨a.block, a.off + i, none⟩ := by
  obtain ⟨b, o, s⟩ := a
  simp only [Addr.mk.injEq, true_and] at h
  subst h
  exact addr_one
section
variable {H : Type} {enc : TypeId × Value → H} {W : World} {sp : Nat → Bool} {base : Nat}
set_option maxRecDepth 20000 in
theorem open_int5 {fuel : Nat} {cs : List Value} {x : DataW H × List MemPlace} (h : DataW.trod enc Tryz.prog W 0 sp true fuel 29 cs = some x) :
    ∃ (neg : Bool) (V : Nat), V < 2 ^ 256 ∧ cs = [.bool neg, .int .u64 (lm V 0 : Nat), .int .u64 (lm V 1 : Nat), .int .u64 (lm V 2 : Nat), .int .u64 (lm V 3 : Nat)] := by
  obtain ⟨yn, yi, n1, hx1, hlen, u0, u1⟩ := trod_struct2 Tryz.underlying29 h
  rw [cellsInt5] at hlen
  obtain ⟨c0, c1, c2, c3, c4, rfl⟩ := list5 cs hlen
  simp only [cellsB1, cellsNat4, List.drop_succ_cons, List.drop_zero, List.take_succ_cons, List.take_zero] at u0 u1
  obtain ⟨neg, e1, -⟩ := DataW.trod_bool Tryz.underlying4 u0
  obtain ⟨z0, z1, z2, z3, m, hz, hy0, hy1, hy2, hy3⟩ := trod_array4 Tryz.underlying27 cellsU1 u1
  obtain ⟨v0, e2, -, w0⟩ := DataW.trod_int Tryz.underlying25 hy0
  obtain ⟨v1, e3, -, w1⟩ := DataW.trod_int Tryz.underlying25 hy1
  obtain ⟨v2, e4, -, w2⟩ := DataW.trod_int Tryz.underlying25 hy2
  obtain ⟨v3, e5, -, w3⟩ := DataW.trod_int Tryz.underlying25 hy3
  simp at e1 e2 e3 e4 e5
  subst e1 e2 e3 e4 e5
  obtain ⟨a0, rfl, l0⟩ := u64_wf w0
  obtain ⟨a1, rfl, l1⟩ := u64_wf w1
  obtain ⟨a2, rfl, l2⟩ := u64_wf w2
  obtain ⟨a3, rfl, l3⟩ := u64_wf w3
  obtain ⟨m0, m1, m2, m3⟩ := lm_of4 l0 l1 l2 l3
  exact ⟨neg, of4 a0 a1 a2 a3, of4_lt l0 l1 l2 l3, by rw [m0, m1, m2, m3]⟩
set_option maxRecDepth 20000 in
/-- an argument that is a number with a sign -/
theorem open_apiInt {v : Value} {d : DataW H} {ps : List MemPlace} (hval : Value.okWide Tryz.prog W .any base 29 v) (h : DataW.Trod enc Tryz.prog W 0 sp true 29 v d ps) : ∃ (neg : Bool) (V : Nat), V < 2 ^ 256 ∧ v = .agg #[.bool (neg ), .int .u64 (lm ( V) 0 : Nat), .int .u64 (lm ( V) 1 : Nat), .int .u64 (lm ( V) 2 : Nat), .int .u64 (lm ( V) 3 : Nat)] := by
  obtain ⟨cs, rfl, hsz⟩ := okWide_struct Tryz.underlying29 hval
  obtain ⟨fuel, hf⟩ := h
  obtain ⟨neg, V, hV, e⟩ := open_int5 hf
  refine ⟨neg, V, hV, ?_⟩
  obtain ⟨l⟩ := cs
  have e2 : l = _ := e
  rw [e2]
set_option maxRecDepth 20000 in
theorem open_span {fuel : Nat} {cs : List Value} {x : DataW H × List MemPlace} (h : DataW.trod enc Tryz.prog W 0 sp true fuel 37 cs = some x) :
    ∃ s : Sp, cs = s.cells ∧ s.vl < 2 ^ 256 ∧ s.vh < 2 ^ 256 := by
  obtain ⟨y0, y1, y2, y3, n, -, hlen, t0, t1, t2, t3⟩ := Go.Joins.trod_struct4 Tryz.underlying37 h
  rw [cellsSp12] at hlen
  obtain ⟨c0, c1, c2, c3, c4, c5, c6, c7, c8, c9, b0, b1, rfl⟩ := list12 cs hlen
  simp only [cellsB1, cellsInt5, List.drop_succ_cons, List.drop_zero, List.take_succ_cons, List.take_zero] at t0 t1 t2 t3
  obtain ⟨hl, e0, -⟩ := DataW.trod_bool Tryz.underlying4 t0
  obtain ⟨hh, e1, -⟩ := DataW.trod_bool Tryz.underlying4 t1
  obtain ⟨nl, vl, hvl, e2⟩ := open_int5 t2
  obtain ⟨nh, vh, hvh, e3⟩ := open_int5 t3
  simp at e0 e1 e2 e3
  obtain ⟨rfl, rfl, rfl, rfl, rfl⟩ := e2
  obtain ⟨rfl, rfl, rfl, rfl, rfl⟩ := e3
  subst e0 e1
  exact ⟨⟨hl, hh, nl, vl, nh, vh⟩, rfl, hvl, hvh⟩
set_option maxRecDepth 20000 in
/-- an argument that is a row of spans -/
theorem open_spans {v : Value} {d : DataW H} {ps : List MemPlace} (hval : Value.okWide Tryz.prog W .any base 22 v) (h : DataW.Trod enc Tryz.prog W 0 sp true 22 v d ps) :
    ∃ (a : Option Addr) (n c : Nat) (S : Nat → Sp), v = .slice a n c ∧ SRow W a n c S := by
  obtain ⟨a, len, cap, rfl⟩ := okWide_slice Tryz.underlying22 hval
  obtain ⟨fuel, hf⟩ := h
  rcases DataW.trod_slice Tryz.underlying22 hf with ⟨h8, -⟩ | ⟨a, len, cap, elems, rest, n2, hn2, h8, -, -, hlc, hcm, hel, hel2, -, -⟩
  · simp [Value.cells] at h8
    obtain ⟨rfl, rfl, rfl⟩ := h8
    exact ⟨none, 0, 0, fun _ => ⟨false, false, false, 0, false, 0⟩, rfl, Nat.le_refl _, Nat.zero_le _, .inl rfl, fun i hi => by omega⟩
  · simp [Value.cells] at h8
    obtain ⟨rfl, rfl, rfl⟩ := h8
    rw [cellsSp12] at hel2
    have hex : ∀ i, ∃ s : Sp, i < len → (s.vl < 2 ^ 256 ∧ s.vh < 2 ^ 256) ∧ ∀ j, j < 12 → W.cell? ((a.add (i * 12)).add j) = s.cells[j]? := by
      intro i
      by_cases hi : i < len
      · have h1 := hel2 i hi
        have h2 : ∃ y, elems[i]? = some y := ⟨elems[i]'(by omega), List.getElem?_eq_getElem (by omega)⟩
        obtain ⟨y, hy⟩ := h2
        rw [hy, Option.bind_eq_some_iff] at h1
        obtain ⟨cs, hcs, hty⟩ := h1
        obtain ⟨s, hT, hin⟩ := open_span hty
        obtain ⟨-, -, hc⟩ := World.cells?_some hcs
        exact ⟨s, fun _ => ⟨hin, fun j hj => by rw [← hT]; exact hc j hj⟩⟩
      · exact ⟨⟨false, false, false, 0, false, 0⟩, fun h => absurd h hi⟩
    refine ⟨some a, len, cap, fun i => Classical.choose (hex i), rfl, hlc, hcm, ?_, fun i hi => (Classical.choose_spec (hex i) hi).1⟩
    by_cases h0 : len = 0
    · exact .inl h0
    · have h3 := (Classical.choose_spec (hex 0) (by omega)).2 0 (by omega)
      have h4 : ∃ v, (Classical.choose (hex 0)).cells[0]? = some v := ⟨_, rfl⟩
      obtain ⟨v, hv⟩ := h4
      rw [hv] at h3
      have h5 : W.cell? (a.add 0) = some v := by
        have e : (a.add (0 * 12)).add 0 = a.add 0 := by unfold Addr.add; simp
        rwa [e] at h3
      obtain ⟨ha, hb⟩ := addr_spot h5
      refine .inr ⟨a.block, a.off, by rw [← ha], hb, fun i hi j hj => ?_⟩
      have h6 := (Classical.choose_spec (hex i) hi).2 j hj
      rw [addr_row' ha] at h6
      exact h6
end
end Go.Proofs.YtekeedjhaakbhaaGreatDoor

namespace Go.Proofs.YtekeedjhaakbhaaGreatDoor
open Go.ChangeShapes Go.WideShapes Go.ChangeAt Go.RowKit Go.ChangeMaps
theorem own : ownKnob Tryz.prog.godebug = none := by kernel_rfl
theorem laidOut : laidOutB Tryz.prog = true := by kernel_rfl
theorem gTab : Tryz.prog.globalNamed "math/bits.deBruijn64tab" = some 0 := by kernel_rfl
theorem gTabType : (Tryz.prog.globals[0]?).map (·.type) = some 117 := by kernel_rfl
theorem cellsT64 : Tryz.prog.cellsOf 117 = 64 := by kernel_rfl
theorem cellsE8 : Tryz.prog.cellsOf 5 = 1 := by kernel_rfl
def tabZ : List Int := Lib.deBruijn64tab.map fun (n : Nat) => (n : Int)
/-- the table that the rows list -/
def laid9 : List (String × DataW Unit) := [("math/bits.deBruijn64tab", Rows.laid_math_bits_deBruijn64tab)]
theorem tab_of {W : World} (h : Lib.TabIs Tryz.prog W "math/bits.deBruijn64tab" .u8 tabZ) : Tab W := by
  intro j hj
  have := h.cell gTab j (by simpa [tabZ] using hj)
  rw [this]
  unfold tabZ
  simp [List.getD, hj]
theorem tab_of9 {W : World} (h : laidMetH Tryz.prog laid9 W) : Tab W := by
  have h0 : laidMet Tryz.prog laid9 W := h
  have h1 : laidMet Tryz.prog [("math/bits.deBruijn64tab", Lib.tabData .u8 tabZ)] W := h0
  exact tab_of (Lib.tabIs_of_head gTab gTabType Tryz.underlying117 Tryz.underlying5 cellsE8 cellsT64 h1)
/-- arguments read behind the call as before -/
theorem args_stay {H : Type} {enc : TypeId × Value → H} {W W' : World} (hb : Below W.heap.size W W') : ∀ {ts : List TypeId} {vs : List Value} {ds : List (DataW H)} {ps : List MemPlace}, (∀ t ∈ ts, Tryz.prog.readableRec t = true ∧ t < Tryz.prog.types.size) →
    DataW.TrodAll enc Tryz.prog W 0 (fun _ => true) true ts vs ds ps → DataW.TrodAll enc Tryz.prog W' 0 (fun b => decide (b < W.heap.size)) true ts vs ds ps
  | [], _, _, _, _, h => by
    obtain ⟨rfl, rfl, rfl⟩ := trodAll_nil h
    exact trodAll_mk0
  | t :: ts, _, _, _, hr, h => by
    obtain ⟨v, vs, d, ds, p, q, rfl, rfl, rfl, h1, h2⟩ := trodAll_cons h
    have hlt := DataW.TrodAll.lt h
    exact trodAll_cons_mk (Below.trod laidOut (hr t (List.mem_cons_self ..)).1 (hr t (List.mem_cons_self ..)).2 h1 hb fun x hx => hlt x (List.mem_append_left _ hx)) (args_stay hb (fun t' ht => hr t' (List.mem_cons_of_mem _ ht)) h2)
/-- the post of a function that only reads its arguments -/
theorem post_reads {H : Type} {enc : TypeId × Value → H} {f : Func} {s : ChangeSpec} {W W' : World} {args : Array Value} {v : Value} {ds gs : List (DataW H)} {before : List MemPlace}
    (hW : DataW.Whole enc Tryz.prog f.params.toList s.vars false W args.toList ds gs before) (hv : s.vars = []) (hr : ∀ t ∈ f.params.toList, Tryz.prog.readableRec t = true ∧ t < Tryz.prog.types.size)
    (hres : DataW.TrodAll enc Tryz.prog W' W.heap.size (fun _ => false) false f.resultTypes.toList (v.resultList f.resultTypes.size) (s.fn H (ds ++ gs)).results [])
    (hargs : (s.fn H (ds ++ gs)).args = ds) (hvars : (s.fn H (ds ++ gs)).vars = []) (hb : Below W.heap.size W W') : s.post enc Tryz.prog f false true false false W args v W' := by
  obtain ⟨p, q, hA, hV, rfl, hfz, hnd⟩ := hW
  refine ⟨ds, gs, p ++ q, [], p, [], ⟨p, q, hA, hV, rfl, hfz, hnd⟩, hres, ?_, ?_, ?_, fun h => by cases h⟩
  · rw [hargs]
    exact args_stay hb hr hA
  · rw [hv, hvars]
    trivial
  · exact hb.frame _
def fillO (l : List Value) : Obj → Obj
  | .cells _ t frozen => .cells l.toArray t frozen
  | o => o
/-- A WORLD FOR THE WITNESS: the settled one, the tables holding what their initialisers lay. -/
noncomputable def laidWorld (os : Os) : World :=
  { World.holding Tryz.prog os ⟨#[], #[], []⟩ with heap := (World.holding Tryz.prog os ⟨#[], #[], []⟩).heap.modify 0 (fillO (Lib.deBruijn64tab.map fun (n : Nat) => Value.int .u8 (n : Int))) }
end Go.Proofs.YtekeedjhaakbhaaGreatDoor
