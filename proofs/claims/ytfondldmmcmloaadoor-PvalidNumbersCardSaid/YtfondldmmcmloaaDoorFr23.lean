/- The frame of the two cards. -/
import Derived.Test.YtfondldmmcmloaaDoorCards
import Derived.Test.YtfondldmmcmloaaDoorTie
import Derived.WalkKit
import Derived.ProofKit
import Derived.OpenShut
import Derived.Deep.DeepHandedRow
import Derived.Lib.LaidTab
import Derived.Lib.LaidU8T
import Derived.Carry
import Derived.ChangeOld
import Derived.Test.YtfondldmmcmloaaDoorPdCA
namespace Go.Proofs.YtfondldmmcmloaaDoor
open Go.ChangeShapes Go.WideShapes Go.ChangeAt Go.RowKit Go.ChangeMaps
theorem u64_wf {n : Int} (h : (Lit.int .u64 n).wf = true) : ∃ m : Nat, n = m ∧ m < 18446744073709551616 := by
  simp [Lit.wf, IntKind.bits, IntKind.signed, IntKind.min, IntKind.max] at h
  exact ⟨n.toNat, by omega, by omega⟩
theorem i64_wf {n : Int} (h : (Lit.int .i64 n).wf = true) : -9223372036854775808 ≤ n ∧ n < 9223372036854775808 := by
  simp [Lit.wf, IntKind.bits, IntKind.signed, IntKind.min, IntKind.max] at h
  omega
theorem laidOut : laidOutB Tryd.prog = true := by kernel_rfl
theorem gTab : Tryd.prog.globalNamed "math/bits.deBruijn64tab" = some 2 := by kernel_rfl
theorem gTabType : (Tryd.prog.globals[2]?).map (·.type) = some 126 := by kernel_rfl
theorem cellsT64 : Tryd.prog.cellsOf 126 = 64 := by kernel_rfl
theorem cellsE8 : Tryd.prog.cellsOf 5 = 1 := by kernel_rfl
def tabZ : List Int := Lib.deBruijn64tab.map fun (n : Nat) => (n : Int)
def laid6 : List (String × DataW Unit) := [("math/bits.deBruijn64tab", Rows.laid_math_bits_deBruijn64tab), ("unicode/utf8.acceptRanges", Rows.laid_unicode_utf8_acceptRanges), ("unicode/utf8.first", Rows.laid_unicode_utf8_first)]
theorem first_eq : Rows.laid_unicode_utf8_first = Lib.firstData := by kernel_rfl
theorem accept_eq : (Rows.laid_unicode_utf8_acceptRanges : DataW Unit) = Lib.acceptData := by kernel_rfl
theorem tab_of {W : World} (h : Lib.TabIs Tryd.prog W "math/bits.deBruijn64tab" .u8 tabZ) : Tab W := by
  intro j hj
  have := h.cell gTab j (by simpa [tabZ] using hj)
  rw [this]
  unfold tabZ
  simp [List.getD, hj]
theorem tab_of6 {W : World} (h : laidMetH Tryd.prog laid6 W) : Tab W := by
  have h0 : laidMet Tryd.prog laid6 W := h
  have h1 : laidMet Tryd.prog (("math/bits.deBruijn64tab", Lib.tabData .u8 tabZ) :: [("unicode/utf8.acceptRanges", Rows.laid_unicode_utf8_acceptRanges), ("unicode/utf8.first", Rows.laid_unicode_utf8_first)]) W := h0
  exact tab_of (Lib.tabIs_of_head gTab gTabType Tryd.underlying126 Tryd.underlying5 cellsE8 cellsT64 h1)
theorem u8_of6 {W : World} (h : laidMetH Tryd.prog laid6 W) : U8T W := by
  have h0 : laidMet Tryd.prog laid6 W := h
  have h1 : laidMet Tryd.prog [("math/bits.deBruijn64tab", Rows.laid_math_bits_deBruijn64tab), ("unicode/utf8.acceptRanges", Lib.acceptData), ("unicode/utf8.first", Lib.firstData)] W := by
    rw [← accept_eq, ← first_eq]
    exact h0
  exact utf8Tabs_of_readsT (U8Types.of196 Tryd.lays196) ⟨by kernel_rfl, by kernel_rfl, by kernel_rfl, by kernel_rfl, by kernel_rfl, by kernel_rfl, by kernel_rfl⟩ (Lib.laidMet.reads h1 (by simp)) (Lib.laidMet.reads h1 (by simp))
theorem args_stay {H : Type} {enc : TypeId × Value → H} {W W' : World} (hb : Below W.heap.size W W') : ∀ {ts : List TypeId} {vs : List Value} {ds : List (DataW H)} {ps : List MemPlace}, (∀ t ∈ ts, Tryd.prog.readableRec t = true ∧ t < Tryd.prog.types.size) →
    DataW.TrodAll enc Tryd.prog W 0 (fun _ => true) true ts vs ds ps → DataW.TrodAll enc Tryd.prog W' 0 (fun b => decide (b < W.heap.size)) true ts vs ds ps
  | [], _, _, _, _, h => by
    obtain ⟨rfl, rfl, rfl⟩ := trodAll_nil h
    exact trodAll_mk0
  | t :: ts, _, _, _, hr, h => by
    obtain ⟨v, vs, d, ds, p, q, rfl, rfl, rfl, h1, h2⟩ := trodAll_cons h
    have hlt := DataW.TrodAll.lt h
    exact trodAll_cons_mk (Below.trod laidOut (hr t (List.mem_cons_self ..)).1 (hr t (List.mem_cons_self ..)).2 h1 hb fun x hx => hlt x (List.mem_append_left _ hx)) (args_stay hb (fun t' ht => hr t' (List.mem_cons_of_mem _ ht)) h2)
theorem post_reads {H : Type} {enc : TypeId × Value → H} {f : Func} {s : ChangeSpec} {W W' : World} {args : Array Value} {v : Value} {ds gs : List (DataW H)} {before : List MemPlace}
    (hW : DataW.Whole enc Tryd.prog f.params.toList s.vars false W args.toList ds gs before) (hv : s.vars = []) (hr : ∀ t ∈ f.params.toList, Tryd.prog.readableRec t = true ∧ t < Tryd.prog.types.size)
    (hres : DataW.TrodAll enc Tryd.prog W' W.heap.size (fun _ => false) false f.resultTypes.toList (v.resultList f.resultTypes.size) (s.fn H (ds ++ gs)).results [])
    (hargs : (s.fn H (ds ++ gs)).args = ds) (hvars : (s.fn H (ds ++ gs)).vars = []) (hb : Below W.heap.size W W') : s.post enc Tryd.prog f false true false false W args v W' := by
  obtain ⟨p, q, hA, hV, rfl, hfz, hnd⟩ := hW
  refine ⟨ds, gs, p ++ q, [], p, [], ⟨p, q, hA, hV, rfl, hfz, hnd⟩, hres, ?_, ?_, ?_, fun h => by cases h⟩
  · rw [hargs]
    exact args_stay hb hr hA
  · rw [hv, hvars]
    trivial
  · exact hb.frame _
def fillO (l : List Value) : Obj → Obj
  | .cells _ t frozen => .cells l.toArray t frozen
  | o => o
noncomputable def laidWorld (os : Os) : World :=
  { World.holding Tryd.prog os ⟨#[], #[], []⟩ with heap := (((World.holding Tryd.prog os ⟨#[], #[], []⟩).heap.modify 2 (fillO (Lib.deBruijn64tab.map fun (n : Nat) => Value.int .u8 (n : Int)))).modify 1 (fillO ((List.range 16).flatMap fun i => [Value.int .u8 (Lib.accLo i : Nat), Value.int .u8 (Lib.accHi i : Nat)]))).modify 0 (fillO (Lib.firstTab.map fun (z : Int) => Value.int .u8 z)) }
end Go.Proofs.YtfondldmmcmloaaDoor
