/- The frame of this seat's cards: the tables, a world for the witness, the post of a function that leaves old memory as it is. -/
import Derived.Test.YtbakgmkkebnhkaaDoorBox
import Derived.Test.YtbakgmkkebnhkaaDoorCards
import Derived.Test.YtbakgmkkebnhkaaDoorTie
import Derived.WalkKit
import Derived.ProofKit
import Derived.OpenShut
import Derived.Deep.DeepHandedRow
import Derived.Lib.LaidTab
namespace Go.Proofs.YtbakgmkkebnhkaaDoor
open Go.ChangeShapes Go.WideShapes Go.ChangeAt Go.RowKit Go.ChangeMaps
theorem own : ownKnob Tryd.prog.godebug = none := by kernel_rfl
theorem gTab : Tryd.prog.globalNamed "math/bits.deBruijn64tab" = some 0 := by kernel_rfl
theorem gTab32 : Tryd.prog.globalNamed "math/bits.deBruijn32tab" = some 5 := by kernel_rfl
theorem gTab10 : Tryd.prog.globalNamed "internal/strconv.uint64pow10" = some 3 := by kernel_rfl
theorem gTabType : (Tryd.prog.globals[0]?).map (·.type) = some 102 := by kernel_rfl
theorem gTab10Type : (Tryd.prog.globals[3]?).map (·.type) = some 115 := by kernel_rfl
theorem cellsT64 : Tryd.prog.cellsOf 102 = 64 := by kernel_rfl
theorem cellsT20 : Tryd.prog.cellsOf 115 = 20 := by kernel_rfl
theorem cellsE8 : Tryd.prog.cellsOf 5 = 1 := by kernel_rfl
theorem cellsE64 : Tryd.prog.cellsOf 22 = 1 := by kernel_rfl
def tabZ : List Int := Lib.deBruijn64tab.map fun (n : Nat) => (n : Int)
/-- the tables that the rows list -/
def laid3 : List (String × DataW Unit) := [("math/bits.deBruijn32tab", Rows.laid_math_bits_deBruijn32tab), ("math/bits.deBruijn64tab", Rows.laid_math_bits_deBruijn64tab), ("internal/strconv.uint64pow10", Rows.laid_internal_strconv_uint64pow10)]
theorem laid_tail {P : Program} {W : World} {x : String × DataW Unit} {rest : List (String × DataW Unit)} (h : laidMet P (x :: rest) W) : laidMet P rest W := by
  obtain ⟨ps, ⟨g, t, cs, fuel, p, q, _, _, _, _, hr, rfl⟩, hn, ha⟩ := h
  exact ⟨q, hr, (List.nodup_append.1 hn).2.1, fun b off hm => ha b off (List.mem_append_right _ hm)⟩
/-- the post of a function without a place in its input, which leaves old memory as it is -/
theorem post_of_below {H : Type} {enc : TypeId × Value → H} {P : Program} {f : Func} {s : ChangeSpec} {apart fresh handsOn again : Bool} {W W' : World} {args : Array Value} {v : Value} {ds gs : List (DataW H)}
    (hW : DataW.Whole enc P f.params.toList s.vars apart W args.toList ds gs [])
    (hres : ∀ (b : Nat) (sp : Nat → Bool) (hd : Bool), DataW.TrodAll enc P W' b sp hd f.resultTypes.toList (v.resultList f.resultTypes.size) (s.fn H (ds ++ gs)).results [])
    (hargs : ∀ sp : Nat → Bool, DataW.TrodAll enc P W' 0 sp true f.params.toList args.toList (s.fn H (ds ++ gs)).args [])
    (hvars : ∀ sp : Nat → Bool, DataW.TrodVars enc P W' sp s.vars (s.fn H (ds ++ gs)).vars [])
    (hb : Below W.heap.size W W')
    (hok : ∀ (j : Nat) (t : TypeId) (r : Value), f.resultTypes[j]? = some t → (v.resultList f.resultTypes.size)[j]? = some r → Value.okWide P W' .any 0 t r) :
    s.post enc P f apart fresh handsOn again W args v W' := by
  refine ⟨ds, gs, [], [], [], [], hW, hres _ _ _, hargs _, hvars _, hb.frame _, fun _ => ?_⟩
  refine ⟨hok, _, _, ([] ++ []) ++ [], ⟨[] ++ [], [], trodAll_append (hargs _) (hres _ _ _), hvars _, rfl, ?_, ?_⟩, ?_⟩
  · intro b off hp
    cases hp
  · intro ha
    exact List.nodup_nil
  · intro p hp _
    cases hp
def fillO (l : List Value) : Obj → Obj
  | .cells _ t frozen => .cells l.toArray t frozen
  | o => o
/-- A WORLD FOR THE WITNESS: the settled one, the tables holding what their initialisers lay. -/
noncomputable def laidWorld (os : Os) : World :=
  { World.holding Tryd.prog os ⟨#[], #[], []⟩ with heap := (((World.holding Tryd.prog os ⟨#[], #[], []⟩).heap.modify 0 (fillO (Lib.deBruijn64tab.map fun (n : Nat) => Value.int .u8 (n : Int)))).modify 5 (fillO (Lib.deBruijn32tab.map fun (n : Nat) => Value.int .u8 (n : Int)))).modify 3 (fillO (Lib.pow10Tab.map fun (z : Int) => Value.int .u64 z)) }
theorem tab_of {W : World} (h : Lib.TabIs Tryd.prog W "math/bits.deBruijn64tab" .u8 tabZ) : Tab W := by
  intro j hj
  have := h.cell gTab j (by simpa [tabZ] using hj)
  rw [this]
  unfold tabZ
  simp [List.getD, hj]
theorem tabs_of {W : World} (h : laidMetH Tryd.prog laid3 W) : Tabs W := by
  have h0 : laidMet Tryd.prog laid3 W := h
  have h1 : laidMet Tryd.prog (("math/bits.deBruijn64tab", Lib.tabData .u8 tabZ) :: [("internal/strconv.uint64pow10", Rows.laid_internal_strconv_uint64pow10)]) W := laid_tail h0
  have h2 : laidMet Tryd.prog (("internal/strconv.uint64pow10", Lib.tabData .u64 Lib.pow10Tab) :: []) W := laid_tail h1
  exact ⟨tab_of (Lib.tabIs_of_head gTab gTabType Tryd.underlying102 Tryd.underlying5 cellsE8 cellsT64 h1), Lib.tabIs_of_head gTab10 gTab10Type Tryd.underlying115 Tryd.underlying22 cellsE64 cellsT20 h2⟩
theorem u64_wf {n : Int} (h : (Lit.int .u64 n).wf = true) : ∃ m : Nat, n = m ∧ m < 18446744073709551616 := by
  simp [Lit.wf, IntKind.bits, IntKind.signed, IntKind.min, IntKind.max] at h
  exact ⟨n.toNat, by omega, by omega⟩
theorem u32_wf {n : Int} (h : (Lit.int .u32 n).wf = true) : ∃ m : Nat, n = m ∧ m < 4294967296 := by
  simp [Lit.wf, IntKind.bits, IntKind.signed, IntKind.min, IntKind.max] at h
  exact ⟨n.toNat, by omega, by omega⟩
theorem u16_wf {n : Int} (h : (Lit.int .u16 n).wf = true) : ∃ m : Nat, n = m ∧ m < 65536 := by
  simp [Lit.wf, IntKind.bits, IntKind.signed, IntKind.min, IntKind.max] at h
  exact ⟨n.toNat, by omega, by omega⟩
theorem i64_wf {n : Int} (h : (Lit.int .i64 n).wf = true) : -9223372036854775808 ≤ n ∧ n < 9223372036854775808 := by
  simp [Lit.wf, IntKind.bits, IntKind.signed, IntKind.min, IntKind.max] at h
  omega
end Go.Proofs.YtbakgmkkebnhkaaDoor
