/- The law ValueBounds: sixteen deep may be, seventeen not; a thousand elements, a text of 4,096 bytes, and one more. -/
import Derived.Test.YtminijokbeclhaaDoorTurnJ
import Derived.Laws.IdiomCopy
import Derived.LoopN
namespace Go.Proofs.YtminijokbeclhaaDoor
open Go.RowKit
/-- the value's slices lie apart from a block -/
def VT.Off (B : Nat) : VT → Prop
  | .nil => True
  | .mk _ _ _ _ _ aL nL _ kids aK nK _ _ => (nL = 0 ∨ ∀ a, aL = some a → a.block ≠ B) ∧ (∀ i, i < nL → (kids i).Off B) ∧ (nK = 0 ∨ ∀ a, aK = some a → a.block ≠ B)
theorem VT.In.apart {w w' : World} {B : Nat} (h : ∀ p : Addr, p.block ≠ B → p.block < w.heap.size → w'.cell? p = w.cell? p) (hs : w.heap.size ≤ w'.heap.size) : ∀ T : VT, T.In w → T.Off B → T.In w' := by
  intro T
  induction T with
  | nil => exact fun h _ => h
  | mk kind neg V bits text aL nL cL kids aK nK cK keys ih =>
    rintro ⟨o, l, k, n⟩ ⟨f1, f2, f3⟩
    refine ⟨o, ?_, fun i hi => ih i (k i hi) (f2 i hi), ?_⟩
    · rcases l with l | ⟨b, off, e, hl, hc⟩
      · exact .inl l
      · refine .inr ⟨b, off, e, Nat.lt_of_lt_of_le hl hs, fun i hi j hj => ?_⟩
        rcases f1 with f1 | f1
        · omega
        · rw [h ⟨b, off + i * 10 + j, none⟩ (show b ≠ B from f1 _ e) hl]; exact hc i hi j hj
    · rcases n with n | ⟨b, off, e, hl, hc⟩
      · exact .inl n
      · refine .inr ⟨b, off, e, Nat.lt_of_lt_of_le hl hs, fun i hi => ?_⟩
        rcases f3 with f3 | f3
        · omega
        · rw [h ⟨b, off + i, none⟩ (show b ≠ B from f3 _ e) hl]; exact hc i hi
/-- a value's ten cells stored into a block -/
abbrev set10 (w : World) (B : Nat) (a0 a1 a2 a3 a4 a5 a6 a7 a8 a9 : Value) : World :=
  (((((((((w.setCell ⟨B, 0, none⟩ a0).setCell ⟨B, 1, none⟩ a1).setCell ⟨B, 2, none⟩ a2).setCell ⟨B, 3, none⟩ a3).setCell ⟨B, 4, none⟩ a4).setCell ⟨B, 5, none⟩ a5).setCell ⟨B, 6, none⟩ a6).setCell ⟨B, 7, none⟩ a7).setCell ⟨B, 8, none⟩ a8).setCell ⟨B, 9, none⟩ a9
theorem set10_out {w : World} {B : Nat} {a0 a1 a2 a3 a4 a5 a6 a7 a8 a9 : Value} {p : Addr} (h : p.block ≠ B) : (set10 w B a0 a1 a2 a3 a4 a5 a6 a7 a8 a9).cell? p = w.cell? p := by
  have hn : ∀ i : Nat, (⟨B, i, none⟩ : Addr) ≠ p := fun i e => h (by rw [← e])
  unfold set10
  repeat rw [World.cell?_setCell_other _ _ _ _ (hn _)]
theorem set10_size {w : World} {B : Nat} {a0 a1 a2 a3 a4 a5 a6 a7 a8 a9 : Value} : (set10 w B a0 a1 a2 a3 a4 a5 a6 a7 a8 a9).heap.size = w.heap.size := by simp [set10]
theorem set10_frozen {w : World} {B : Nat} {a0 a1 a2 a3 a4 a5 a6 a7 a8 a9 : Value} (p : Addr) : (set10 w B a0 a1 a2 a3 a4 a5 a6 a7 a8 a9).frozen? p = w.frozen? p := by simp [set10]
theorem set10_in {w : World} {B : Nat} {a0 a1 a2 a3 a4 a5 a6 a7 a8 a9 b0 b1 b2 b3 b4 b5 b6 b7 b8 b9 : Value} (h : RBx w B b0 b1 b2 b3 b4 b5 b6 b7 b8 b9) : RBx (set10 w B a0 a1 a2 a3 a4 a5 a6 a7 a8 a9) B a0 a1 a2 a3 a4 a5 a6 a7 a8 a9 := by
  obtain ⟨h0, h1, h2, h3, h4, h5, h6, h7, h8, h9⟩ := h.all
  exact ⟨by simp [set10, go_sem, *]⟩
/-- ten cells that may be stored into -/
structure FBx (w : World) (B : Nat) : Prop where
  all : w.frozen? ⟨B, 0, none⟩ = false ∧ w.frozen? ⟨B, 1, none⟩ = false ∧ w.frozen? ⟨B, 2, none⟩ = false ∧ w.frozen? ⟨B, 3, none⟩ = false ∧ w.frozen? ⟨B, 4, none⟩ = false ∧ w.frozen? ⟨B, 5, none⟩ = false ∧ w.frozen? ⟨B, 6, none⟩ = false ∧ w.frozen? ⟨B, 7, none⟩ = false ∧ w.frozen? ⟨B, 8, none⟩ = false ∧ w.frozen? ⟨B, 9, none⟩ = false
/-- a chain of values, one in the other -/
structure Chn (w : World) (B k : Nat) (T : VT) : Prop where
  i : T.In w
  o : T.Off B
  d : T.depth = k
  n : T.nodes = k
  l : T.long = false
  r : T.right = true

theorem ten_get {kind : Int} {neg : Bool} {V bits : Nat} {text : ByteArray} {aL : Option Addr} {nL cL : Nat} {kids : Nat → VT} {aK : Option Addr} {nK cK : Nat} {keys : Nat → ByteArray} {w : World} {B : Nat} (h : RBx w B (.int .i64 kind) (.bool neg) (.int .u64 (lm V 0 : Nat)) (.int .u64 (lm V 1 : Nat)) (.int .u64 (lm V 2 : Nat)) (.int .u64 (lm V 3 : Nat)) (.int .u64 (bits : Nat)) (.string text) (.slice aL nL cL) (.slice aK nK cK)) : ∀ j, j < 10 → w.cell? ⟨B, j, none⟩ = (VT.mk kind neg V bits text aL nL cL kids aK nK cK keys).cells[j]? := by
  intro j hj
  have hl : (VT.mk kind neg V bits text aL nL cL kids aK nK cK keys).cells.length = 10 := rfl
  obtain ⟨u, hu⟩ : ∃ u, (VT.mk kind neg V bits text aL nL cL kids aK nK cK keys).cells[j]? = some u := ⟨_, List.getElem?_eq_getElem (by omega)⟩
  have h1 := ten_src h j u hu
  rw [addr_at, Nat.zero_add] at h1
  rw [hu, h1]
theorem Chn.list {wr w9 : World} {B k : Nat} {kind : Int} {neg : Bool} {V bits : Nat} {text : ByteArray} {aL : Option Addr} {nL cL : Nat} {aK : Option Addr} {nK cK : Nat} {kids : Nat → VT} {keys : Nat → ByteArray} (h : Chn wr B k (.mk kind neg V bits text aL nL cL kids aK nK cK keys)) (ha : ∀ p : Addr, p.block ≠ B → p.block < wr.heap.size → w9.cell? p = wr.cell? p) (hs : wr.heap.size < w9.heap.size) (hB : B < wr.heap.size)
    (hr : RBx w9 wr.heap.size (.int .i64 kind) (.bool neg) (.int .u64 (lm V 0 : Nat)) (.int .u64 (lm V 1 : Nat)) (.int .u64 (lm V 2 : Nat)) (.int .u64 (lm V 3 : Nat)) (.int .u64 (bits : Nat)) (.string text) (.slice aL nL cL) (.slice aK nK cK)) : Chn w9 B (k + 1) (.mk 7 false 0 0 ⟨#[]⟩ (some ⟨wr.heap.size, 0, none⟩) 1 1 (fun _ => .mk kind neg V bits text aL nL cL kids aK nK cK keys) none 0 0 (fun _ => ⟨#[]⟩)) := by
  refine ⟨⟨⟨by decide, by decide, by decide, by decide, by decide, Nat.le_refl _, by decide, Nat.le_refl _, by decide⟩, .inr ⟨_, _, rfl, hs, fun i hi j hj => ?_⟩, fun i _ => VT.In.apart ha (Nat.le_of_lt hs) _ h.i h.o, .inl rfl⟩, ⟨.inr fun a e => ?_, fun i _ => h.o, .inl rfl⟩, ?_, ?_, ?_, ?_⟩
  · have : i = 0 := by omega
    subst this
    rw [show 0 + 0 * 10 + j = j by omega]
    exact ten_get hr j hj
  · injection e with e
    subst e
    show wr.heap.size ≠ B
    omega
  · have := h.d
    show maxN (fun _ => (VT.mk kind neg V bits text aL nL cL kids aK nK cK keys).depth) 1 + 1 = k + 1
    rw [this]
    show max 0 k + 1 = k + 1
    omega
  · have := h.n
    show sumN (fun _ => (VT.mk kind neg V bits text aL nL cL kids aK nK cK keys).nodes) 1 + 1 = k + 1
    rw [this]
    show 0 + k + 1 = k + 1
    omega
  · exact long_mk (by decide) (by decide) (by decide) rfl (anyN_no0 fun _ _ => h.l)
  · exact right_all (by decide +kernel) ⟨rfl, rfl, rfl, rfl⟩ (anyN_no0 fun _ _ => by rw [h.r]; rfl)
theorem Chn.map {wr w9 : World} {B k : Nat} {kind : Int} {neg : Bool} {V bits : Nat} {text : ByteArray} {aL : Option Addr} {nL cL : Nat} {aK : Option Addr} {nK cK : Nat} {kids : Nat → VT} {keys : Nat → ByteArray} (h : Chn wr B k (.mk kind neg V bits text aL nL cL kids aK nK cK keys)) (ha : ∀ p : Addr, p.block ≠ B → p.block < wr.heap.size → w9.cell? p = wr.cell? p) (hs : wr.heap.size + 2 < w9.heap.size) (hB : B < wr.heap.size)
    (hr : RBx w9 wr.heap.size (.int .i64 kind) (.bool neg) (.int .u64 (lm V 0 : Nat)) (.int .u64 (lm V 1 : Nat)) (.int .u64 (lm V 2 : Nat)) (.int .u64 (lm V 3 : Nat)) (.int .u64 (bits : Nat)) (.string text) (.slice aL nL cL) (.slice aK nK cK)) (hk : w9.cell? ⟨wr.heap.size + 2, 0, none⟩ = some (.string ⟨#[107]⟩)) : Chn w9 B (k + 1) (.mk 8 false 0 0 ⟨#[]⟩ (some ⟨wr.heap.size, 0, none⟩) 1 1 (fun _ => .mk kind neg V bits text aL nL cL kids aK nK cK keys) (some ⟨wr.heap.size + 2, 0, none⟩) 1 1 (fun _ => ⟨#[107]⟩)) := by
  refine ⟨⟨⟨by decide, by decide, by decide, by decide, by decide, Nat.le_refl _, by decide, Nat.le_refl _, by decide⟩, .inr ⟨_, _, rfl, by omega, fun i hi j hj => ?_⟩, fun i _ => VT.In.apart ha (by omega) _ h.i h.o, .inr ⟨_, _, rfl, hs, fun i hi => ?_⟩⟩, ⟨.inr fun a e => ?_, fun i _ => h.o, .inr fun a e => ?_⟩, ?_, ?_, ?_, ?_⟩
  · have : i = 0 := by omega
    subst this
    rw [show 0 + 0 * 10 + j = j by omega]
    exact ten_get hr j hj
  · have : i = 0 := by omega
    subst this
    exact ⟨hk, by decide⟩
  · injection e with e
    subst e
    show wr.heap.size ≠ B
    omega
  · injection e with e
    subst e
    show wr.heap.size + 2 ≠ B
    omega
  · have := h.d
    show maxN (fun _ => (VT.mk kind neg V bits text aL nL cL kids aK nK cK keys).depth) 1 + 1 = k + 1
    rw [this]
    show max 0 k + 1 = k + 1
    omega
  · have := h.n
    show sumN (fun _ => (VT.mk kind neg V bits text aL nL cL kids aK nK cK keys).nodes) 1 + 1 = k + 1
    rw [this]
    show 0 + k + 1 = k + 1
    omega
  · exact long_mk (by decide) (by decide) (by decide) rfl (anyN_no0 fun _ _ => h.l)
  · exact right_all (by decide +kernel) ⟨rfl, rfl, rfl, rfl⟩ (anyN_no0 fun _ _ => by rw [h.r]; rfl)

theorem infoU8 : (Tryd.prog.info? 5).map (fun i => (i.zero, i.size, i.bytes)) = some (some (.int .u8 0), 1, 1) := by kernel_rfl
/-- a text of noughts -/
def nulS (n : Nat) : ByteArray := ⟨(List.replicate n (0 : UInt8)).toArray⟩
theorem nulS_size (n : Nat) : (nulS n).size = n := by
  show (List.replicate n (0 : UInt8)).toArray.size = n
  simp
theorem conv_noughts {w : World} {B g n : Nat} (h : w.ownsRow B 5 1 (.slice (some ⟨g, 0, none⟩) n n) n (madeCells (Value.int .u8 0).cells (n * 1)).toList) :
    (convert 36 9 (.slice (some ⟨g, 0, none⟩) n n)).run Tryd.prog w = .ok (.string (nulS n)) w := by
  have h1 := run_convert_bytes_back w 36 9 5 ⟨g, 0, none⟩ n (List.replicate n (0 : UInt8)) Tryd.underlying36 Tryd.underlying5 Tryd.underlying9 (fun j hj => by
    have hj2 : j < n := by simpa using hj
    rw [addr_at, Nat.zero_add, h.cellAt j (by omega)]
    simp [madeCells, Value.cells, hj2, Nat.mod_one])
  rw [List.length_replicate] at h1
  exact h1
theorem i64_and1 (k : Nat) : bits BinOp.and IntKind.i64 (k : Int) 1 = ((k % 2 : Nat) : Int) := by
  have h1 : (BitVec.ofInt 64 1).toNat = 2 ^ 1 - 1 := by decide
  have key : (BitVec.ofInt 64 (k : Int) &&& BitVec.ofInt 64 1).toNat = ((k : Int) % ((2 ^ 64 : Nat) : Int)).toNat % 2 ^ 1 := by
    rw [BitVec.toNat_and, BitVec.toNat_ofInt, h1, Nat.and_two_pow_sub_one_eq_mod]
  show IntKind.i64.wrap ((BitVec.ofInt 64 (k : Int) &&& BitVec.ofInt 64 1).toNat : Nat) = ((k % 2 : Nat) : Int)
  rw [key, IntKind.wrap_i64]
  omega
theorem zero_cells : (leafT 0 false 0 0 ⟨#[]⟩).cells = [.int .i64 0, .bool false, .int .u64 0, .int .u64 0, .int .u64 0, .int .u64 0, .int .u64 0, .string ⟨#[]⟩, .slice none 0 0, .slice none 0 0] := by simp [leafT, VT.cells, lm_zero]
theorem made_get {n i j : Nat} (hi : i < n) (hj : j < 10) : (madeCells (.agg #[.int .i64 0, .bool false, .int .u64 0, .int .u64 0, .int .u64 0, .int .u64 0, .int .u64 0, .string ⟨#[]⟩, .slice none 0 0, .slice none 0 0] : Value).cells (n * 10)).toList[i * 10 + j]? = (leafT 0 false 0 0 ⟨#[]⟩).cells[j]? := by
  rw [zero_cells]
  have hm : (i * 10 + j) % 10 = j := by omega
  have hl : i * 10 + j < n * 10 := by omega
  have e : (.agg #[.int .i64 0, .bool false, .int .u64 0, .int .u64 0, .int .u64 0, .int .u64 0, .int .u64 0, .string ⟨#[]⟩, .slice none 0 0, .slice none 0 0] : Value).cells = #[.int .i64 0, .bool false, .int .u64 0, .int .u64 0, .int .u64 0, .int .u64 0, .int .u64 0, .string ⟨#[]⟩, .slice none 0 0, .slice none 0 0] := rfl
  rw [e]
  simp only [madeCells, Array.toList_map, List.getElem?_map, Array.toList_range, List.getElem?_range hl, Option.map_some]
  show some ((#[.int .i64 0, .bool false, .int .u64 0, .int .u64 0, .int .u64 0, .int .u64 0, .int .u64 0, .string ⟨#[]⟩, .slice none 0 0, .slice none 0 0] : Array Value)[(i * 10 + j) % 10]!) = _
  rw [hm]
  rcases (show j = 0 ∨ j = 1 ∨ j = 2 ∨ j = 3 ∨ j = 4 ∨ j = 5 ∨ j = 6 ∨ j = 7 ∨ j = 8 ∨ j = 9 by omega) with rfl | rfl | rfl | rfl | rfl | rfl | rfl | rfl | rfl | rfl <;> rfl
/-- the array's elements, the first k of them laid -/
def kd (k i : Nat) : VT := if i < k then leafT 2 false 0 (i % 2) ⟨#[]⟩ else leafT 0 false 0 0 ⟨#[]⟩
theorem kd_cells (b : Nat) : (leafT 2 false 0 b ⟨#[]⟩).cells = [.int .i64 2, .bool false, .int .u64 0, .int .u64 0, .int .u64 0, .int .u64 0, .int .u64 (b : Nat), .string ⟨#[]⟩, .slice none 0 0, .slice none 0 0] := by simp [leafT, VT.cells, lm_zero]
/-- the row of the array's elements -/
structure Row (w : World) (g k K : Nat) : Prop where
  c : ∀ i, i < K → ∀ j, j < 10 → w.cell? ⟨g, i * 10 + j, none⟩ = (kd k i).cells[j]?
  f : ∀ q, w.frozen? ⟨g, q, none⟩ = false
theorem Row.step {w : World} {g k K : Nat} (h : Row w g k K) (hk : k < K) : Row (w.setCells g (k * 10) [.int .i64 2, .bool false, .int .u64 0, .int .u64 0, .int .u64 0, .int .u64 0, .int .u64 ((k : Int) % 2), .string ⟨#[]⟩, .slice none 0 0, .slice none 0 0]) g (k + 1) K := by
  refine ⟨fun i hi j hj => ?_, fun q => by rw [World.frozen?_setCells]; exact h.f q⟩
  have hl : ∀ i, (kd k i).cells.length = 10 := fun i => by unfold kd; split <;> rfl
  by_cases e : i = k
  · subst e
    rw [World.cell?_setCells_in g [.int .i64 2, .bool false, .int .u64 0, .int .u64 0, .int .u64 0, .int .u64 0, .int .u64 ((i : Int) % 2), .string ⟨#[]⟩, .slice none 0 0, .slice none 0 0] (i * 10) w (fun j2 hj2 => by
      have h1 := h.c i hi j2 hj2
      rw [List.getElem?_eq_getElem (by rw [hl]; exact hj2)] at h1
      rw [h1]
      rfl) j hj]
    have e2 : kd (i + 1) i = leafT 2 false 0 (i % 2) ⟨#[]⟩ := by unfold kd; rw [if_pos (by omega)]
    have e3 : ((i % 2 : Nat) : Int) = (i : Int) % 2 := by omega
    rw [e2, kd_cells, e3, List.getElem?_eq_getElem (show j < 10 from hj)]
  · rw [World.cell?_setCells_out g _ (k * 10) w _ (fun _ _ => by
      show i * 10 + j < k * 10 ∨ k * 10 + 10 ≤ i * 10 + j
      omega), h.c i hi j hj]
    have e2 : kd (k + 1) i = kd k i := by
      unfold kd
      by_cases c : i < k
      · rw [if_pos (by omega), if_pos c]
      · rw [if_neg (by omega), if_neg c]
    rw [e2]
theorem setCells_other {w : World} {g o : Nat} {l : List Value} {p : Addr} (h : p.block ≠ g) : (w.setCells g o l).cell? p = w.cell? p := World.cell?_setCells_out g l o w p (fun e => absurd e h)
/-- ten cells of noughts in a row -/
structure RBx0 (w : World) (g o : Nat) : Prop where
  all : (w.cell? ⟨g, o, none⟩ = some (.int .i64 0) ∧ w.cell? ⟨g, o + 1, none⟩ = some (.bool false) ∧ w.cell? ⟨g, o + 2, none⟩ = some (.int .u64 0) ∧ w.cell? ⟨g, o + 3, none⟩ = some (.int .u64 0) ∧ w.cell? ⟨g, o + 4, none⟩ = some (.int .u64 0) ∧ w.cell? ⟨g, o + 5, none⟩ = some (.int .u64 0) ∧ w.cell? ⟨g, o + 6, none⟩ = some (.int .u64 0) ∧ w.cell? ⟨g, o + 7, none⟩ = some (.string ⟨#[]⟩) ∧ w.cell? ⟨g, o + 8, none⟩ = some (.slice none 0 0) ∧ w.cell? ⟨g, o + 9, none⟩ = some (.slice none 0 0)) ∧ w.frozen? ⟨g, o, none⟩ = false ∧ w.frozen? ⟨g, o + 1, none⟩ = false ∧ w.frozen? ⟨g, o + 2, none⟩ = false ∧ w.frozen? ⟨g, o + 3, none⟩ = false ∧ w.frozen? ⟨g, o + 4, none⟩ = false ∧ w.frozen? ⟨g, o + 5, none⟩ = false ∧ w.frozen? ⟨g, o + 6, none⟩ = false ∧ w.frozen? ⟨g, o + 7, none⟩ = false ∧ w.frozen? ⟨g, o + 8, none⟩ = false ∧ w.frozen? ⟨g, o + 9, none⟩ = false
theorem Row.ten {w : World} {g k K : Nat} (h : Row w g k K) (hk : k < K) : RBx0 w g (k * 10) := by
  have e : kd k k = leafT 0 false 0 0 ⟨#[]⟩ := by unfold kd; rw [if_neg (by omega)]
  have h1 := h.c k hk
  rw [e, zero_cells] at h1
  exact ⟨⟨h1 0 (by omega), h1 1 (by omega), h1 2 (by omega), h1 3 (by omega), h1 4 (by omega), h1 5 (by omega), h1 6 (by omega), h1 7 (by omega), h1 8 (by omega), h1 9 (by omega)⟩, h.f _, h.f _, h.f _, h.f _, h.f _, h.f _, h.f _, h.f _, h.f _, h.f _⟩

theorem maxN_one {f : Nat → Nat} {n : Nat} (h : ∀ i, i < n → f i = 1) (hn : 0 < n) : maxN f n = 1 := by
  induction n with
  | zero => omega
  | succ n ih =>
    simp only [maxN]
    rw [h n (by omega)]
    by_cases c : 0 < n
    · rw [ih (fun i hi => h i (by omega)) c]; rfl
    · have : n = 0 := by omega
      subst this
      rfl
theorem sumN_ones {f : Nat → Nat} {n : Nat} (h : ∀ i, i < n → f i = 1) : sumN f n = n := by
  induction n with
  | zero => rfl
  | succ n ih =>
    simp only [sumN]
    rw [h n (by omega), ih fun i hi => h i (by omega)]
/-- the array of K bools -/
abbrev arrT (g K : Nat) : VT := .mk 7 false 0 0 ⟨#[]⟩ (some ⟨g, 0, none⟩) K K (kd K) none 0 0 (fun _ => ⟨#[]⟩)
theorem kd_full {K i : Nat} (h : i < K) : kd K i = leafT 2 false 0 (i % 2) ⟨#[]⟩ := by unfold kd; rw [if_pos h]
theorem arr_nodes (g K : Nat) : (arrT g K).nodes = K + 1 := by
  show sumN (fun i => (kd K i).nodes) K + 1 = K + 1
  rw [sumN_ones fun i hi => by rw [kd_full hi]; rfl]
theorem arr_depth (g K : Nat) (h : 0 < K) : (arrT g K).depth = 2 := by
  show maxN (fun i => (kd K i).depth) K + 1 = 2
  rw [maxN_one (fun i hi => by rw [kd_full hi]; rfl) h]
theorem bool_right (b : Nat) (h : b < 2) : (leafT 2 false 0 b ⟨#[]⟩).right = true := by
  refine right_all (by simp [midB]) ⟨rfl, rfl, ?_, rfl⟩ rfl
  show b = b % 2
  omega
theorem arr_may (g K : Nat) (h : 0 < K) (h2 : K ≤ 2000) : (arrT g K).may = if 1000 < K then 8 else 0 := by
  have hr : (arrT g K).right = true := right_all (by simp [midB]) ⟨rfl, rfl, rfl, rfl⟩ (anyN_no0 fun i hi => by rw [kd_full hi, bool_right _ (by omega)]; rfl)
  by_cases c : 1000 < K
  · rw [if_pos c]
    have hl : (arrT g K).long = true := by
      show (if 1000 < K ∨ 1000 < 0 ∨ 4096 < (⟨#[]⟩ : ByteArray).size then true else _) = true
      rw [if_pos (.inl c)]
    unfold VT.may
    rw [if_neg (by rw [arr_depth g K h]; omega), if_pos (.inr hl)]
  · rw [if_neg c]
    exact VT.may_zero.2 ⟨by rw [arr_depth g K h]; omega, by rw [arr_nodes]; omega, long_mk (by omega) (by decide) (by decide) rfl (anyN_no0 fun i hi => by rw [kd_full hi]; rfl), hr⟩
theorem arr_in {w : World} {g K : Nat} (h : Row w g K K) (hg : g < w.heap.size) (hK : K ≤ maxLen) : (arrT g K).In w :=
  ⟨⟨by decide, by decide, by decide, by decide, by decide, Nat.le_refl _, hK, Nat.le_refl _, by decide⟩, .inr ⟨g, 0, rfl, hg, fun i hi j hj => by rw [Nat.zero_add]; exact h.c i hi j hj⟩, fun i hi => by
    rw [kd_full hi]
    exact leaf_in w (by decide) (by decide) (by decide) (by omega) (by decide), .inl rfl⟩
theorem text_may (n : Nat) : (leafT 6 false 0 0 (nulS n)).may = if 4096 < n then 8 else 0 := by
  have hr : (leafT 6 false 0 0 (nulS n)).right = true := right_all (by simp [midB]) ⟨rfl, rfl, rfl, rfl⟩ rfl
  by_cases c : 4096 < n
  · rw [if_pos c]
    have hl : (leafT 6 false 0 0 (nulS n)).long = true := by
      show (if 1000 < 0 ∨ 1000 < 0 ∨ 4096 < (nulS n).size then true else _) = true
      rw [if_pos (.inr (.inr (by rw [nulS_size]; exact c)))]
    unfold VT.may
    rw [if_neg (by rw [leaf_depth]; decide), if_pos (.inr hl)]
  · rw [if_neg c]
    exact VT.may_zero.2 ⟨by rw [leaf_depth]; decide, by rw [leaf_nodes]; decide, long_mk (by decide) (by decide) (by rw [nulS_size]; omega) rfl rfl, hr⟩
theorem chn_may {w : World} {B k : Nat} {T : VT} (h : Chn w B k T) (hk : k ≤ 20) : T.may = if 16 < k then 4 else 0 := by
  by_cases c : 16 < k
  · rw [if_pos c]
    unfold VT.may
    rw [if_pos (by rw [h.d]; exact c)]
  · rw [if_neg c]
    exact VT.may_zero.2 ⟨by rw [h.d]; omega, by rw [h.n]; omega, h.l, h.r⟩

structure BndC (w : World) : Prop where
  ct : ∀ wr : World, Below w.heap.size w wr → Calls Tryd.prog 13 #[] wr fun e w' => e = .returned (.bool true) ∧ Below wr.heap.size wr w'
  cd : ∀ (T : VT) (wr : World), Below w.heap.size w wr → T.In wr → T.nodes < 4611686018427387904 → Calls Tryd.prog 18 #[T.agg] wr fun e w' => e = .returned (.int .i64 (T.depth : Nat)) ∧ Below wr.heap.size wr w'
  cn : ∀ (T : VT) (wr : World), Below w.heap.size w wr → T.In wr → T.nodes < 4611686018427387904 → Calls Tryd.prog 20 #[T.agg] wr fun e w' => e = .returned (.int .i64 (T.nodes : Nat)) ∧ Below wr.heap.size wr w'
  cm : ∀ (T : VT) (wr : World), Below w.heap.size w wr → T.In wr → T.nodes < 4611686018427387904 → Calls Tryd.prog 16 #[T.agg] wr fun e w' => e = .returned (.int .i64 T.may) ∧ Below wr.heap.size wr w'
set_option maxRecDepth 20000 in
set_option maxHeartbeats 4000000 in
theorem Bounds_walk (n : Int) (maps : Bool) (r : Nat) (hr5 : r < 5) (w : World) (hr : (IntKind.u64.wrap n).tmod 5 = (r : Int)) (C : Hid (BndC w)) :
    Calls Tryd.prog 4 #[.int .i64 n, .bool maps] w fun e w' => e = .returned (.bool true) ∧ Below w.heap.size w w' := by
  go_enter Tryd.func4, Tryd.ntmps4
  repeat any_goals (first | go_skip | go_guarded | go_step | go_upon | (simp only []; done))
  go_loopw [7] (fun i wr => ∃ (k : Nat) (kind : Int) (neg : Bool) (V bits : Nat) (text : ByteArray) (aL : Option Addr) (nL cL : Nat) (aK : Option Addr) (nK cK : Nat), 1 ≤ k ∧ k ≤ 14 + r ∧ i = .int .i64 k ∧ (∃ kids keys, Chn wr w.heap.size k (.mk kind neg V bits text aL nL cL kids aK nK cK keys)) ∧ VBx wr w.heap.size kind neg V bits text aL nL cL aK nK cK ∧ FBx wr w.heap.size ∧ Below w.heap.size w wr) (fun i _ => 14 + r - (intOf i).toNat)
  case atStart =>
    refine ⟨1, 1, false, 0, 0, ⟨#[]⟩, none, 0, 0, none, 0, 0, Nat.le_refl _, by omega, rfl, ⟨fun _ => .nil, fun _ => ⟨#[]⟩, leaf_in _ (by decide) (by decide) (by decide) (by decide) (by decide), ⟨.inl rfl, fun i hi => by omega, .inl rfl⟩, rfl, rfl, rfl, by decide +kernel⟩, ⟨by simp [go_sem, lm_zero]⟩, ⟨by simp [go_sem]⟩, by (repeat first | with_reducible exact Below.refl _ _ | with_reducible assumption | with_reducible refine Below.drew ?_ | with_reducible refine below_alloc ?_ _ | ((with_reducible refine Below.setCell ?_ ?_ _); rotate_left; (focus (first | with_reducible exact Nat.le_refl _ | (simp; done) | (simp; omega) | omega))) | (with_reducible refine below_trans ?_ (by assumption)))⟩
  case round =>
    obtain ⟨k, kind, neg, V, bits, text, aL, nL, cL, aK, nK, cK, hk1, hk2, rfl, ⟨kids, keys, hT⟩, hV, hF, hW⟩ := hrel
    have HT := Lib.hid hT
    have V0 := Lib.hid hV
    have F0 := Lib.hid hF
    obtain ⟨_, _, _, _, _, _, _, _, _, _⟩ := hV.all
    obtain ⟨_, _, _, _, _, _, _, _, _, _⟩ := hF.all
    have hb0 := World.block_lt_of_cell? wr _ hV.all.1
    have hs0 := hW.size
    have hs1 : w.heap.size ≤ wr.heap.size + 1 := by omega
    have hs2 : w.heap.size < wr.heap.size + 1 + 1 := by omega
    clear hT hV hF
    by_cases hkd : k < 14 + r
    · have i1 : (k : Int) < 14 + (r : Int) := by omega
      cases maps with
      | false =>
        repeat any_goals (first | go_skip | go_guarded | go_step | go_upon | (simp only []; done))
        go_roundw
        case rel =>
          have ha : ∀ p : Addr, p.block ≠ w.heap.size → p.block < wr.heap.size → (((set10 wr w.heap.size (.int .i64 7) (.bool false) (.int .u64 0) (.int .u64 0) (.int .u64 0) (.int .u64 0) (.int .u64 0) (.string ⟨#[]⟩) (.slice (some ⟨wr.heap.size, 0, none⟩) 1 1) (.slice none 0 0)).alloc (.cells #[.int .i64 kind, .bool neg, .int .u64 (lm V 0 : Nat), .int .u64 (lm V 1 : Nat), .int .u64 (lm V 2 : Nat), .int .u64 (lm V 3 : Nat), .int .u64 (bits : Nat), .string text, .slice aL nL cL, .slice aK nK cK] 30)).alloc (.cells #[.int .i64 7, .bool false, .int .u64 0, .int .u64 0, .int .u64 0, .int .u64 0, .int .u64 0, .string ⟨#[]⟩, .slice (some ⟨wr.heap.size, 0, none⟩) 1 1, .slice none 0 0] 30)).cell? p = wr.cell? p := fun p h1 h2 => by
            rw [(below_alloc (below_alloc (Below.refl _ _) _) _).cell (by rw [set10_size]; exact h2), set10_out h1]
          exact ⟨k + 1, 7, false, 0, 0, ⟨#[]⟩, some ⟨wr.heap.size, 0, none⟩, 1, 1, none, 0, 0, by omega, by omega, rfl, ⟨fun _ => .mk kind neg V bits text aL nL cL kids aK nK cK keys, fun _ => ⟨#[]⟩, HT.out.list ha (by simp; omega) hb0 ⟨by simp [go_sem]⟩⟩, ⟨by simp [go_sem, lm_zero, *]⟩, ⟨by simp [go_sem, *]⟩, by (repeat first | with_reducible exact Below.refl _ _ | with_reducible assumption | with_reducible refine Below.drew ?_ | with_reducible refine below_alloc ?_ _ | ((with_reducible refine Below.setCell ?_ ?_ _); rotate_left; (focus (first | with_reducible exact Nat.le_refl _ | (simp; done) | (simp; omega) | omega))) | (with_reducible refine below_trans ?_ (by assumption)))⟩
        case measure => simp [intOf]; omega
      | true =>
        repeat any_goals (first | go_skip | go_guarded | go_step | go_upon | (simp only []; done))
        go_roundw
        case rel =>
          have ha : ∀ p : Addr, p.block ≠ w.heap.size → p.block < wr.heap.size → ((((set10 wr w.heap.size (.int .i64 8) (.bool false) (.int .u64 0) (.int .u64 0) (.int .u64 0) (.int .u64 0) (.int .u64 0) (.string ⟨#[]⟩) (.slice (some ⟨wr.heap.size, 0, none⟩) 1 1) (.slice (some ⟨wr.heap.size + 1 + 1, 0, none⟩) 1 1)).alloc (.cells #[.int .i64 kind, .bool neg, .int .u64 (lm V 0 : Nat), .int .u64 (lm V 1 : Nat), .int .u64 (lm V 2 : Nat), .int .u64 (lm V 3 : Nat), .int .u64 (bits : Nat), .string text, .slice aL nL cL, .slice aK nK cK] 30)).alloc (.cells #[.int .i64 8, .bool false, .int .u64 0, .int .u64 0, .int .u64 0, .int .u64 0, .int .u64 0, .string ⟨#[]⟩, .slice (some ⟨wr.heap.size, 0, none⟩) 1 1, .slice (some ⟨wr.heap.size + 1 + 1, 0, none⟩) 1 1] 30)).alloc (.cells #[.string ⟨#[107]⟩] 9)).cell? p = wr.cell? p := fun p h1 h2 => by
            rw [(below_alloc (below_alloc (below_alloc (Below.refl _ _) _) _) _).cell (by rw [set10_size]; exact h2), set10_out h1]
          exact ⟨k + 1, 8, false, 0, 0, ⟨#[]⟩, some ⟨wr.heap.size, 0, none⟩, 1, 1, some ⟨wr.heap.size + 2, 0, none⟩, 1, 1, by omega, by omega, rfl, ⟨fun _ => .mk kind neg V bits text aL nL cL kids aK nK cK keys, fun _ => ⟨#[107]⟩, HT.out.map ha (by simp) hb0 ⟨by simp [go_sem]⟩ (by simp [go_sem])⟩, ⟨by simp [go_sem, lm_zero, *]⟩, ⟨by simp [go_sem, *]⟩, by (repeat first | with_reducible exact Below.refl _ _ | with_reducible assumption | with_reducible refine Below.drew ?_ | with_reducible refine below_alloc ?_ _ | ((with_reducible refine Below.setCell ?_ ?_ _); rotate_left; (focus (first | with_reducible exact Nat.le_refl _ | (simp; done) | (simp; omega) | omega))) | (with_reducible refine below_trans ?_ (by assumption)))⟩
        case measure => simp [intOf]; omega
    · have hk' : k = 14 + r := by omega
      subst hk'
      have i1 : ¬ ((14 + r : Nat) : Int) < 14 + (r : Int) := by omega
      obtain ⟨i0, hi, hz0, hz1, hz2⟩ := info_parts infoVal
      clear hb0 hs1 hs2 F0
      obtain ⟨wA, rfl⟩ : ∃ wA, wA = wr := ⟨_, rfl⟩
      go_upto_region 12 with (at_make; refine wpList_make_full _ rfl (.tmp 41) (.tmp 41) 27 rfl wA.heap.size 30 i0 (.agg #[.int .i64 0, .bool false, .int .u64 0, .int .u64 0, .int .u64 0, .int .u64 0, .int .u64 0, .string ⟨#[]⟩, .slice none 0 0, .slice none 0 0]) 10 Tryd.underlying27 hi hz0 hz1 .i64 .i64 _ _ (998 + r) rfl rfl (by omega) (by omega) (by rw [hz2]; omega) (by unfold maxLen; omega) (Nat.le_refl _) ?_; intro w1 hown hg)
      have hrow : Row (w1.alloc (.cells #[.int .i64 7, .bool false, .int .u64 0, .int .u64 0, .int .u64 0, .int .u64 0, .int .u64 0, .string ⟨#[]⟩, .slice (some ⟨wA.heap.size, 0, none⟩) (998 + r) (998 + r), .slice none 0 0] 30)) wA.heap.size 0 (998 + r) := ⟨fun i hi j hj => by
          have h1 := hown.cellAt (i * 10 + j) (by omega)
          rw [made_get hi hj] at h1
          have h2 : (⟨wA.heap.size, i * 10 + j, none⟩ : Addr).block < w1.heap.size := (hown.lt _ rfl).2
          rw [(below_alloc (Below.refl _ _) _).cell h2, h1]
          rfl, fun q => by
          have h2 : (⟨wA.heap.size, q, none⟩ : Addr).block < w1.heap.size := (hown.lt _ rfl).2
          rw [(below_alloc (Below.refl _ _) _).frozen h2]
          exact hown.frozenAt q⟩
      have hX : RBx (w1.alloc (.cells #[.int .i64 7, .bool false, .int .u64 0, .int .u64 0, .int .u64 0, .int .u64 0, .int .u64 0, .string ⟨#[]⟩, .slice (some ⟨wA.heap.size, 0, none⟩) (998 + r) (998 + r), .slice none 0 0] 30)) w1.heap.size (.int .i64 7) (.bool false) (.int .u64 0) (.int .u64 0) (.int .u64 0) (.int .u64 0) (.int .u64 0) (.string ⟨#[]⟩) (.slice (some ⟨wA.heap.size, 0, none⟩) (998 + r) (998 + r)) (.slice none 0 0) := ⟨by simp [go_sem]⟩
      have hbw : Below wA.heap.size wA w1 := (Below.refl _ _).grown hg (Nat.le_refl _) (fun k h => by cases h)
      have hb1 : Below wA.heap.size wA (w1.alloc (.cells #[.int .i64 7, .bool false, .int .u64 0, .int .u64 0, .int .u64 0, .int .u64 0, .int .u64 0, .string ⟨#[]⟩, .slice (some ⟨wA.heap.size, 0, none⟩) (998 + r) (998 + r), .slice none 0 0] 30)) := by (repeat first | with_reducible exact Below.refl _ _ | with_reducible assumption | with_reducible refine Below.drew ?_ | with_reducible refine below_alloc ?_ _ | ((with_reducible refine Below.setCell ?_ ?_ _); rotate_left; (focus (first | with_reducible exact Nat.le_refl _ | (simp; done) | (simp; omega) | omega))) | (with_reducible refine below_trans ?_ (by assumption)))
      have hgl : wA.heap.size < w1.heap.size := (hown.lt _ rfl).2
      have hB10 : w1.heap.size < (w1.alloc (.cells #[.int .i64 7, .bool false, .int .u64 0, .int .u64 0, .int .u64 0, .int .u64 0, .int .u64 0, .string ⟨#[]⟩, .slice (some ⟨wA.heap.size, 0, none⟩) (998 + r) (998 + r), .slice none 0 0] 30)).heap.size := by simp
      obtain ⟨B, hBd⟩ : ∃ B, B = w1.heap.size := ⟨_, rfl⟩
      obtain ⟨W2, hW2d⟩ : ∃ W2, W2 = w1.alloc (.cells #[.int .i64 7, .bool false, .int .u64 0, .int .u64 0, .int .u64 0, .int .u64 0, .int .u64 0, .string ⟨#[]⟩, .slice (some ⟨wA.heap.size, 0, none⟩) (998 + r) (998 + r), .slice none 0 0] 30) := ⟨_, rfl⟩
      rw [← hBd, ← hW2d] at hX hB10
      rw [← hW2d] at hrow hb1
      rw [← hBd] at hgl
      rw [← hBd, ← hW2d]
      clear hown hg hbw hBd hW2d hs0 i1
      repeat any_goals (first | go_skip | go_guarded | go_step | go_upon | (simp only []; done))
      go_loopw [11] (fun i wx => ∃ k : Nat, k ≤ 998 + r ∧ i = .int .i64 k ∧ Row wx wA.heap.size k (998 + r) ∧ RBx wx B (.int .i64 7) (.bool false) (.int .u64 0) (.int .u64 0) (.int .u64 0) (.int .u64 0) (.int .u64 0) (.string ⟨#[]⟩) (.slice (some ⟨wA.heap.size, 0, none⟩) (998 + r) (998 + r)) (.slice none 0 0) ∧ B < wx.heap.size ∧ Below wA.heap.size wA wx) (fun i _ => 998 + r - (intOf i).toNat)
      case atStart => exact ⟨0, Nat.zero_le _, rfl, hrow, hX, hB10, hb1⟩
      case round =>
        clear hrow hX hB10 hb1
        obtain ⟨k, hk, rfl, hrow, hX, hB, hb1⟩ := hrel
        have HROW := Lib.hid hrow
        obtain ⟨_, _, _, _, _, _, _, _, _, _⟩ := hX.all
        by_cases hkK : k < 998 + r
        · have i1 : (k : Int) < 998 + (r : Int) := by omega
          have i2 : (0 : Int) ≤ (k : Int) := by omega
          have i3 : (k : Int) < ((998 + r : Nat) : Int) := by omega
          have i5 : (k : Int).toNat = k := rfl
          have ea := i64_and1 k
          obtain ⟨⟨_, _, _, _, _, _, _, _, _, _⟩, _, _, _, _, _, _, _, _, _, _⟩ := (hrow.ten hkK).all
          clear hrow
          have hne1 : ¬ wA.heap.size = B := by omega
          have hne2 : ¬ B = wA.heap.size := by omega
          repeat any_goals (first | go_skip | go_guarded | go_step | go_upon | (simp only []; done))
          go_roundw
          case rel => exact ⟨k + 1, by omega, rfl, HROW.out.step hkK, ⟨by simp [go_sem, *]⟩, by simp; omega, by (repeat first | with_reducible exact Below.refl _ _ | with_reducible assumption | with_reducible refine Below.drew ?_ | with_reducible refine below_alloc ?_ _ | ((with_reducible refine Below.setCell ?_ ?_ _); rotate_left; (focus (first | with_reducible exact Nat.le_refl _ | (simp; done) | (simp; omega) | omega))) | (with_reducible refine below_trans ?_ (by assumption)))⟩
          case measure => simp [intOf]; omega
        · have hk' : k = 998 + r := by omega
          subst hk'
          have i1 : ¬ ((998 + r : Nat) : Int) < 998 + (r : Int) := by omega
          obtain ⟨i1', hi', hy0, hy1, hy2⟩ := info_parts infoU8
          clear hrow
          go_upto_region 18 with (at_make; refine wpList_make_full _ rfl (.tmp 62) (.tmp 62) 36 rfl wr.heap.size 5 i1' (.int .u8 0) 1 Tryd.underlying36 hi' hy0 hy1 .i64 .i64 _ _ (4094 + r) rfl rfl (by omega) (by omega) (by rw [hy2]; omega) (by unfold maxLen; omega) (Nat.le_refl _) ?_; intro w3 hown3 hg3; have hconv := conv_noughts hown3)
          have hc1 : Below wr.heap.size wr w3 := (Below.refl _ _).grown hg3 (Nat.le_refl _) (fun k h => by cases h)
          have hA3 : Below wA.heap.size wA (w3.alloc (.cells #[.int .i64 6, .bool false, .int .u64 0, .int .u64 0, .int .u64 0, .int .u64 0, .int .u64 0, .string (nulS (4094 + r)), .slice none 0 0, .slice none 0 0] 30)) := below_alloc (below_trans hb1 hc1) _
          have hr3 : Below wr.heap.size wr (w3.alloc (.cells #[.int .i64 6, .bool false, .int .u64 0, .int .u64 0, .int .u64 0, .int .u64 0, .int .u64 0, .string (nulS (4094 + r)), .slice none 0 0, .slice none 0 0] 30)) := below_alloc hc1 _
          have V5 := Lib.hid (V0.out.below hA3)
          have VX5 := Lib.hid (hX.below hr3)
          have VY5 := Lib.hid (show RBx (w3.alloc (.cells #[.int .i64 6, .bool false, .int .u64 0, .int .u64 0, .int .u64 0, .int .u64 0, .int .u64 0, .string (nulS (4094 + r)), .slice none 0 0, .slice none 0 0] 30)) w3.heap.size (.int .i64 6) (.bool false) (.int .u64 0) (.int .u64 0) (.int .u64 0) (.int .u64 0) (.int .u64 0) (.string (nulS (4094 + r))) (.slice none 0 0) (.slice none 0 0) from ⟨by simp [go_sem]⟩)
          have hTin := VT.In.below hA3 _ HT.out.i
          have hAin : (arrT wA.heap.size (998 + r)).In (w3.alloc (.cells #[.int .i64 6, .bool false, .int .u64 0, .int .u64 0, .int .u64 0, .int .u64 0, .int .u64 0, .string (nulS (4094 + r)), .slice none 0 0, .slice none 0 0] 30)) := VT.In.below hr3 _ (arr_in HROW.out (Nat.lt_of_lt_of_le hgl (by have := World.block_lt_of_cell? wr _ hX.all.1; omega)) (by unfold maxLen; omega))
          have hW4 : Below w.heap.size w (w3.alloc (.cells #[.int .i64 6, .bool false, .int .u64 0, .int .u64 0, .int .u64 0, .int .u64 0, .int .u64 0, .string (nulS (4094 + r)), .slice none 0 0, .slice none 0 0] 30)) := below_trans hW hA3
          obtain ⟨B3, hB3⟩ : ∃ B3, B3 = w3.heap.size := ⟨_, rfl⟩
          obtain ⟨W4, hW4d⟩ : ∃ W4, W4 = w3.alloc (.cells #[.int .i64 6, .bool false, .int .u64 0, .int .u64 0, .int .u64 0, .int .u64 0, .int .u64 0, .string (nulS (4094 + r)), .slice none 0 0, .slice none 0 0] 30) := ⟨_, rfl⟩
          rw [← hB3, ← hW4d] at VY5
          rw [← hW4d] at V5 VX5 hTin hAin hW4
          rw [← hB3, ← hW4d]
          have hSin : (leafT 6 false 0 0 (nulS (4094 + r))).In W4 := leaf_in W4 (by decide) (by decide) (by decide) (by decide) (by rw [nulS_size]; unfold maxLen; omega)
          have D0 := Lib.hid fun (wx : World) (hb : Below W4.heap.size W4 wx) => C.out.ct wx (below_trans hW4 hb)
          have D1 : Hid (∀ wx : World, Below W4.heap.size W4 wx → Calls Tryd.prog 18 #[.agg #[.int .i64 kind, .bool neg, .int .u64 (lm V 0 : Nat), .int .u64 (lm V 1 : Nat), .int .u64 (lm V 2 : Nat), .int .u64 (lm V 3 : Nat), .int .u64 (bits : Nat), .string text, .slice aL nL cL, .slice aK nK cK]] wx fun e w' => e = .returned (.int .i64 (14 + (r : Int))) ∧ Below wx.heap.size wx w') := Lib.hid fun wx hb => by
            have h := C.out.cd _ wx (below_trans hW4 hb) (hTin.below hb) (by rw [HT.out.n]; omega)
            rw [HT.out.d, show ((14 + r : Nat) : Int) = 14 + (r : Int) by omega] at h
            exact h
          have D2 : Hid (∀ wx : World, Below W4.heap.size W4 wx → Calls Tryd.prog 16 #[.agg #[.int .i64 kind, .bool neg, .int .u64 (lm V 0 : Nat), .int .u64 (lm V 1 : Nat), .int .u64 (lm V 2 : Nat), .int .u64 (lm V 3 : Nat), .int .u64 (bits : Nat), .string text, .slice aL nL cL, .slice aK nK cK]] wx fun e w' => e = .returned (.int .i64 (if 16 < 14 + r then 4 else 0)) ∧ Below wx.heap.size wx w') := Lib.hid fun wx hb => by
            have h := C.out.cm _ wx (below_trans hW4 hb) (hTin.below hb) (by rw [HT.out.n]; omega)
            rw [chn_may HT.out (by omega)] at h
            exact h
          have D3 : Hid (∀ wx : World, Below W4.heap.size W4 wx → Calls Tryd.prog 16 #[.agg #[.int .i64 7, .bool false, .int .u64 0, .int .u64 0, .int .u64 0, .int .u64 0, .int .u64 0, .string ⟨#[]⟩, .slice (some ⟨wA.heap.size, 0, none⟩) (998 + r) (998 + r), .slice none 0 0]] wx fun e w' => e = .returned (.int .i64 (if 1000 < 998 + r then 8 else 0)) ∧ Below wx.heap.size wx w') := Lib.hid fun wx hb => by
            have h := C.out.cm _ wx (below_trans hW4 hb) (hAin.below hb) (by rw [arr_nodes]; omega)
            rw [arr_may _ _ (by omega) (by omega)] at h
            simp only [VT.agg, VT.cells, lm_zero] at h
            exact h
          have D4 : Hid (∀ wx : World, Below W4.heap.size W4 wx → Calls Tryd.prog 20 #[.agg #[.int .i64 7, .bool false, .int .u64 0, .int .u64 0, .int .u64 0, .int .u64 0, .int .u64 0, .string ⟨#[]⟩, .slice (some ⟨wA.heap.size, 0, none⟩) (998 + r) (998 + r), .slice none 0 0]] wx fun e w' => e = .returned (.int .i64 (998 + (r : Int) + 1)) ∧ Below wx.heap.size wx w') := Lib.hid fun wx hb => by
            have h := C.out.cn _ wx (below_trans hW4 hb) (hAin.below hb) (by rw [arr_nodes]; omega)
            rw [arr_nodes, show ((998 + r + 1 : Nat) : Int) = 998 + (r : Int) + 1 by omega] at h
            simp only [VT.agg, VT.cells, lm_zero] at h
            exact h
          have D5 : Hid (∀ wx : World, Below W4.heap.size W4 wx → Calls Tryd.prog 16 #[.agg #[.int .i64 6, .bool false, .int .u64 0, .int .u64 0, .int .u64 0, .int .u64 0, .int .u64 0, .string (nulS (4094 + r)), .slice none 0 0, .slice none 0 0]] wx fun e w' => e = .returned (.int .i64 (if 4096 < 4094 + r then 8 else 0)) ∧ Below wx.heap.size wx w') := Lib.hid fun wx hb => by
            have h := C.out.cm _ wx (below_trans hW4 hb) (hSin.below hb) (by rw [leaf_nodes]; decide)
            rw [text_may] at h
            simp only [leafT, VT.agg, VT.cells, lm_zero] at h
            exact h
          clear hown3 hg3 hconv hc1 hA3 hr3 hTin hAin hSin hB3 hW4d hb1 hX hB HROW HT V0 C
          by_cases h3 : r < 3
          · have j1 : ¬ (16 : Int) < 14 + (r : Int) := by omega
            have j2 : ¬ (1000 : Int) < 998 + (r : Int) := by omega
            have j3 : ¬ (4096 : Int) < 4094 + (r : Int) := by omega
            rw [if_neg (by omega)] at D2 D3 D5
            repeat any_goals (first | (go_at_call 13; with_reducible refine (D0.out _ (by (repeat first | with_reducible exact Below.refl _ _ | with_reducible assumption | with_reducible refine Below.drew ?_ | with_reducible refine below_alloc ?_ _ | ((with_reducible refine Below.setCell ?_ ?_ _); rotate_left; (focus (first | with_reducible exact Nat.le_refl _ | (simp; done) | (simp; omega) | omega))) | (with_reducible refine below_trans ?_ (by assumption))))).mono ?_; rintro e w5 ⟨rfl, hb5⟩; (first | have V6 := Lib.hid (V5.out.below hb5) | have V6 := Lib.hid (V5.out.step hb5)); obtain ⟨_, _, _, _, _, _, _, _, _, _⟩ := V6.out.all; (first | have TX6 := Lib.hid (VX5.out.below hb5) | have TX6 := Lib.hid (VX5.out.step hb5)); (first | have TY6 := Lib.hid (VY5.out.below hb5) | have TY6 := Lib.hid (VY5.out.step hb5))) | (go_at_call 18; with_reducible refine (D1.out _ (by (repeat first | with_reducible exact Below.refl _ _ | with_reducible assumption | with_reducible refine Below.drew ?_ | with_reducible refine below_alloc ?_ _ | ((with_reducible refine Below.setCell ?_ ?_ _); rotate_left; (focus (first | with_reducible exact Nat.le_refl _ | (simp; done) | (simp; omega) | omega))) | (with_reducible refine below_trans ?_ (by assumption))))).mono ?_; rintro e w6 ⟨rfl, hb6⟩; (first | have V7 := Lib.hid (V6.out.below hb6) | have V7 := Lib.hid (V6.out.step hb6)); obtain ⟨_, _, _, _, _, _, _, _, _, _⟩ := V7.out.all; (first | have TX7 := Lib.hid (TX6.out.below hb6) | have TX7 := Lib.hid (TX6.out.step hb6)); (first | have TY7 := Lib.hid (TY6.out.below hb6) | have TY7 := Lib.hid (TY6.out.step hb6))) | (go_at_call 16; with_reducible refine (D2.out _ (by (repeat first | with_reducible exact Below.refl _ _ | with_reducible assumption | with_reducible refine Below.drew ?_ | with_reducible refine below_alloc ?_ _ | ((with_reducible refine Below.setCell ?_ ?_ _); rotate_left; (focus (first | with_reducible exact Nat.le_refl _ | (simp; done) | (simp; omega) | omega))) | (with_reducible refine below_trans ?_ (by assumption))))).mono ?_; rintro e w7 ⟨rfl, hb7⟩; (first | have VX8 := Lib.hid (TX7.out.below hb7) | have VX8 := Lib.hid (TX7.out.step hb7)); obtain ⟨_, _, _, _, _, _, _, _, _, _⟩ := VX8.out.all; (first | have TY8 := Lib.hid (TY7.out.below hb7) | have TY8 := Lib.hid (TY7.out.step hb7))) | (go_at_call 16; with_reducible refine (D3.out _ (by (repeat first | with_reducible exact Below.refl _ _ | with_reducible assumption | with_reducible refine Below.drew ?_ | with_reducible refine below_alloc ?_ _ | ((with_reducible refine Below.setCell ?_ ?_ _); rotate_left; (focus (first | with_reducible exact Nat.le_refl _ | (simp; done) | (simp; omega) | omega))) | (with_reducible refine below_trans ?_ (by assumption))))).mono ?_; rintro e w8 ⟨rfl, hb8⟩; (first | have VX9 := Lib.hid (VX8.out.below hb8) | have VX9 := Lib.hid (VX8.out.step hb8)); obtain ⟨_, _, _, _, _, _, _, _, _, _⟩ := VX9.out.all; (first | have TY9 := Lib.hid (TY8.out.below hb8) | have TY9 := Lib.hid (TY8.out.step hb8))) | (go_at_call 20; with_reducible refine (D4.out _ (by (repeat first | with_reducible exact Below.refl _ _ | with_reducible assumption | with_reducible refine Below.drew ?_ | with_reducible refine below_alloc ?_ _ | ((with_reducible refine Below.setCell ?_ ?_ _); rotate_left; (focus (first | with_reducible exact Nat.le_refl _ | (simp; done) | (simp; omega) | omega))) | (with_reducible refine below_trans ?_ (by assumption))))).mono ?_; rintro e w9 ⟨rfl, hb9⟩; (first | have VY10 := Lib.hid (TY9.out.below hb9) | have VY10 := Lib.hid (TY9.out.step hb9)); obtain ⟨_, _, _, _, _, _, _, _, _, _⟩ := VY10.out.all) | (go_at_call 16; with_reducible refine (D5.out _ (by (repeat first | with_reducible exact Below.refl _ _ | with_reducible assumption | with_reducible refine Below.drew ?_ | with_reducible refine below_alloc ?_ _ | ((with_reducible refine Below.setCell ?_ ?_ _); rotate_left; (focus (first | with_reducible exact Nat.le_refl _ | (simp; done) | (simp; omega) | omega))) | (with_reducible refine below_trans ?_ (by assumption))))).mono ?_; rintro e w10 ⟨rfl, hb10⟩) | go_skip | go_guarded | go_step | go_upon | (dsimp only []))
            exact bodyPost_ret (v := .bool true) (by simp [results, Tryd.results4, go_sem]) rfl ⟨rfl, by (repeat first | with_reducible exact Below.refl _ _ | with_reducible assumption | with_reducible refine Below.drew ?_ | with_reducible refine below_alloc ?_ _ | ((with_reducible refine Below.setCell ?_ ?_ _); rotate_left; (focus (first | with_reducible exact Nat.le_refl _ | (simp; done) | (simp; omega) | omega))) | (with_reducible refine below_trans ?_ (by assumption)))⟩
          · have j1 : (16 : Int) < 14 + (r : Int) := by omega
            have j2 : (1000 : Int) < 998 + (r : Int) := by omega
            have j3 : (4096 : Int) < 4094 + (r : Int) := by omega
            rw [if_pos (by omega)] at D2 D3 D5
            repeat any_goals (first | (go_at_call 13; with_reducible refine (D0.out _ (by (repeat first | with_reducible exact Below.refl _ _ | with_reducible assumption | with_reducible refine Below.drew ?_ | with_reducible refine below_alloc ?_ _ | ((with_reducible refine Below.setCell ?_ ?_ _); rotate_left; (focus (first | with_reducible exact Nat.le_refl _ | (simp; done) | (simp; omega) | omega))) | (with_reducible refine below_trans ?_ (by assumption))))).mono ?_; rintro e w5 ⟨rfl, hb5⟩; (first | have V6 := Lib.hid (V5.out.below hb5) | have V6 := Lib.hid (V5.out.step hb5)); obtain ⟨_, _, _, _, _, _, _, _, _, _⟩ := V6.out.all; (first | have TX6 := Lib.hid (VX5.out.below hb5) | have TX6 := Lib.hid (VX5.out.step hb5)); (first | have TY6 := Lib.hid (VY5.out.below hb5) | have TY6 := Lib.hid (VY5.out.step hb5))) | (go_at_call 18; with_reducible refine (D1.out _ (by (repeat first | with_reducible exact Below.refl _ _ | with_reducible assumption | with_reducible refine Below.drew ?_ | with_reducible refine below_alloc ?_ _ | ((with_reducible refine Below.setCell ?_ ?_ _); rotate_left; (focus (first | with_reducible exact Nat.le_refl _ | (simp; done) | (simp; omega) | omega))) | (with_reducible refine below_trans ?_ (by assumption))))).mono ?_; rintro e w6 ⟨rfl, hb6⟩; (first | have V7 := Lib.hid (V6.out.below hb6) | have V7 := Lib.hid (V6.out.step hb6)); obtain ⟨_, _, _, _, _, _, _, _, _, _⟩ := V7.out.all; (first | have TX7 := Lib.hid (TX6.out.below hb6) | have TX7 := Lib.hid (TX6.out.step hb6)); (first | have TY7 := Lib.hid (TY6.out.below hb6) | have TY7 := Lib.hid (TY6.out.step hb6))) | (go_at_call 16; with_reducible refine (D2.out _ (by (repeat first | with_reducible exact Below.refl _ _ | with_reducible assumption | with_reducible refine Below.drew ?_ | with_reducible refine below_alloc ?_ _ | ((with_reducible refine Below.setCell ?_ ?_ _); rotate_left; (focus (first | with_reducible exact Nat.le_refl _ | (simp; done) | (simp; omega) | omega))) | (with_reducible refine below_trans ?_ (by assumption))))).mono ?_; rintro e w7 ⟨rfl, hb7⟩; (first | have VX8 := Lib.hid (TX7.out.below hb7) | have VX8 := Lib.hid (TX7.out.step hb7)); obtain ⟨_, _, _, _, _, _, _, _, _, _⟩ := VX8.out.all; (first | have TY8 := Lib.hid (TY7.out.below hb7) | have TY8 := Lib.hid (TY7.out.step hb7))) | (go_at_call 16; with_reducible refine (D3.out _ (by (repeat first | with_reducible exact Below.refl _ _ | with_reducible assumption | with_reducible refine Below.drew ?_ | with_reducible refine below_alloc ?_ _ | ((with_reducible refine Below.setCell ?_ ?_ _); rotate_left; (focus (first | with_reducible exact Nat.le_refl _ | (simp; done) | (simp; omega) | omega))) | (with_reducible refine below_trans ?_ (by assumption))))).mono ?_; rintro e w8 ⟨rfl, hb8⟩; (first | have VX9 := Lib.hid (VX8.out.below hb8) | have VX9 := Lib.hid (VX8.out.step hb8)); obtain ⟨_, _, _, _, _, _, _, _, _, _⟩ := VX9.out.all; (first | have TY9 := Lib.hid (TY8.out.below hb8) | have TY9 := Lib.hid (TY8.out.step hb8))) | (go_at_call 20; with_reducible refine (D4.out _ (by (repeat first | with_reducible exact Below.refl _ _ | with_reducible assumption | with_reducible refine Below.drew ?_ | with_reducible refine below_alloc ?_ _ | ((with_reducible refine Below.setCell ?_ ?_ _); rotate_left; (focus (first | with_reducible exact Nat.le_refl _ | (simp; done) | (simp; omega) | omega))) | (with_reducible refine below_trans ?_ (by assumption))))).mono ?_; rintro e w9 ⟨rfl, hb9⟩; (first | have VY10 := Lib.hid (TY9.out.below hb9) | have VY10 := Lib.hid (TY9.out.step hb9)); obtain ⟨_, _, _, _, _, _, _, _, _, _⟩ := VY10.out.all) | (go_at_call 16; with_reducible refine (D5.out _ (by (repeat first | with_reducible exact Below.refl _ _ | with_reducible assumption | with_reducible refine Below.drew ?_ | with_reducible refine below_alloc ?_ _ | ((with_reducible refine Below.setCell ?_ ?_ _); rotate_left; (focus (first | with_reducible exact Nat.le_refl _ | (simp; done) | (simp; omega) | omega))) | (with_reducible refine below_trans ?_ (by assumption))))).mono ?_; rintro e w10 ⟨rfl, hb10⟩) | go_skip | go_guarded | go_step | go_upon | (dsimp only []))
            exact bodyPost_ret (v := .bool true) (by simp [results, Tryd.results4, go_sem]) rfl ⟨rfl, by (repeat first | with_reducible exact Below.refl _ _ | with_reducible assumption | with_reducible refine Below.drew ?_ | with_reducible refine below_alloc ?_ _ | ((with_reducible refine Below.setCell ?_ ?_ _); rotate_left; (focus (first | with_reducible exact Nat.le_refl _ | (simp; done) | (simp; omega) | omega))) | (with_reducible refine below_trans ?_ (by assumption)))⟩
theorem ValueBounds_any (n : Int) (maps : Bool) (w : World) (_h0 : -9223372036854775808 ≤ n) (_h1 : n < 9223372036854775808) (hU : U8T w) (hT : Tab w) :
    Calls Tryd.prog 4 #[.int .i64 n, .bool maps] w fun e w' => e = .returned (.bool true) ∧ Below w.heap.size w w' := by
  have h1 : 0 ≤ IntKind.u64.wrap n := by
    unfold IntKind.wrap
    simp [IntKind.signed, IntKind.bits]
    omega
  refine Bounds_walk n maps ((IntKind.u64.wrap n).tmod 5).toNat ?_ w ?_ (Lib.hid ⟨fun wr hb => told_any wr (Utf8Tabs_below hU hb) (hT.below hb), fun T wr _ hi hn => Depth_any T wr hi hn, fun T wr _ hi hn => Nodes_any T wr hi hn, fun T wr hb hi hn => MayV_any T wr hi (Utf8Tabs_below hU hb) (hT.below hb) hn⟩)
  · rw [Int.tmod_eq_emod_of_nonneg h1]; omega
  · rw [Int.tmod_eq_emod_of_nonneg h1]; omega
end Go.Proofs.YtminijokbeclhaaDoor
