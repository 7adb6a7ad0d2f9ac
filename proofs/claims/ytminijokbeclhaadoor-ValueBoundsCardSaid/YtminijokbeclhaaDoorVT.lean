/- VALUES AS TREES: a value that came in, with what it leads to. -/
import Derived.Test.YtminijokbeclhaaDoorGen
namespace Go.Proofs.YtminijokbeclhaaDoor
open Go.RowKit
/-- a value: its own cells; its elements by index (of those below nL only); its names by index (below nK) -/
inductive VT where
  | nil
  | mk (kind : Int) (neg : Bool) (V bits : Nat) (text : ByteArray) (aL : Option Addr) (nL cL : Nat) (kids : Nat → VT) (aK : Option Addr) (nK cK : Nat) (keys : Nat → ByteArray)
instance : Inhabited VT := ⟨.nil⟩
/-- the ten cells of a value -/
def VT.cells : VT → List Value
  | .nil => []
  | .mk kind neg V bits text aL nL cL _ aK nK cK _ => [.int .i64 kind, .bool neg, .int .u64 (lm V 0 : Nat), .int .u64 (lm V 1 : Nat), .int .u64 (lm V 2 : Nat), .int .u64 (lm V 3 : Nat), .int .u64 (bits : Nat), .string text, .slice aL nL cL, .slice aK nK cK]
/-- a value as an argument -/
def VT.agg (T : VT) : Value := .agg T.cells.toArray
/-- what holds of a value's own cells -/
structure VOwn (kind : Int) (V bits : Nat) (text : ByteArray) (nL cL nK cK : Nat) : Prop where
  k0 : -9223372036854775808 ≤ kind
  k1 : kind < 9223372036854775808
  v : V < 2 ^ 256
  b : bits < 18446744073709551616
  t : text.size ≤ maxLen
  l : nL ≤ cL
  lc : cL ≤ maxLen
  n : nK ≤ cK
  nc : cK ≤ maxLen
/-- the value lies in the world: its elements' cells, its names' cells, and so below -/
def VT.In (w : World) : VT → Prop
  | .nil => False
  | .mk kind _ V bits text aL nL cL kids aK nK cK keys => VOwn kind V bits text nL cL nK cK ∧
      (nL = 0 ∨ ∃ b off, aL = some ⟨b, off, none⟩ ∧ b < w.heap.size ∧ ∀ i, i < nL → ∀ j, j < 10 → w.cell? ⟨b, off + i * 10 + j, none⟩ = (kids i).cells[j]?) ∧
      (∀ i, i < nL → (kids i).In w) ∧
      (nK = 0 ∨ ∃ b off, aK = some ⟨b, off, none⟩ ∧ b < w.heap.size ∧ ∀ i, i < nK → w.cell? ⟨b, off + i, none⟩ = some (.string (keys i)) ∧ (keys i).size ≤ maxLen)
theorem VT.In.below {w w' : World} (hb : Below w.heap.size w w') : ∀ (T : VT), T.In w → T.In w' := by
  intro T
  induction T with
  | nil => exact id
  | mk kind neg V bits text aL nL cL kids aK nK cK keys ih =>
    rintro ⟨o, l, k, n⟩
    refine ⟨o, ?_, fun i hi => ih i (k i hi), ?_⟩
    · rcases l with l | ⟨b, off, e, hl, hc⟩
      · exact .inl l
      · exact .inr ⟨b, off, e, Nat.lt_of_lt_of_le hl hb.size, fun i hi j hj => by rw [hb.cell (p := ⟨b, off + i * 10 + j, none⟩) hl]; exact hc i hi j hj⟩
    · rcases n with n | ⟨b, off, e, hl, hc⟩
      · exact .inl n
      · exact .inr ⟨b, off, e, Nat.lt_of_lt_of_le hl hb.size, fun i hi => ⟨by rw [hb.cell (p := ⟨b, off + i, none⟩) hl]; exact (hc i hi).1, (hc i hi).2⟩⟩
/-! ### how deep, how many -/
def maxN (f : Nat → Nat) : Nat → Nat
  | 0 => 0
  | n + 1 => max (maxN f n) (f n)
def sumN (f : Nat → Nat) : Nat → Nat
  | 0 => 0
  | n + 1 => sumN f n + f n
def VT.depth : VT → Nat
  | .nil => 0
  | .mk _ _ _ _ _ _ nL _ kids _ _ _ _ => maxN (fun i => (kids i).depth) nL + 1
def VT.nodes : VT → Nat
  | .nil => 0
  | .mk _ _ _ _ _ _ nL _ kids _ _ _ _ => sumN (fun i => (kids i).nodes) nL + 1
theorem keep_cell {w1 w2 : World} {p : Addr} {v : Value} (hb : Below w1.heap.size w1 w2) (h : w1.cell? p = some v) : w2.cell? p = some v := by
  rw [hb.cell (p := p) (World.block_lt_of_cell? w1 _ h)]
  exact h
theorem below_two {w w1 w2 : World} (h1 : Below w.heap.size w w1) {o : Obj} (h2 : Below (w1.alloc o).heap.size (w1.alloc o) w2) : Below w.heap.size w w2 := below_trans (below_alloc h1 o) h2
/-- the slice of a value's elements: an element's cells, in a world that grew -/
theorem kid_cells {w wr : World} {aL : Option Addr} {nL : Nat} {kids : Nat → VT} (h : nL = 0 ∨ ∃ b off, aL = some ⟨b, off, none⟩ ∧ b < w.heap.size ∧ ∀ i, i < nL → ∀ j, j < 10 → w.cell? ⟨b, off + i * 10 + j, none⟩ = (kids i).cells[j]?)
    (hn : 0 < nL) : ∃ b off, aL = some ⟨b, off, none⟩ ∧ (Below w.heap.size w wr → ∀ i, i < nL → ∀ j, j < 10 → wr.cell? ⟨b, off + i * 10 + j, none⟩ = (kids i).cells[j]?) := by
  rcases h with h | ⟨b, off, rfl, hb, hc⟩
  · omega
  · exact ⟨b, off, rfl, fun hB i hi j hj => by rw [hB.cell (p := ⟨b, off + i * 10 + j, none⟩) hb]; exact hc i hi j hj⟩
/-- an element: its parts, its cells in a world that grew, and that it lies there -/
theorem kid_lit {w wr : World} {aL : Option Addr} {nL i : Nat} {kids : Nat → VT} (hL : nL = 0 ∨ ∃ b off, aL = some ⟨b, off, none⟩ ∧ b < w.heap.size ∧ ∀ i, i < nL → ∀ j, j < 10 → w.cell? ⟨b, off + i * 10 + j, none⟩ = (kids i).cells[j]?)
    (hK : ∀ i, i < nL → (kids i).In w) (hi : i < nL) (hB : Below w.heap.size w wr) :
    ∃ (b off : Nat) (kind : Int) (neg : Bool) (V bits : Nat) (text : ByteArray) (aL' : Option Addr) (nL' cL' : Nat) (kids' : Nat → VT) (aK : Option Addr) (nK cK : Nat) (keys : Nat → ByteArray),
      aL = some ⟨b, off, none⟩ ∧ b < w.heap.size ∧ kids i = .mk kind neg V bits text aL' nL' cL' kids' aK nK cK keys ∧
      (wr.cell? ⟨b, off + i * 10, none⟩ = some (.int .i64 kind) ∧ wr.cell? ⟨b, off + i * 10 + 1, none⟩ = some (.bool neg) ∧ wr.cell? ⟨b, off + i * 10 + 2, none⟩ = some (.int .u64 (lm V 0 : Nat)) ∧
      wr.cell? ⟨b, off + i * 10 + 3, none⟩ = some (.int .u64 (lm V 1 : Nat)) ∧ wr.cell? ⟨b, off + i * 10 + 4, none⟩ = some (.int .u64 (lm V 2 : Nat)) ∧ wr.cell? ⟨b, off + i * 10 + 5, none⟩ = some (.int .u64 (lm V 3 : Nat)) ∧
      wr.cell? ⟨b, off + i * 10 + 6, none⟩ = some (.int .u64 (bits : Nat)) ∧ wr.cell? ⟨b, off + i * 10 + 7, none⟩ = some (.string text) ∧ wr.cell? ⟨b, off + i * 10 + 8, none⟩ = some (.slice aL' nL' cL') ∧
      wr.cell? ⟨b, off + i * 10 + 9, none⟩ = some (.slice aK nK cK)) ∧ (kids i).In wr := by
  obtain ⟨b, off, rfl, hb, hc⟩ : ∃ b off, aL = some ⟨b, off, none⟩ ∧ b < w.heap.size ∧ ∀ i, i < nL → ∀ j, j < 10 → w.cell? ⟨b, off + i * 10 + j, none⟩ = (kids i).cells[j]? := by
    rcases hL with h | h
    · omega
    · exact h
  have hk := hK i hi
  have hk2 := VT.In.below hB _ hk
  have hc := hc i hi
  generalize kids i = T at hk hk2 hc
  cases T with
  | nil => exact hk.elim
  | mk kind neg V bits text aL' nL' cL' kids' aK nK cK keys =>
    have hw : ∀ j, j < 10 → wr.cell? ⟨b, off + i * 10 + j, none⟩ = (VT.cells (.mk kind neg V bits text aL' nL' cL' kids' aK nK cK keys))[j]? := fun j hj => by
      rw [hB.cell (p := ⟨b, off + i * 10 + j, none⟩) hb]
      exact hc j hj
    exact ⟨b, off, kind, neg, V, bits, text, aL', nL', cL', kids', aK, nK, cK, keys, rfl, hb, rfl, ⟨hw 0 (by omega), hw 1 (by omega), hw 2 (by omega), hw 3 (by omega), hw 4 (by omega), hw 5 (by omega), hw 6 (by omega), hw 7 (by omega), hw 8 (by omega), hw 9 (by omega)⟩, hk2⟩
theorem key_lit {w wr : World} {aK : Option Addr} {nK i : Nat} {keys : Nat → ByteArray} (hK : nK = 0 ∨ ∃ b off, aK = some ⟨b, off, none⟩ ∧ b < w.heap.size ∧ ∀ i, i < nK → w.cell? ⟨b, off + i, none⟩ = some (.string (keys i)) ∧ (keys i).size ≤ maxLen)
    (hi : i < nK) (hB : Below w.heap.size w wr) : ∃ b off : Nat, aK = some ⟨b, off, none⟩ ∧ b < w.heap.size ∧ wr.cell? ⟨b, off + i, none⟩ = some (.string (keys i)) ∧ (keys i).size ≤ maxLen := by
  rcases hK with h | ⟨b, off, rfl, hb, hc⟩
  · omega
  · exact ⟨b, off, rfl, hb, by rw [hB.cell (p := ⟨b, off + i, none⟩) hb]; exact (hc i hi).1, (hc i hi).2⟩
theorem maxN_le {f : Nat → Nat} {n i : Nat} (hi : i < n) : f i ≤ maxN f n := by
  induction n with
  | zero => omega
  | succ n ih =>
    simp only [maxN]
    by_cases h : i < n
    · exact Nat.le_trans (ih h) (Nat.le_max_left _ _)
    · have : i = n := by omega
      subst this
      exact Nat.le_max_right _ _
theorem sumN_le {f : Nat → Nat} {n i : Nat} (hi : i ≤ n) : sumN f i ≤ sumN f n := by
  induction n with
  | zero => have : i = 0 := by omega
            subst this; exact Nat.le_refl _
  | succ n ih =>
    by_cases h : i ≤ n
    · exact Nat.le_trans (ih h) (Nat.le_add_right _ _)
    · have : i = n + 1 := by omega
      subst this
      exact Nat.le_refl _
theorem sumN_one {f : Nat → Nat} {n i : Nat} (hi : i < n) : f i ≤ sumN f n :=
  Nat.le_trans (Nat.le_add_left _ _) (sumN_le (f := f) (show i + 1 ≤ n from hi))
theorem VT.depth_nodes : ∀ T : VT, T.depth ≤ T.nodes := by
  intro T
  induction T with
  | nil => exact Nat.le_refl _
  | mk kind neg V bits text aL nL cL kids aK nK cK keys ih =>
    simp only [VT.depth, VT.nodes]
    have : ∀ n, maxN (fun i => (kids i).depth) n ≤ sumN (fun i => (kids i).nodes) n := by
      intro n
      induction n with
      | zero => exact Nat.le_refl _
      | succ n ih2 =>
        simp only [maxN, sumN]
        have := ih n
        omega
    have := this nL
    omega
theorem VT.nodes_kid {kind : Int} {neg : Bool} {V bits : Nat} {text : ByteArray} {aL : Option Addr} {nL cL : Nat} {kids : Nat → VT} {aK : Option Addr} {nK cK : Nat} {keys : Nat → ByteArray} {M i : Nat}
    (h : (VT.mk kind neg V bits text aL nL cL kids aK nK cK keys).nodes < M) (hi : i < nL) : (kids i).nodes < M := by
  have := sumN_one (f := fun i => (kids i).nodes) hi
  simp only [VT.nodes] at h
  omega
theorem VT.nodes_sum {kind : Int} {neg : Bool} {V bits : Nat} {text : ByteArray} {aL : Option Addr} {nL cL : Nat} {kids : Nat → VT} {aK : Option Addr} {nK cK : Nat} {keys : Nat → ByteArray} {M k : Nat}
    (h : (VT.mk kind neg V bits text aL nL cL kids aK nK cK keys).nodes < M) (hk : k ≤ nL) : sumN (fun i => (kids i).nodes) k < M := by
  have := sumN_le (f := fun i => (kids i).nodes) hk
  simp only [VT.nodes] at h
  omega
theorem maxN_sumN {f g : Nat → Nat} (h : ∀ i, f i ≤ g i) : ∀ n, maxN f n ≤ sumN g n := by
  intro n
  induction n with
  | zero => exact Nat.le_refl _
  | succ n ih =>
    simp only [maxN, sumN]
    have := ih
    have := h n
    omega
end Go.Proofs.YtminijokbeclhaaDoor
