/- Contract of package nat: Shl: what lies before the walks. -/
import Derived.Test.YtekeedjhaakbhaaGreatDoorNatB
import Derived.Deep.DeepCutAuto
namespace Go.Proofs.YtekeedjhaakbhaaGreatDoor
open Go.RowKit
/-- Four cells of a block. -/
def Cells4 (wx : World) (b : Nat) (a0 a1 a2 a3 : Int) : Prop :=
  (wx.cell? ⟨b, 0, none⟩ = some (.int .u64 a0) ∧ wx.cell? ⟨b, 1, none⟩ = some (.int .u64 a1) ∧ wx.cell? ⟨b, 2, none⟩ = some (.int .u64 a2) ∧ wx.cell? ⟨b, 3, none⟩ = some (.int .u64 a3)) ∧
  (wx.frozen? ⟨b, 0, none⟩ = false ∧ wx.frozen? ⟨b, 1, none⟩ = false ∧ wx.frozen? ⟨b, 2, none⟩ = false ∧ wx.frozen? ⟨b, 3, none⟩ = false) ∧ b < wx.heap.size
theorem Cells4.below {w wx : World} {b : Nat} {a0 a1 a2 a3 : Int} (h : Cells4 w b a0 a1 a2 a3) (hb : Below w.heap.size w wx) : Cells4 wx b a0 a1 a2 a3 := by
  obtain ⟨⟨c0, c1, c2, c3⟩, ⟨f0, f1, f2, f3⟩, hl⟩ := h
  refine ⟨⟨?_, ?_, ?_, ?_⟩, ⟨?_, ?_, ?_, ?_⟩, Nat.lt_of_lt_of_le hl hb.size⟩ <;> first | (rw [hb.cell hl]; assumption) | (rw [hb.frozen hl]; assumption)
theorem Cells4.alloc {w : World} {b : Nat} {a0 a1 a2 a3 : Int} (h : Cells4 w b a0 a1 a2 a3) (o : Obj) : Cells4 (w.alloc o) b a0 a1 a2 a3 :=
  h.below ((Below.refl _ _).alloc (Nat.le_refl _) o)
theorem Cells4.new1 (w : World) (o : Obj) (a0 a1 a2 a3 : Int) (t : TypeId) : Cells4 ((w.alloc o).alloc (.cells #[.int .u64 a0, .int .u64 a1, .int .u64 a2, .int .u64 a3] t)) (w.heap.size + 1) a0 a1 a2 a3 := by
  refine ⟨⟨?_, ?_, ?_, ?_⟩, ⟨?_, ?_, ?_, ?_⟩, ?_⟩ <;> simp [go_sem]
theorem Cells4.new (w : World) (a0 a1 a2 a3 : Int) (t : TypeId) : Cells4 (w.alloc (.cells #[.int .u64 a0, .int .u64 a1, .int .u64 a2, .int .u64 a3] t)) w.heap.size a0 a1 a2 a3 := by
  refine ⟨⟨?_, ?_, ?_, ?_⟩, ⟨?_, ?_, ?_, ?_⟩, ?_⟩ <;> simp [go_sem]
theorem zero4 {a0 a1 a2 a3 : Nat} (h : (((a0 : Int) == 0) && ((a1 : Int) == 0) && ((a2 : Int) == 0) && ((a3 : Int) == 0)) = true) : ((a0 : Int) == 0) = true ∧ ((a1 : Int) == 0) = true ∧ ((a2 : Int) == 0) = true ∧ ((a3 : Int) == 0) = true := by
  simp only [Bool.and_eq_true] at h
  exact ⟨h.1.1.1, h.1.1.2, h.1.2, h.2⟩
def ShlIn (w : World) (a0 a1 a2 a3 : Nat) (wx : World) : Prop := Below w.heap.size w wx ∧ Cells4 wx w.heap.size a0 a1 a2 a3 ∧ Cells4 wx (w.heap.size + 1) 0 0 0 0
end Go.Proofs.YtekeedjhaakbhaaGreatDoor
