/- A number in a block; the library's tables: carried along a chain of calls. -/
import Derived.Test.YtbakgmkkebnhkaaDoorPrN
import Derived.Test.YtbakgmkkebnhkaaDoorShl
import Derived.Test.YtbakgmkkebnhkaaDoorCmpN
import Derived.Test.YtbakgmkkebnhkaaDoorSub
namespace Go.Proofs.YtbakgmkkebnhkaaDoor
open Go.RowKit
/-- block B holds the number V -/
structure Box (w' : World) (B V : Nat) : Prop where
  c0 : w'.cell? ⟨B, 0, none⟩ = some (.int .u64 (lm V 0 : Nat))
  c1 : w'.cell? ⟨B, 1, none⟩ = some (.int .u64 (lm V 1 : Nat))
  c2 : w'.cell? ⟨B, 2, none⟩ = some (.int .u64 (lm V 2 : Nat))
  c3 : w'.cell? ⟨B, 3, none⟩ = some (.int .u64 (lm V 3 : Nat))
  l : B < w'.heap.size
theorem Box.below {B V : Nat} {w1 w2 : World} (h : Box w1 B V) (hb : Below w1.heap.size w1 w2) : Box w2 B V :=
  ⟨by rw [hb.cell (p := ⟨B, 0, none⟩) h.l]; exact h.c0, by rw [hb.cell (p := ⟨B, 1, none⟩) h.l]; exact h.c1, by rw [hb.cell (p := ⟨B, 2, none⟩) h.l]; exact h.c2, by rw [hb.cell (p := ⟨B, 3, none⟩) h.l]; exact h.c3, Nat.lt_of_lt_of_le h.l hb.size⟩
theorem Box.alloc {B V : Nat} {w1 : World} (h : Box w1 B V) (o : Obj) : Box (w1.alloc o) B V := h.below (below_alloc (Below.refl _ _) _)
theorem Box.step {B V : Nat} {w1 w2 : World} {o : Obj} (h : Box w1 B V) (hb : Below (w1.alloc o).heap.size (w1.alloc o) w2) : Box w2 B V := (h.alloc o).below hb
theorem Box.drew {B V : Nat} {w1 : World} (h : Box w1 B V) : Box w1.drew B V := h.below (Below.refl _ _).drew
theorem box_new {w : World} {V : Nat} {t : TypeId} : Box (w.alloc (.cells #[.int .u64 (lm V 0 : Nat), .int .u64 (lm V 1 : Nat), .int .u64 (lm V 2 : Nat), .int .u64 (lm V 3 : Nat)] t)) w.heap.size V :=
  ⟨by simp [go_sem], by simp [go_sem], by simp [go_sem], by simp [go_sem], by simp⟩
theorem box_hb {w w1 : World} {V : Nat} {t : TypeId} (hb : Below (w.alloc (.cells #[.int .u64 (lm V 0 : Nat), .int .u64 (lm V 1 : Nat), .int .u64 (lm V 2 : Nat), .int .u64 (lm V 3 : Nat)] t)).heap.size (w.alloc (.cells #[.int .u64 (lm V 0 : Nat), .int .u64 (lm V 1 : Nat), .int .u64 (lm V 2 : Nat), .int .u64 (lm V 3 : Nat)] t)) w1) : Box w1 w.heap.size V :=
  box_new.below hb
theorem Box.all {B V : Nat} {w1 : World} (h : Box w1 B V) : w1.cell? ⟨B, 0, none⟩ = some (.int .u64 (lm V 0 : Nat)) ∧ w1.cell? ⟨B, 1, none⟩ = some (.int .u64 (lm V 1 : Nat)) ∧ w1.cell? ⟨B, 2, none⟩ = some (.int .u64 (lm V 2 : Nat)) ∧ w1.cell? ⟨B, 3, none⟩ = some (.int .u64 (lm V 3 : Nat)) ∧ B < w1.heap.size :=
  ⟨h.c0, h.c1, h.c2, h.c3, h.l⟩
/-- block B holds the number V, and may be written -/
structure BoxF (w' : World) (B V : Nat) : Prop where
  b : Box w' B V
  f0 : w'.frozen? ⟨B, 0, none⟩ = false
  f1 : w'.frozen? ⟨B, 1, none⟩ = false
  f2 : w'.frozen? ⟨B, 2, none⟩ = false
  f3 : w'.frozen? ⟨B, 3, none⟩ = false
theorem BoxF.below {B V : Nat} {w1 w2 : World} (h : BoxF w1 B V) (hb : Below w1.heap.size w1 w2) : BoxF w2 B V :=
  ⟨h.b.below hb, by rw [hb.frozen (p := ⟨B, 0, none⟩) h.b.l]; exact h.f0, by rw [hb.frozen (p := ⟨B, 1, none⟩) h.b.l]; exact h.f1, by rw [hb.frozen (p := ⟨B, 2, none⟩) h.b.l]; exact h.f2, by rw [hb.frozen (p := ⟨B, 3, none⟩) h.b.l]; exact h.f3⟩
theorem BoxF.alloc {B V : Nat} {w1 : World} (h : BoxF w1 B V) (o : Obj) : BoxF (w1.alloc o) B V := h.below (below_alloc (Below.refl _ _) _)
theorem BoxF.step {B V : Nat} {w1 w2 : World} {o : Obj} (h : BoxF w1 B V) (hb : Below (w1.alloc o).heap.size (w1.alloc o) w2) : BoxF w2 B V := (h.alloc o).below hb
theorem BoxF.all {B V : Nat} {w1 : World} (h : BoxF w1 B V) : w1.cell? ⟨B, 0, none⟩ = some (.int .u64 (lm V 0 : Nat)) ∧ w1.cell? ⟨B, 1, none⟩ = some (.int .u64 (lm V 1 : Nat)) ∧ w1.cell? ⟨B, 2, none⟩ = some (.int .u64 (lm V 2 : Nat)) ∧ w1.cell? ⟨B, 3, none⟩ = some (.int .u64 (lm V 3 : Nat)) ∧ (B < w1.heap.size ∧ w1.frozen? ⟨B, 0, none⟩ = false ∧ w1.frozen? ⟨B, 1, none⟩ = false ∧ w1.frozen? ⟨B, 2, none⟩ = false ∧ w1.frozen? ⟨B, 3, none⟩ = false) :=
  ⟨h.b.c0, h.b.c1, h.b.c2, h.b.c3, h.b.l, h.f0, h.f1, h.f2, h.f3⟩
theorem boxF_new {w : World} {V : Nat} {t : TypeId} : BoxF (w.alloc (.cells #[.int .u64 (lm V 0 : Nat), .int .u64 (lm V 1 : Nat), .int .u64 (lm V 2 : Nat), .int .u64 (lm V 3 : Nat)] t)) w.heap.size V :=
  ⟨box_new, by simp [go_sem], by simp [go_sem], by simp [go_sem], by simp [go_sem]⟩
theorem boxF_zero {w : World} {t : TypeId} : BoxF (w.alloc (.cells #[.int .u64 0, .int .u64 0, .int .u64 0, .int .u64 0] t)) w.heap.size 0 := by
  have h := @boxF_new w 0 t
  rw [lm_zero, lm_zero, lm_zero, lm_zero] at h
  exact h
theorem BoxF.set {B U V : Nat} {wr : World} (h : BoxF wr B U) : BoxF ((((wr.setCell ⟨B, 0, none⟩ (.int .u64 (lm V 0 : Nat))).setCell ⟨B, 1, none⟩ (.int .u64 (lm V 1 : Nat))).setCell ⟨B, 2, none⟩ (.int .u64 (lm V 2 : Nat))).setCell ⟨B, 3, none⟩ (.int .u64 (lm V 3 : Nat))) B V := by
  refine ⟨⟨?_, ?_, ?_, ?_, ?_⟩, ?_, ?_, ?_, ?_⟩
  · rw [set_other (by simp), set_other (by simp), set_other (by simp), World.cell?_setCell_same _ _ _ h.b.c0]
  · rw [set_other (by simp), set_other (by simp), World.cell?_setCell_same _ _ _ (by rw [set_other (by simp)]; exact h.b.c1)]
  · rw [set_other (by simp), World.cell?_setCell_same _ _ _ (by rw [set_other (by simp), set_other (by simp)]; exact h.b.c2)]
  · rw [World.cell?_setCell_same _ _ _ (by rw [set_other (by simp), set_other (by simp), set_other (by simp)]; exact h.b.c3)]
  · simpa using h.b.l
  · simp only [World.frozen?_setCell]; exact h.f0
  · simp only [World.frozen?_setCell]; exact h.f1
  · simp only [World.frozen?_setCell]; exact h.f2
  · simp only [World.frozen?_setCell]; exact h.f3
theorem Box.other {B k U : Nat} {wr : World} {v0 v1 v2 v3 : Value} (h : Box wr B U) (hk : B ≠ k) : Box ((((wr.setCell ⟨k, 0, none⟩ v0).setCell ⟨k, 1, none⟩ v1).setCell ⟨k, 2, none⟩ v2).setCell ⟨k, 3, none⟩ v3) B U := by
  have hn : ∀ i j : Nat, (⟨k, i, none⟩ : Addr) ≠ ⟨B, j, none⟩ := fun i j e => by
    injection e with e1 _ _
    omega
  have hn2 : ∀ i j : Nat, (⟨B, j, none⟩ : Addr) ≠ ⟨k, i, none⟩ := fun i j e => by
    injection e with e1 _ _
    omega
  refine ⟨?_, ?_, ?_, ?_, by simpa using h.l⟩
  · rw [set_other (by first | exact hn _ _ | exact hn2 _ _), set_other (by first | exact hn _ _ | exact hn2 _ _), set_other (by first | exact hn _ _ | exact hn2 _ _), set_other (by first | exact hn _ _ | exact hn2 _ _)]; exact h.c0
  · rw [set_other (by first | exact hn _ _ | exact hn2 _ _), set_other (by first | exact hn _ _ | exact hn2 _ _), set_other (by first | exact hn _ _ | exact hn2 _ _), set_other (by first | exact hn _ _ | exact hn2 _ _)]; exact h.c1
  · rw [set_other (by first | exact hn _ _ | exact hn2 _ _), set_other (by first | exact hn _ _ | exact hn2 _ _), set_other (by first | exact hn _ _ | exact hn2 _ _), set_other (by first | exact hn _ _ | exact hn2 _ _)]; exact h.c2
  · rw [set_other (by first | exact hn _ _ | exact hn2 _ _), set_other (by first | exact hn _ _ | exact hn2 _ _), set_other (by first | exact hn _ _ | exact hn2 _ _), set_other (by first | exact hn _ _ | exact hn2 _ _)]; exact h.c3
/-- block B is a number's, new, with noughts -/
structure ZB (w' : World) (B : Nat) : Prop where
  z0 : w'.cell? ⟨B, 0, none⟩ = some (.int .u64 0) ∧ w'.frozen? ⟨B, 0, none⟩ = false
  z1 : w'.cell? ⟨B, 1, none⟩ = some (.int .u64 0) ∧ w'.frozen? ⟨B, 1, none⟩ = false
  z2 : w'.cell? ⟨B, 2, none⟩ = some (.int .u64 0) ∧ w'.frozen? ⟨B, 2, none⟩ = false
  z3 : w'.cell? ⟨B, 3, none⟩ = some (.int .u64 0) ∧ w'.frozen? ⟨B, 3, none⟩ = false
  l : B < w'.heap.size
theorem ZB.below {B : Nat} {w1 w2 : World} (h : ZB w1 B) (hb : Below w1.heap.size w1 w2) : ZB w2 B :=
  ⟨by rw [hb.cell (p := ⟨B, 0, none⟩) h.l, hb.frozen (p := ⟨B, 0, none⟩) h.l]; exact h.z0, by rw [hb.cell (p := ⟨B, 1, none⟩) h.l, hb.frozen (p := ⟨B, 1, none⟩) h.l]; exact h.z1, by rw [hb.cell (p := ⟨B, 2, none⟩) h.l, hb.frozen (p := ⟨B, 2, none⟩) h.l]; exact h.z2, by rw [hb.cell (p := ⟨B, 3, none⟩) h.l, hb.frozen (p := ⟨B, 3, none⟩) h.l]; exact h.z3, Nat.lt_of_lt_of_le h.l hb.size⟩
theorem zb_new {w : World} {t : TypeId} : ZB (w.alloc (.cells #[.int .u64 0, .int .u64 0, .int .u64 0, .int .u64 0] t)) w.heap.size :=
  ⟨by simp [go_sem], by simp [go_sem], by simp [go_sem], by simp [go_sem], by simp⟩
theorem zb_hb {w w1 : World} {t : TypeId} (hb : Below (w.alloc (.cells #[.int .u64 0, .int .u64 0, .int .u64 0, .int .u64 0] t)).heap.size (w.alloc (.cells #[.int .u64 0, .int .u64 0, .int .u64 0, .int .u64 0] t)) w1) : ZB w1 w.heap.size := zb_new.below hb
theorem zb_hd {w w1 : World} {t : TypeId} (hb : Below (w.alloc (.cells #[.int .u64 0, .int .u64 0, .int .u64 0, .int .u64 0] t)).drew.heap.size (w.alloc (.cells #[.int .u64 0, .int .u64 0, .int .u64 0, .int .u64 0] t)).drew w1) : ZB w1 w.heap.size := ((@zb_new w t).below (Below.refl _ _).drew).below hb
theorem ZB.all {B : Nat} {w1 : World} (h : ZB w1 B) : (w1.cell? ⟨B, 0, none⟩ = some (.int .u64 0) ∧ w1.cell? ⟨B, 1, none⟩ = some (.int .u64 0) ∧ w1.cell? ⟨B, 2, none⟩ = some (.int .u64 0) ∧ w1.cell? ⟨B, 3, none⟩ = some (.int .u64 0)) ∧ (w1.frozen? ⟨B, 0, none⟩ = false ∧ w1.frozen? ⟨B, 1, none⟩ = false ∧ w1.frozen? ⟨B, 2, none⟩ = false ∧ w1.frozen? ⟨B, 3, none⟩ = false) ∧ B < w1.heap.size :=
  ⟨⟨h.z0.1, h.z1.1, h.z2.1, h.z3.1⟩, ⟨h.z0.2, h.z1.2, h.z2.2, h.z3.2⟩, h.l⟩
theorem ZB.set {B V : Nat} {wr : World} (h : ZB wr B) : Box ((((wr.setCell ⟨B, 0, none⟩ (.int .u64 (lm V 0 : Nat))).setCell ⟨B, 1, none⟩ (.int .u64 (lm V 1 : Nat))).setCell ⟨B, 2, none⟩ (.int .u64 (lm V 2 : Nat))).setCell ⟨B, 3, none⟩ (.int .u64 (lm V 3 : Nat))) B V := by
  refine ⟨?_, ?_, ?_, ?_, ?_⟩
  · rw [set_other (by simp), set_other (by simp), set_other (by simp), World.cell?_setCell_same _ _ _ h.z0.1]
  · rw [set_other (by simp), set_other (by simp), World.cell?_setCell_same _ _ _ (by rw [set_other (by simp)]; exact h.z1.1)]
  · rw [set_other (by simp), World.cell?_setCell_same _ _ _ (by rw [set_other (by simp), set_other (by simp)]; exact h.z2.1)]
  · rw [World.cell?_setCell_same _ _ _ (by rw [set_other (by simp), set_other (by simp), set_other (by simp)]; exact h.z3.1)]
  · simpa using h.l
/-! what a region that draws keeps of a number in a block, and of the old memory -/
theorem keepB {W w1 : World} {B V : Nat} (h : Box W B V) (hb : Below W.heap.size W w1) : w1.cell? ⟨B, 0, none⟩ = some (.int .u64 (lm V 0 : Nat)) ∧ w1.cell? ⟨B, 1, none⟩ = some (.int .u64 (lm V 1 : Nat)) ∧ w1.cell? ⟨B, 2, none⟩ = some (.int .u64 (lm V 2 : Nat)) ∧ w1.cell? ⟨B, 3, none⟩ = some (.int .u64 (lm V 3 : Nat)) ∧ B < w1.heap.size ∧ Below W.heap.size W w1 := by
  have k := h.below hb
  exact ⟨k.c0, k.c1, k.c2, k.c3, k.l, hb⟩
theorem keepS {W w1 w2 : World} {B V : Nat} (h : w1.cell? ⟨B, 0, none⟩ = some (.int .u64 (lm V 0 : Nat)) ∧ w1.cell? ⟨B, 1, none⟩ = some (.int .u64 (lm V 1 : Nat)) ∧ w1.cell? ⟨B, 2, none⟩ = some (.int .u64 (lm V 2 : Nat)) ∧ w1.cell? ⟨B, 3, none⟩ = some (.int .u64 (lm V 3 : Nat)) ∧ B < w1.heap.size ∧ Below W.heap.size W w1) (hb : Below w1.heap.size w1 w2) : w2.cell? ⟨B, 0, none⟩ = some (.int .u64 (lm V 0 : Nat)) ∧ w2.cell? ⟨B, 1, none⟩ = some (.int .u64 (lm V 1 : Nat)) ∧ w2.cell? ⟨B, 2, none⟩ = some (.int .u64 (lm V 2 : Nat)) ∧ w2.cell? ⟨B, 3, none⟩ = some (.int .u64 (lm V 3 : Nat)) ∧ B < w2.heap.size ∧ Below W.heap.size W w2 := by
  have k := (Box.mk h.1 h.2.1 h.2.2.1 h.2.2.2.1 h.2.2.2.2.1 : Box w1 B V).below hb
  exact ⟨k.c0, k.c1, k.c2, k.c3, k.l, below_trans h.2.2.2.2.2 hb⟩
theorem keepN {W w1 : World} {B V : Nat} (h : w1.cell? ⟨B, 0, none⟩ = some (.int .u64 (lm V 0 : Nat)) ∧ w1.cell? ⟨B, 1, none⟩ = some (.int .u64 (lm V 1 : Nat)) ∧ w1.cell? ⟨B, 2, none⟩ = some (.int .u64 (lm V 2 : Nat)) ∧ w1.cell? ⟨B, 3, none⟩ = some (.int .u64 (lm V 3 : Nat)) ∧ B < w1.heap.size ∧ Below W.heap.size W w1) (o : Obj) : (w1.alloc o).cell? ⟨B, 0, none⟩ = some (.int .u64 (lm V 0 : Nat)) ∧ (w1.alloc o).cell? ⟨B, 1, none⟩ = some (.int .u64 (lm V 1 : Nat)) ∧ (w1.alloc o).cell? ⟨B, 2, none⟩ = some (.int .u64 (lm V 2 : Nat)) ∧ (w1.alloc o).cell? ⟨B, 3, none⟩ = some (.int .u64 (lm V 3 : Nat)) ∧ B < (w1.alloc o).heap.size ∧ Below W.heap.size W (w1.alloc o) := keepS h (below_alloc (Below.refl _ _) o)
theorem keepC {W w1 : World} {B V k : Nat} {v0 v1 v2 v3 : Value} (hB : B < W.heap.size) (hk : W.heap.size ≤ k) (h : w1.cell? ⟨B, 0, none⟩ = some (.int .u64 (lm V 0 : Nat)) ∧ w1.cell? ⟨B, 1, none⟩ = some (.int .u64 (lm V 1 : Nat)) ∧ w1.cell? ⟨B, 2, none⟩ = some (.int .u64 (lm V 2 : Nat)) ∧ w1.cell? ⟨B, 3, none⟩ = some (.int .u64 (lm V 3 : Nat)) ∧ B < w1.heap.size ∧ Below W.heap.size W w1) : ((((w1.setCell ⟨k, 0, none⟩ v0).setCell ⟨k, 1, none⟩ v1).setCell ⟨k, 2, none⟩ v2).setCell ⟨k, 3, none⟩ v3).cell? ⟨B, 0, none⟩ = some (.int .u64 (lm V 0 : Nat)) ∧ ((((w1.setCell ⟨k, 0, none⟩ v0).setCell ⟨k, 1, none⟩ v1).setCell ⟨k, 2, none⟩ v2).setCell ⟨k, 3, none⟩ v3).cell? ⟨B, 1, none⟩ = some (.int .u64 (lm V 1 : Nat)) ∧ ((((w1.setCell ⟨k, 0, none⟩ v0).setCell ⟨k, 1, none⟩ v1).setCell ⟨k, 2, none⟩ v2).setCell ⟨k, 3, none⟩ v3).cell? ⟨B, 2, none⟩ = some (.int .u64 (lm V 2 : Nat)) ∧ ((((w1.setCell ⟨k, 0, none⟩ v0).setCell ⟨k, 1, none⟩ v1).setCell ⟨k, 2, none⟩ v2).setCell ⟨k, 3, none⟩ v3).cell? ⟨B, 3, none⟩ = some (.int .u64 (lm V 3 : Nat)) ∧ B < ((((w1.setCell ⟨k, 0, none⟩ v0).setCell ⟨k, 1, none⟩ v1).setCell ⟨k, 2, none⟩ v2).setCell ⟨k, 3, none⟩ v3).heap.size ∧ Below W.heap.size W ((((w1.setCell ⟨k, 0, none⟩ v0).setCell ⟨k, 1, none⟩ v1).setCell ⟨k, 2, none⟩ v2).setCell ⟨k, 3, none⟩ v3) := by
  have hn : ∀ i j : Nat, (⟨k, i, none⟩ : Addr) ≠ ⟨B, j, none⟩ := fun i j e => by
    injection e with e1 _ _
    omega
  have hn2 : ∀ i j : Nat, (⟨B, j, none⟩ : Addr) ≠ ⟨k, i, none⟩ := fun i j e => by
    injection e with e1 _ _
    omega
  refine ⟨?_, ?_, ?_, ?_, by simpa using h.2.2.2.2.1, (((h.2.2.2.2.2.setCell hk _).setCell hk _).setCell hk _).setCell hk _⟩
  · rw [set_other (by first | exact hn _ _ | exact hn2 _ _), set_other (by first | exact hn _ _ | exact hn2 _ _), set_other (by first | exact hn _ _ | exact hn2 _ _), set_other (by first | exact hn _ _ | exact hn2 _ _)]; exact h.1
  · rw [set_other (by first | exact hn _ _ | exact hn2 _ _), set_other (by first | exact hn _ _ | exact hn2 _ _), set_other (by first | exact hn _ _ | exact hn2 _ _), set_other (by first | exact hn _ _ | exact hn2 _ _)]; exact h.2.1
  · rw [set_other (by first | exact hn _ _ | exact hn2 _ _), set_other (by first | exact hn _ _ | exact hn2 _ _), set_other (by first | exact hn _ _ | exact hn2 _ _), set_other (by first | exact hn _ _ | exact hn2 _ _)]; exact h.2.2.1
  · rw [set_other (by first | exact hn _ _ | exact hn2 _ _), set_other (by first | exact hn _ _ | exact hn2 _ _), set_other (by first | exact hn _ _ | exact hn2 _ _), set_other (by first | exact hn _ _ | exact hn2 _ _)]; exact h.2.2.2.1
theorem keep1 {W w1 : World} {B V : Nat} (h : Box W B V) (hb : Below W.heap.size W w1) : w1.cell? ⟨B, 0, none⟩ = some (.int .u64 (lm V 0 : Nat)) ∧ w1.cell? ⟨B, 1, none⟩ = some (.int .u64 (lm V 1 : Nat)) ∧ w1.cell? ⟨B, 2, none⟩ = some (.int .u64 (lm V 2 : Nat)) ∧ w1.cell? ⟨B, 3, none⟩ = some (.int .u64 (lm V 3 : Nat)) := by
  have k := h.below hb
  exact ⟨k.c0, k.c1, k.c2, k.c3⟩
theorem keep2 {W w1 : World} {B V B2 V2 : Nat} (h : Box W B V) (h2 : Box W B2 V2) (hb : Below W.heap.size W w1) : w1.cell? ⟨B, 0, none⟩ = some (.int .u64 (lm V 0 : Nat)) ∧ w1.cell? ⟨B, 1, none⟩ = some (.int .u64 (lm V 1 : Nat)) ∧ w1.cell? ⟨B, 2, none⟩ = some (.int .u64 (lm V 2 : Nat)) ∧ w1.cell? ⟨B, 3, none⟩ = some (.int .u64 (lm V 3 : Nat)) ∧ w1.cell? ⟨B2, 0, none⟩ = some (.int .u64 (lm V2 0 : Nat)) ∧ w1.cell? ⟨B2, 1, none⟩ = some (.int .u64 (lm V2 1 : Nat)) ∧ w1.cell? ⟨B2, 2, none⟩ = some (.int .u64 (lm V2 2 : Nat)) ∧ w1.cell? ⟨B2, 3, none⟩ = some (.int .u64 (lm V2 3 : Nat)) := by
  have k := h.below hb
  have k2 := h2.below hb
  exact ⟨k.c0, k.c1, k.c2, k.c3, k2.c0, k2.c1, k2.c2, k2.c3⟩
/-- the library's tables -/
structure Tabs (w : World) : Prop where
  t : Tab w
  t10 : Tab10 w
theorem Tabs.below {w1 w2 : World} (h : Tabs w1) (hb : Below w1.heap.size w1 w2) : Tabs w2 := ⟨h.t.below hb, h.t10.below hb⟩
theorem Tabs.alloc {w1 : World} (h : Tabs w1) (o : Obj) : Tabs (w1.alloc o) := h.below (below_alloc (Below.refl _ _) _)
theorem Tabs.step {w1 w2 : World} {o : Obj} (h : Tabs w1) (hb : Below (w1.alloc o).heap.size (w1.alloc o) w2) : Tabs w2 := (h.alloc o).below hb
theorem of4_lm' {V : Nat} (h : V < 2 ^ 256) : of4 (lm V 0) (lm V 1) (lm V 2) (lm V 3) = V := of4_lm V h
/-- Shl, by the number -/
theorem ShlV_any (V : Nat) (hV : V < 2 ^ 256) (k : Int) (w : World) (hk0 : -9223372036854775808 ≤ k) (hk1 : k < 9223372036854775808) :
    Calls Tryd.prog 91 #[.agg #[.int .u64 (lm (V) 0 : Nat), .int .u64 (lm (V) 1 : Nat), .int .u64 (lm (V) 2 : Nat), .int .u64 (lm (V) 3 : Nat)], .int .i64 k] w fun e w' => e = .returned (.tuple #[.agg #[.int .u64 (lm (shlV V k) 0 : Nat), .int .u64 (lm (shlV V k) 1 : Nat), .int .u64 (lm (shlV V k) 2 : Nat), .int .u64 (lm (shlV V k) 3 : Nat)], .bool (shlOk V k)]) ∧ Below w.heap.size w w' := by
  have h := Shl_any _ _ _ _ (lm_lt V 0) (lm_lt V 1) (lm_lt V 2) (lm_lt V 3) k w hk0 hk1
  rw [of4_lm' hV] at h
  exact h
theorem lm_small {d : Nat} (h : d < 18446744073709551616) : lm d 0 = d ∧ lm d 1 = 0 ∧ lm d 2 = 0 ∧ lm d 3 = 0 := by
  have q := lm_of4 (a := d) (b := 0) (c := 0) (d := 0) h (by decide) (by decide) (by decide)
  rw [of4_0] at q
  exact q
/-- Of, by the number -/
theorem OfV_any (d : Nat) (h : d < 18446744073709551616) (w : World) :
    Calls Tryd.prog 48 #[.int .u64 (d : Int)] w fun e w' => e = .returned (.agg #[.int .u64 (lm (d) 0 : Nat), .int .u64 (lm (d) 1 : Nat), .int .u64 (lm (d) 2 : Nat), .int .u64 (lm (d) 3 : Nat)]) ∧ Below w.heap.size w w' := by
  obtain ⟨q0, q1, q2, q3⟩ := lm_small h
  rw [q0, q1, q2, q3]
  exact Of_any d w
theorem len4_lm {V : Nat} (hV : V < 2 ^ 256) : len4 (lm V 0) (lm V 1) (lm V 2) (lm V 3) = bl V := by
  rw [len4_eq (lm_lt _ _) (lm_lt _ _) (lm_lt _ _) (lm_lt _ _), of4_lm V hV]
theorem tz_low {a H n : Nat} (ha : 0 < a) (hn : a < 2 ^ n) : tz (a + H * 2 ^ n) = tz a := by
  obtain ⟨m, hm⟩ := tz_spec ha
  have ht : tz a < n := Nat.lt_of_lt_of_le (tz_lt_bl ha) ((bl_le_iff a n).2 hn)
  refine tz_of (k := tz a) (m := m + H * 2 ^ (n - tz a - 1)) ?_
  have e : (2 : Nat) ^ n = 2 ^ tz a * (2 * 2 ^ (n - tz a - 1)) := by
    rw [← Nat.pow_succ', ← Nat.pow_add]
    congr 1
    omega
  rw [e]
  generalize tz a = t at *
  rw [hm]
  generalize 2 ^ (n - t - 1) = B
  generalize 2 ^ t = A
  rw [Nat.mul_add 2 m, Nat.add_right_comm, Nat.mul_left_comm H A, Nat.mul_left_comm H 2, Nat.mul_add A (2 * m + 1)]
theorem trail4_lm {V : Nat} (hV : V < 2 ^ 256) : trail4 (lm V 0) (lm V 1) (lm V 2) (lm V 3) = if V = 0 then 256 else tz V := by
  have h4 := of4_lm V hV
  have l0 := lm_lt V 0
  have l1 := lm_lt V 1
  have l2 := lm_lt V 2
  have l3 := lm_lt V 3
  generalize lm V 0 = a at *
  generalize lm V 1 = b at *
  generalize lm V 2 = c at *
  generalize lm V 3 = d at *
  unfold of4 at h4
  unfold trail4
  by_cases ha : a = 0
  · rw [if_neg (by omega)]
    by_cases hb : b = 0
    · rw [if_neg (by omega)]
      by_cases hc : c = 0
      · rw [if_neg (by omega)]
        by_cases hd : d = 0
        · rw [if_neg (by omega), if_pos (by subst ha hb hc hd; omega)]
        · rw [if_pos hd, if_neg (by omega)]
          have e : V = d * 2 ^ 192 := by subst ha hb hc; omega
          rw [e, tz_mul_two_pow (Nat.pos_of_ne_zero hd), Nat.add_comm]
      · rw [if_pos hc, if_neg (by omega)]
        have e : V = (c + d * 2 ^ 64) * 2 ^ 128 := by subst ha hb; omega
        rw [e, tz_mul_two_pow (by omega), tz_low (Nat.pos_of_ne_zero hc) l2, Nat.add_comm]
    · rw [if_pos hb, if_neg (by omega)]
      have e : V = (b + (c + d * 2 ^ 64) * 2 ^ 64) * 2 ^ 64 := by subst ha; omega
      rw [e, tz_mul_two_pow (by omega), tz_low (Nat.pos_of_ne_zero hb) l1, Nat.add_comm]
  · rw [if_pos ha, if_neg (by omega)]
    have e : V = a + (b + (c + d * 2 ^ 64) * 2 ^ 64) * 2 ^ 64 := by omega
    rw [e, tz_low (Nat.pos_of_ne_zero ha) l0]
/-- Len and Trail of a number -/
theorem Len_lm (V : Nat) (hV : V < 2 ^ 256) (l : Nat) (hl : bl V = l) (w : World) : Calls Tryd.prog 44 #[.agg #[.int .u64 (lm (V) 0 : Nat), .int .u64 (lm (V) 1 : Nat), .int .u64 (lm (V) 2 : Nat), .int .u64 (lm (V) 3 : Nat)]] w fun e w' => e = .returned (.int .i64 (l : Nat)) ∧ Below w.heap.size w w' := by
  have h := Len_any _ _ _ _ (lm_lt V 0) (lm_lt V 1) (lm_lt V 2) (lm_lt V 3) w
  rw [len4_lm hV, hl] at h
  exact h
theorem Trail_lm (V : Nat) (hV : V < 2 ^ 256) (t : Nat) (ht : (if V = 0 then 256 else tz V) = t) (w : World) (hT : Tab w) : Calls Tryd.prog 45 #[.agg #[.int .u64 (lm (V) 0 : Nat), .int .u64 (lm (V) 1 : Nat), .int .u64 (lm (V) 2 : Nat), .int .u64 (lm (V) 3 : Nat)]] w fun e w' => e = .returned (.int .i64 (t : Nat)) ∧ Below w.heap.size w w' := by
  have h := Trail_any _ _ _ _ (lm_lt V 0) (lm_lt V 1) (lm_lt V 2) (lm_lt V 3) w hT
  rw [trail4_lm hV, ht] at h
  exact h
end Go.Proofs.YtbakgmkkebnhkaaDoor
