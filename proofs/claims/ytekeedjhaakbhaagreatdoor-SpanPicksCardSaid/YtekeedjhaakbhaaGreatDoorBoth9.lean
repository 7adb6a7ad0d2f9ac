/- Both, And of the program. -/
import Derived.Test.YtekeedjhaakbhaaGreatDoorEqN
import Derived.Deep.DeepCutAuto
namespace Go.Proofs.YtekeedjhaakbhaaGreatDoor
open Go.RowKit
/-- an interval in a block of its own that may be written -/
structure K10F (w : World) (B : Nat) (n : Bool) (V : Nat) (m : Bool) (U : Nat) : Prop where
  k : K10 w B n V m U
  f : ∀ j, w.frozen? ⟨B, j, none⟩ = false
  l : B < w.heap.size
theorem K10F.below {w1 w2 : World} {B : Nat} {n m : Bool} {V U : Nat} (h : K10F w1 B n V m U) (hb : Below w1.heap.size w1 w2) : K10F w2 B n V m U :=
  ⟨h.k.below hb, fun j => by rw [hb.frozen (p := ⟨B, j, none⟩) h.l]; exact h.f j, Nat.lt_of_lt_of_le h.l hb.size⟩
theorem K10F.setLo {w : World} {B V U X : Nat} {n m y : Bool} (h : K10F w B n V m U) : K10F (((((w.setCell ⟨B, 0, none⟩ (.bool y)).setCell ⟨B, 1, none⟩ (.int .u64 (lm X 0 : Nat))).setCell ⟨B, 2, none⟩ (.int .u64 (lm X 1 : Nat))).setCell ⟨B, 3, none⟩ (.int .u64 (lm X 2 : Nat))).setCell ⟨B, 4, none⟩ (.int .u64 (lm X 3 : Nat))) B y X m U := by
  obtain ⟨h0, h1, h2, h3, h4, h5, h6, h7, h8, h9⟩ := h.k.all
  refine ⟨⟨⟨?_, ?_, ?_, ?_, ?_, ?_, ?_, ?_, ?_, ?_⟩⟩, fun j => ?_, ?_⟩
  · rw [set_other (by simp), set_other (by simp), set_other (by simp), set_other (by simp), World.cell?_setCell_same _ _ _ h0]
  · rw [set_other (by simp), set_other (by simp), set_other (by simp), World.cell?_setCell_same _ _ _ (by rw [set_other (by simp)]; exact h1)]
  · rw [set_other (by simp), set_other (by simp), World.cell?_setCell_same _ _ _ (by rw [set_other (by simp), set_other (by simp)]; exact h2)]
  · rw [set_other (by simp), World.cell?_setCell_same _ _ _ (by rw [set_other (by simp), set_other (by simp), set_other (by simp)]; exact h3)]
  · rw [World.cell?_setCell_same _ _ _ (by rw [set_other (by simp), set_other (by simp), set_other (by simp), set_other (by simp)]; exact h4)]
  · rw [set_other (by simp), set_other (by simp), set_other (by simp), set_other (by simp), set_other (by simp)]; exact h5
  · rw [set_other (by simp), set_other (by simp), set_other (by simp), set_other (by simp), set_other (by simp)]; exact h6
  · rw [set_other (by simp), set_other (by simp), set_other (by simp), set_other (by simp), set_other (by simp)]; exact h7
  · rw [set_other (by simp), set_other (by simp), set_other (by simp), set_other (by simp), set_other (by simp)]; exact h8
  · rw [set_other (by simp), set_other (by simp), set_other (by simp), set_other (by simp), set_other (by simp)]; exact h9
  · simp only [World.frozen?_setCell]; exact h.f j
  · simpa using h.l
theorem K10F.setHi {w : World} {B V U X : Nat} {n m y : Bool} (h : K10F w B n V m U) : K10F (((((w.setCell ⟨B, 5, none⟩ (.bool y)).setCell ⟨B, 6, none⟩ (.int .u64 (lm X 0 : Nat))).setCell ⟨B, 7, none⟩ (.int .u64 (lm X 1 : Nat))).setCell ⟨B, 8, none⟩ (.int .u64 (lm X 2 : Nat))).setCell ⟨B, 9, none⟩ (.int .u64 (lm X 3 : Nat))) B n V y X := by
  obtain ⟨h0, h1, h2, h3, h4, h5, h6, h7, h8, h9⟩ := h.k.all
  refine ⟨⟨⟨?_, ?_, ?_, ?_, ?_, ?_, ?_, ?_, ?_, ?_⟩⟩, fun j => ?_, ?_⟩
  · rw [set_other (by simp), set_other (by simp), set_other (by simp), set_other (by simp), set_other (by simp)]; exact h0
  · rw [set_other (by simp), set_other (by simp), set_other (by simp), set_other (by simp), set_other (by simp)]; exact h1
  · rw [set_other (by simp), set_other (by simp), set_other (by simp), set_other (by simp), set_other (by simp)]; exact h2
  · rw [set_other (by simp), set_other (by simp), set_other (by simp), set_other (by simp), set_other (by simp)]; exact h3
  · rw [set_other (by simp), set_other (by simp), set_other (by simp), set_other (by simp), set_other (by simp)]; exact h4
  · rw [set_other (by simp), set_other (by simp), set_other (by simp), set_other (by simp), World.cell?_setCell_same _ _ _ h5]
  · rw [set_other (by simp), set_other (by simp), set_other (by simp), World.cell?_setCell_same _ _ _ (by rw [set_other (by simp)]; exact h6)]
  · rw [set_other (by simp), set_other (by simp), World.cell?_setCell_same _ _ _ (by rw [set_other (by simp), set_other (by simp)]; exact h7)]
  · rw [set_other (by simp), World.cell?_setCell_same _ _ _ (by rw [set_other (by simp), set_other (by simp), set_other (by simp)]; exact h8)]
  · rw [World.cell?_setCell_same _ _ _ (by rw [set_other (by simp), set_other (by simp), set_other (by simp), set_other (by simp)]; exact h9)]
  · simp only [World.frozen?_setCell]; exact h.f j
  · simpa using h.l
def loC (x y : Cl) : Int := if x.lo < y.lo then y.lo else x.lo
def hiC (x y : Cl) : Int := if y.hi < x.hi then y.hi else x.hi
theorem loC_b (x y : Cl) : (loC x y).natAbs < 2 ^ 256 := by unfold loC; split; exact y.hl; exact x.hl
theorem hiC_b (x y : Cl) : (hiC x y).natAbs < 2 ^ 256 := by unfold hiC; split; exact y.hh; exact x.hh
def cutK (x y : Cl) : Cl := ⟨loC x y, hiC x y, loC_b x y, hiC_b x y⟩
theorem cutI_C (x y : Cl) : cutI x.iv y.iv = if loC x y ≤ hiC x y then [(cutK x y).iv] else [] := rfl
/-- what the loop of Both keeps, in numbers -/
structure BothP (lx ly ks : List Cl) (p q : Nat) : Prop where
  eq : ks.map Cl.iv ++ bothL ((lx.drop p).map Cl.iv) ((ly.drop q).map Cl.iv) = bothL (lx.map Cl.iv) (ly.map Cl.iv)
  len : ks.length ≤ p + q
theorem BothP.start (lx ly : List Cl) : BothP lx ly [] 0 0 := ⟨by simp, Nat.le_refl _⟩
theorem BothP.step {lx ly ks : List Cl} {p q : Nat} {x y : Cl} (h : BothP lx ly ks p q) (hx : lx[p]? = some x) (hy : ly[q]? = some y) :
    (loC x y ≤ hiC x y → (x.hi < y.hi → BothP lx ly (ks ++ [cutK x y]) (p + 1) q) ∧ (¬ x.hi < y.hi → BothP lx ly (ks ++ [cutK x y]) p (q + 1))) ∧
    (¬ loC x y ≤ hiC x y → (x.hi < y.hi → BothP lx ly ks (p + 1) q) ∧ (¬ x.hi < y.hi → BothP lx ly ks p (q + 1))) := by
  have e := h.eq
  have hl := h.len
  rw [drop_at hx, drop_at hy, List.map_cons, List.map_cons, bothL, cutI_C] at e
  have hlen : (ks ++ [cutK x y]).length = ks.length + 1 := by simp
  refine ⟨fun c => ⟨fun d => ⟨?_, by omega⟩, fun d => ⟨?_, by omega⟩⟩, fun c => ⟨fun d => ⟨?_, by omega⟩, fun d => ⟨?_, by omega⟩⟩⟩
  · rw [if_pos c, if_pos (show x.iv.2 < y.iv.2 from d)] at e
    rw [drop_at hy, List.map_append, List.map_cons, List.append_assoc]
    exact e
  · rw [if_pos c, if_neg (show ¬ x.iv.2 < y.iv.2 from d)] at e
    rw [drop_at hx, List.map_append, List.map_cons, List.append_assoc]
    exact e
  · rw [if_neg c, if_pos (show x.iv.2 < y.iv.2 from d), List.nil_append] at e
    rw [drop_at hy, List.map_cons]
    exact e
  · rw [if_neg c, if_neg (show ¬ x.iv.2 < y.iv.2 from d), List.nil_append] at e
    rw [drop_at hx, List.map_cons]
    exact e
theorem bothL_nil (l : List Iv) : bothL l [] = [] := by cases l <;> simp [bothL]
theorem BothP.fin {lx ly ks : List Cl} {p q : Nat} (h : BothP lx ly ks p q) (hp : p = lx.length ∨ q = ly.length) : ks.map Cl.iv = bothL (lx.map Cl.iv) (ly.map Cl.iv) := by
  have e := h.eq
  rcases hp with hp | hp
  · rw [hp, List.drop_length, List.map_nil, bothL, List.append_nil] at e
    exact e
  · rw [hp, List.drop_length, List.map_nil, bothL_nil, List.append_nil] at e
    exact e
theorem both_set {lx ly ks : List Cl} {P Q : Int → Prop} (hx : SetF lx P) (hy : SetF ly Q) (h : ks.map Cl.iv = bothL (lx.map Cl.iv) (ly.map Cl.iv)) : SetF ks (fun z => P z ∧ Q z) := by
  have hs := bothL_spec _ (lx.map Cl.iv) (ly.map Cl.iv) (Nat.le_refl _) hx.nf hy.nf
  rw [← h] at hs
  exact ⟨hs.1, fun z => (hs.2.2 z).trans (and_congr (hx.mem z) (hy.mem z))⟩
theorem k10f_new {w : World} {t : TypeId} {nl nh : Bool} {vl vh : Nat} : K10F (w.alloc (.cells #[.bool nl, .int .u64 (lm vl 0 : Nat), .int .u64 (lm vl 1 : Nat), .int .u64 (lm vl 2 : Nat), .int .u64 (lm vl 3 : Nat), .bool nh, .int .u64 (lm vh 0 : Nat), .int .u64 (lm vh 1 : Nat), .int .u64 (lm vh 2 : Nat), .int .u64 (lm vh 3 : Nat)] t)) w.heap.size nl vl nh vh := ⟨k10_new, fun j => by simp [go_sem], by simp⟩
theorem cmpZ_gt (p q : Int) : 0 < cmpZ p q ↔ q < p := by
  unfold cmpZ
  split
  · omega
  · split <;> omega
theorem cmpZ_lt (p q : Int) : cmpZ p q < 0 ↔ p < q := by
  unfold cmpZ
  split
  · omega
  · split <;> omega
theorem cmpZ_le (p q : Int) : cmpZ p q ≤ 0 ↔ p ≤ q := by
  unfold cmpZ
  split
  · omega
  · split <;> omega
structure BothI (w3 wr : World) (v : Value) (ks : List Cl) : Prop where
  o : wr.ownsRow w3.heap.size 51 10 v ks.length (encs ks)
  b : Below w3.heap.size w3 wr
theorem BothI.drop {w3 wr w1 : World} {v : Value} {ks : List Cl} (h : BothI w3 wr v ks) (hb : Below wr.heap.size wr w1) : BothI w3 w1 v ks :=
  ⟨own_below h.o hb, h.b.trans (below_weak hb h.b.size)⟩
theorem BothI.keep {w3 wr wx w2 : World} {m : Nat} {v v' : Value} {ks : List Cl} {x : Cl} (h : BothI w3 wr v ks) (hb : Below wr.heap.size wr wx) (hm : m = ks.length + 1)
    (h2 : w2.ownsRow w3.heap.size 51 10 v' m (encs ks ++ x.enc)) (hg : wx.grownBy w2 v.ownBlock) : BothI w3 w2 v' (ks ++ [x]) := by
  subst hm
  have h' := h.drop hb
  exact ⟨by rw [encs_app, List.length_append]; exact h2, h'.b.grown hg h'.b.size (fun k hk => (h.o.lt k hk).1)⟩
end Go.Proofs.YtekeedjhaakbhaaGreatDoor
