/- The functions on sets, by the sets alone. -/
import Derived.Test.YtekeedjhaakbhaaGreatDoorBoth9
import Derived.Test.YtekeedjhaakbhaaGreatDoorFormR
namespace Go.Proofs.YtekeedjhaakbhaaGreatDoor
open Go Go.RowKit
/-- a row of spans that may be stands for the set P -/
structure RowP (w : World) (a : Option Addr) (n c : Nat) (S : Nat → Sp) (P : Int → Prop) (M : Nat) : Prop where
  h : SRow w a n c S
  may : mayR S n = true
  le : n ≤ M
  set : ∀ z, InS S n z ↔ P z
theorem RowP.below {w w' : World} {a : Option Addr} {n c M : Nat} {S : Nat → Sp} {P : Int → Prop} (h : RowP w a n c S P M) (hb : Below w.heap.size w w') : RowP w' a n c S P M := ⟨h.h.below hb, h.may, h.le, h.set⟩
/-- a row of spans in the one form of the set P -/
structure ResP (w : World) (a : Option Addr) (n c : Nat) (l : List Cl) (P : Int → Prop) (M : Nat) : Prop where
  e : n = l.length
  h : SRow w a n c (nthS (l.map opS))
  f : SetF l P
  le : n ≤ M
theorem ResP.below {w w' : World} {a : Option Addr} {n c M : Nat} {l : List Cl} {P : Int → Prop} (h : ResP w a n c l P M) (hb : Below w.heap.size w w') : ResP w' a n c l P M := ⟨h.e, h.h.below hb, h.f, h.le⟩
theorem ResP.row {w : World} {a : Option Addr} {n c M : Nat} {l : List Cl} {P : Int → Prop} (h : ResP w a n c l P M) (hM : M ≤ 1000) : RowP w a n c (nthS (l.map opS)) P M :=
  ⟨h.h, by rw [h.e]; exact mayR_row (by have := h.le; have := h.e; omega), h.le, fun z => by rw [h.e]; exact h.f.ins z⟩
theorem ResP.weak {w : World} {a : Option Addr} {n c M : Nat} {l : List Cl} {P Q : Int → Prop} (h : ResP w a n c l P M) (hq : ∀ z, P z ↔ Q z) : ResP w a n c l Q M := ⟨h.e, h.h, h.f.congr hq, h.le⟩
theorem out_res {P : Int → Prop} {M : Nat} {w w' : World} {v : Value} (h : SOut P M w v w') : ∃ (a : Option Addr) (n c : Nat) (l : List Cl), v = .slice a n c ∧ ResP w' a n c l P M ∧ Below w.heap.size w w' := by
  obtain ⟨a, c, l, e, h1, h2, h3, h4⟩ := h.row
  exact ⟨a, _, c, l, e, ⟨rfl, h1, h2, h3⟩, h4⟩
/-- what a function on sets hands back -/
def GivesP (P : Int → Prop) (M : Nat) (w : World) (v : Value) (w' : World) : Prop := ∃ (a : Option Addr) (n c : Nat) (l : List Cl), v = .slice a n c ∧ ResP w' a n c l P M ∧ Below w.heap.size w w'
theorem gives_of {P Q : Int → Prop} {M M' : Nat} {w w' : World} {v : Value} (h : SOut P M w v w') (hq : ∀ z, P z ↔ Q z) (hM : M ≤ M') : GivesP Q M' w v w' := by
  obtain ⟨a, n, c, l, e, h1, h2⟩ := out_res h
  have h3 := h1.weak hq
  exact ⟨a, n, c, l, e, ⟨h3.e, h3.h, h3.f, Nat.le_trans h3.le hM⟩, h2⟩
section
variable {w : World} {a b : Option Addr} {n c m d M N : Nat} {S T : Nat → Sp} {P Q : Int → Prop}
theorem or_row (h1 : RowP w a n c S P M) (h2 : RowP w b m d T Q N) (hM : M ≤ 1000) (hN : N ≤ 1000) : Calls Tryz.prog 12 #[.slice a n c, .slice b m d] w fun e w' => ∃ v, e = .returned v ∧ GivesP (fun z => P z ∨ Q z) (M + N) w v w' :=
  (Or_any a n c S b m d T w h1.h h2.h (by have := h1.le; omega) (by have := h2.le; omega)).mono fun _ _ ⟨v, e, h⟩ => ⟨v, e, gives_of h (fun z => ⟨fun x => by rw [← h1.set, ← h2.set]; exact x.2.2, fun x => ⟨h1.may, h2.may, by rw [h1.set, h2.set]; exact x⟩⟩) (Nat.add_le_add h1.le h2.le)⟩
theorem not_row (h1 : RowP w a n c S P M) (hM : M ≤ 1000) : Calls Tryz.prog 14 #[.slice a n c] w fun e w' => ∃ v, e = .returned v ∧ GivesP (fun z => inR z ∧ ¬ P z) (M + 1) w v w' :=
  (Not_any a n c S w h1.h (by have := h1.le; omega)).mono fun _ _ ⟨v, e, h⟩ => ⟨v, e, gives_of h (fun z => ⟨fun x => ⟨x.2.1, fun y => x.2.2 ((h1.set z).2 y)⟩, fun x => ⟨h1.may, x.1, fun y => x.2 ((h1.set z).1 y)⟩⟩) (Nat.add_le_add_right h1.le 1)⟩
theorem norm_row (h1 : RowP w a n c S P M) (hM : M ≤ 1000) : Calls Tryz.prog 34 #[.slice a n c] w fun e w' => ∃ v, e = .returned v ∧ GivesP P M w v w' :=
  (Norm_any a n c S w h1.h (by have := h1.le; omega)).mono fun _ _ ⟨v, e, h⟩ => ⟨v, e, gives_of h (fun z => ⟨fun x => (h1.set z).1 x.2, fun x => ⟨h1.may, (h1.set z).2 x⟩⟩) h1.le⟩
theorem nil_row (w : World) : RowP w none 0 0 (fun _ => allS) (fun _ => False) 0 :=
  ⟨⟨Nat.le_refl _, Nat.zero_le _, .inl rfl, fun i hi => by omega⟩, rfl, Nat.le_refl _, fun z => ⟨fun ⟨i, hi, _⟩ => by omega, fun h => h.elim⟩⟩
end
end Go.Proofs.YtekeedjhaakbhaaGreatDoor
