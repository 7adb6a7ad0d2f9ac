/- Contracts: json, proto of the program: can a language say a value? Number. -/
import Derived.Test.YtminijokbeclhaaDoorVSound
import Derived.Test.YtminijokbeclhaaDoorFlC
import Derived.Test.YtminijokbeclhaaDoorWh6
import Derived.Shelf.Abstract
namespace Go.Proofs.YtminijokbeclhaaDoor
open Go.RowKit
def VT.jsonB : VT → Bool
  | .nil => false
  | .mk kind _ _ bits _ _ nL _ kids _ _ _ _ => if kind = 6 ∨ kind = 4 ∧ cls bits ≠ 1 then false else !anyN (fun i => !(kids i).jsonB) nL
def VT.protoB : VT → Bool → Bool
  | .nil => fun _ => false
  | .mk kind neg V _ _ _ nL _ kids _ _ _ _ => fun arrays => if kind = 1 then false else if kind = 3 then toIOk neg V || toUOk neg V || exactI neg V else if kind = 7 then arrays && !anyN (fun i => !(kids i).protoB false) nL else !anyN (fun i => !(kids i).protoB true) nL
/-- ContainsFunc over a value's elements, in a world that grew -/
theorem kids_any (f : FuncId) (eg : ∀ args W, (callFunc f args).run Tryd.prog W = .ok (.enter f args) W) (p : Nat → Bool) (aL : Option Addr) (nL cL : Nat) (kids : Nat → VT) (w : World) (hcL : cL ≤ maxLen) (hlL : nL ≤ cL)
    (hL : nL = 0 ∨ ∃ b off, aL = some ⟨b, off, none⟩ ∧ b < w.heap.size ∧ ∀ i, i < nL → ∀ j, j < 10 → w.cell? ⟨b, off + i * 10 + j, none⟩ = (kids i).cells[j]?) (hK : ∀ i, i < nL → (kids i).In w)
    (hf : ∀ i, i < nL → ∀ w' : World, Below w.heap.size w w' → Calls Tryd.prog f #[(kids i).agg] w' fun e w2 => e = .returned (.bool (p i)) ∧ Below w'.heap.size w' w2) (wr : World) (hb : Below w.heap.size w wr) :
    Calls Tryd.prog 59 #[.slice aL nL cL, .func (.func f) #[] #[]] wr fun e w' => e = .returned (.bool (anyN p nL)) ∧ Below wr.heap.size wr w' := by
  refine ContV_any f eg p aL nL cL kids wr hcL hlL ?_ (fun i hi => (hK i hi).below hb) fun i hi w' hb' => hf i hi w' (below_trans hb hb')
  rcases hL with h | ⟨b, off, h1, h2, h3⟩
  · exact .inl h
  · exact .inr ⟨b, off, h1, Nat.lt_of_lt_of_le h2 hb.size, fun i hi j hj => by rw [hb.cell (p := ⟨b, off + i * 10 + j, none⟩) h2]; exact h3 i hi j hj⟩
theorem json1_any (T : VT) (x : Bool) (w : World) (hT : T.In w) (hC : ∀ w' : World, Below w.heap.size w w' → Calls Tryd.prog 32 #[T.agg] w' fun e w2 => e = .returned (.bool x) ∧ Below w'.heap.size w' w2) :
    Calls Tryd.prog 60 #[T.agg] w fun e w' => e = .returned (.bool (!x)) ∧ Below w.heap.size w w' := by
  cases T with
  | nil => exact hT.elim
  | mk kind neg V bits text aL nL cL kids aK nK cK keys =>
    simp only [VT.agg, VT.cells] at hC ⊢
    have HC := Lib.hid hC
    clear hC hT
    go_enter Tryd.func60, Tryd.ntmps60
    repeat any_goals (first | (go_at_call 32; refine (HC.out _ (by (repeat first | with_reducible exact Below.refl _ _ | with_reducible assumption | with_reducible refine Below.drew ?_ | with_reducible refine below_alloc ?_ _ | ((with_reducible refine Below.setCell ?_ ?_ _); rotate_left; (focus (first | with_reducible exact Nat.le_refl _ | (simp; done) | (simp; omega) | omega))) | (with_reducible refine below_trans ?_ (by assumption))))).mono ?_; rintro e w1 ⟨rfl, hb1⟩) | go_skip | go_guarded | go_step | go_upon | (dsimp only []))
    exact bodyPost_ret (v := .bool (!x)) (by simp [results, Tryd.results60, go_sem]) rfl ⟨rfl, by (repeat first | with_reducible exact Below.refl _ _ | with_reducible assumption | with_reducible refine Below.drew ?_ | with_reducible refine below_alloc ?_ _ | ((with_reducible refine Below.setCell ?_ ?_ _); rotate_left; (focus (first | with_reducible exact Nat.le_refl _ | (simp; done) | (simp; omega) | omega))) | (with_reducible refine below_trans ?_ (by assumption)))⟩
theorem proto1_any (T : VT) (x : Bool) (w : World) (hT : T.In w) (hC : ∀ w' : World, Below w.heap.size w w' → Calls Tryd.prog 33 #[T.agg, .bool false] w' fun e w2 => e = .returned (.bool x) ∧ Below w'.heap.size w' w2) :
    Calls Tryd.prog 64 #[T.agg] w fun e w' => e = .returned (.bool (!x)) ∧ Below w.heap.size w w' := by
  cases T with
  | nil => exact hT.elim
  | mk kind neg V bits text aL nL cL kids aK nK cK keys =>
    simp only [VT.agg, VT.cells] at hC ⊢
    have HC := Lib.hid hC
    clear hC hT
    go_enter Tryd.func64, Tryd.ntmps64
    repeat any_goals (first | (go_at_call 33; refine (HC.out _ (by (repeat first | with_reducible exact Below.refl _ _ | with_reducible assumption | with_reducible refine Below.drew ?_ | with_reducible refine below_alloc ?_ _ | ((with_reducible refine Below.setCell ?_ ?_ _); rotate_left; (focus (first | with_reducible exact Nat.le_refl _ | (simp; done) | (simp; omega) | omega))) | (with_reducible refine below_trans ?_ (by assumption))))).mono ?_; rintro e w1 ⟨rfl, hb1⟩) | go_skip | go_guarded | go_step | go_upon | (dsimp only []))
    exact bodyPost_ret (v := .bool (!x)) (by simp [results, Tryd.results64, go_sem]) rfl ⟨rfl, by (repeat first | with_reducible exact Below.refl _ _ | with_reducible assumption | with_reducible refine Below.drew ?_ | with_reducible refine below_alloc ?_ _ | ((with_reducible refine Below.setCell ?_ ?_ _); rotate_left; (focus (first | with_reducible exact Nat.le_refl _ | (simp; done) | (simp; omega) | omega))) | (with_reducible refine below_trans ?_ (by assumption)))⟩
theorem proto2_any (T : VT) (x : Bool) (w : World) (hT : T.In w) (hC : ∀ w' : World, Below w.heap.size w w' → Calls Tryd.prog 33 #[T.agg, .bool true] w' fun e w2 => e = .returned (.bool x) ∧ Below w'.heap.size w' w2) :
    Calls Tryd.prog 65 #[T.agg] w fun e w' => e = .returned (.bool (!x)) ∧ Below w.heap.size w w' := by
  cases T with
  | nil => exact hT.elim
  | mk kind neg V bits text aL nL cL kids aK nK cK keys =>
    simp only [VT.agg, VT.cells] at hC ⊢
    have HC := Lib.hid hC
    clear hC hT
    go_enter Tryd.func65, Tryd.ntmps65
    repeat any_goals (first | (go_at_call 33; refine (HC.out _ (by (repeat first | with_reducible exact Below.refl _ _ | with_reducible assumption | with_reducible refine Below.drew ?_ | with_reducible refine below_alloc ?_ _ | ((with_reducible refine Below.setCell ?_ ?_ _); rotate_left; (focus (first | with_reducible exact Nat.le_refl _ | (simp; done) | (simp; omega) | omega))) | (with_reducible refine below_trans ?_ (by assumption))))).mono ?_; rintro e w1 ⟨rfl, hb1⟩) | go_skip | go_guarded | go_step | go_upon | (dsimp only []))
    exact bodyPost_ret (v := .bool (!x)) (by simp [results, Tryd.results65, go_sem]) rfl ⟨rfl, by (repeat first | with_reducible exact Below.refl _ _ | with_reducible assumption | with_reducible refine Below.drew ?_ | with_reducible refine below_alloc ?_ _ | ((with_reducible refine Below.setCell ?_ ?_ _); rotate_left; (focus (first | with_reducible exact Nat.le_refl _ | (simp; done) | (simp; omega) | omega))) | (with_reducible refine below_trans ?_ (by assumption)))⟩
theorem eg_json1 (args : Array Value) (W : World) : (callFunc 60 args).run Tryd.prog W = .ok (.enter 60 args) W := enters_of Tryd.func60 (by kernel_rfl) rfl args W
theorem eg_proto1 (args : Array Value) (W : World) : (callFunc 64 args).run Tryd.prog W = .ok (.enter 64 args) W := enters_of Tryd.func64 (by kernel_rfl) rfl args W
theorem eg_proto2 (args : Array Value) (W : World) : (callFunc 65 args).run Tryd.prog W = .ok (.enter 65 args) W := enters_of Tryd.func65 (by kernel_rfl) rfl args W
set_option maxRecDepth 20000 in
set_option maxHeartbeats 4000000 in
theorem json_walk (kind : Int) (neg : Bool) (V bits : Nat) (text : ByteArray) (aL : Option Addr) (nL cL : Nat) (aK : Option Addr) (nK cK : Nat) (w : World) (c : Int) (z : Bool)
    (C1 : Hid (∀ wr : World, Below w.heap.size w wr → Calls Tryd.prog 58 #[.int .u64 (bits : Nat)] wr fun e w' => e = .returned (.int .i64 c) ∧ Below wr.heap.size wr w'))
    (CC : Hid (∀ wr : World, Below w.heap.size w wr → Calls Tryd.prog 59 #[.slice aL nL cL, .func (.func 60) #[] #[]] wr fun e w' => e = .returned (.bool z) ∧ Below wr.heap.size wr w')) :
    Calls Tryd.prog 32 #[.agg #[.int .i64 kind, .bool neg, .int .u64 (lm V 0 : Nat), .int .u64 (lm V 1 : Nat), .int .u64 (lm V 2 : Nat), .int .u64 (lm V 3 : Nat), .int .u64 (bits : Nat), .string text, .slice aL nL cL, .slice aK nK cK]] w
      fun e w' => e = .returned (.bool (if kind = 6 ∨ kind = 4 ∧ c ≠ 1 then false else !z)) ∧ Below w.heap.size w w' := by
  by_cases h6 : kind = 6
  · rw [if_pos (.inl h6)]
    subst h6
    go_enter Tryd.func32, Tryd.ntmps32
    repeat any_goals (first | go_skip | go_guarded | go_step | go_upon | (simp only []; done))
    exact bodyPost_ret (v := .bool false) (by simp [results, Tryd.results32, go_sem]) rfl ⟨rfl, by (repeat first | with_reducible exact Below.refl _ _ | with_reducible assumption | with_reducible refine Below.drew ?_ | with_reducible refine below_alloc ?_ _ | ((with_reducible refine Below.setCell ?_ ?_ _); rotate_left; (focus (first | with_reducible exact Nat.le_refl _ | (simp; done) | (simp; omega) | omega))) | (with_reducible refine below_trans ?_ (by assumption)))⟩
  · by_cases h4 : kind = 4
    · subst h4
      by_cases h1 : c = 1
      · subst h1
        rw [if_neg (by omega)]
        have V0 := Lib.hid (show VBx (w.alloc (.cells #[.int .i64 4, .bool neg, .int .u64 (lm V 0 : Nat), .int .u64 (lm V 1 : Nat), .int .u64 (lm V 2 : Nat), .int .u64 (lm V 3 : Nat), .int .u64 (bits : Nat), .string text, .slice aL nL cL, .slice aK nK cK] 30)) w.heap.size 4 neg V bits text aL nL cL aK nK cK from ⟨by simp [go_sem]⟩)
        go_enter Tryd.func32, Tryd.ntmps32
        repeat any_goals (first | (go_at_call 58; with_reducible refine (C1.out _ (by (repeat first | with_reducible exact Below.refl _ _ | with_reducible assumption | with_reducible refine Below.drew ?_ | with_reducible refine below_alloc ?_ _ | ((with_reducible refine Below.setCell ?_ ?_ _); rotate_left; (focus (first | with_reducible exact Nat.le_refl _ | (simp; done) | (simp; omega) | omega))) | (with_reducible refine below_trans ?_ (by assumption))))).mono ?_; rintro e w1 ⟨rfl, hb1⟩; (first | have V1 := Lib.hid (V0.out.below hb1) | have V1 := Lib.hid (V0.out.step hb1)); obtain ⟨_, _, _, _, _, _, _, _, _, _⟩ := V1.out.all) | (go_at_call 59; refine (CC.out _ (by (repeat first | with_reducible exact Below.refl _ _ | with_reducible assumption | with_reducible refine Below.drew ?_ | with_reducible refine below_alloc ?_ _ | ((with_reducible refine Below.setCell ?_ ?_ _); rotate_left; (focus (first | with_reducible exact Nat.le_refl _ | (simp; done) | (simp; omega) | omega))) | (with_reducible refine below_trans ?_ (by assumption))))).mono ?_; rintro e w2 ⟨rfl, hb2⟩) | go_skip | go_guarded | go_step | go_upon | (dsimp only []))
        exact bodyPost_ret (v := .bool (!z)) (by simp [results, Tryd.results32, go_sem]) rfl ⟨rfl, by (repeat first | with_reducible exact Below.refl _ _ | with_reducible assumption | with_reducible refine Below.drew ?_ | with_reducible refine below_alloc ?_ _ | ((with_reducible refine Below.setCell ?_ ?_ _); rotate_left; (focus (first | with_reducible exact Nat.le_refl _ | (simp; done) | (simp; omega) | omega))) | (with_reducible refine below_trans ?_ (by assumption)))⟩
      · rw [if_pos (.inr ⟨rfl, h1⟩)]
        have h1i : (c == 1) = false := by simpa using h1
        go_enter Tryd.func32, Tryd.ntmps32
        repeat any_goals (first | (go_at_call 58; refine (C1.out _ (by (repeat first | with_reducible exact Below.refl _ _ | with_reducible assumption | with_reducible refine Below.drew ?_ | with_reducible refine below_alloc ?_ _ | ((with_reducible refine Below.setCell ?_ ?_ _); rotate_left; (focus (first | with_reducible exact Nat.le_refl _ | (simp; done) | (simp; omega) | omega))) | (with_reducible refine below_trans ?_ (by assumption))))).mono ?_; rintro e w1 ⟨rfl, hb1⟩) | go_skip | go_guarded | go_step | go_upon | (dsimp only []))
        exact bodyPost_ret (v := .bool false) (by simp [results, Tryd.results32, go_sem]) rfl ⟨rfl, by (repeat first | with_reducible exact Below.refl _ _ | with_reducible assumption | with_reducible refine Below.drew ?_ | with_reducible refine below_alloc ?_ _ | ((with_reducible refine Below.setCell ?_ ?_ _); rotate_left; (focus (first | with_reducible exact Nat.le_refl _ | (simp; done) | (simp; omega) | omega))) | (with_reducible refine below_trans ?_ (by assumption)))⟩
    · rw [if_neg (by omega)]
      have h6i : (kind == 6) = false := by simpa using h6
      have h4i : (kind == 4) = false := by simpa using h4
      go_enter Tryd.func32, Tryd.ntmps32
      repeat any_goals (first | (go_at_call 59; refine (CC.out _ (by (repeat first | with_reducible exact Below.refl _ _ | with_reducible assumption | with_reducible refine Below.drew ?_ | with_reducible refine below_alloc ?_ _ | ((with_reducible refine Below.setCell ?_ ?_ _); rotate_left; (focus (first | with_reducible exact Nat.le_refl _ | (simp; done) | (simp; omega) | omega))) | (with_reducible refine below_trans ?_ (by assumption))))).mono ?_; rintro e w2 ⟨rfl, hb2⟩) | go_skip | go_guarded | go_step | go_upon | (dsimp only []))
      exact bodyPost_ret (v := .bool (!z)) (by simp [results, Tryd.results32, go_sem]) rfl ⟨rfl, by (repeat first | with_reducible exact Below.refl _ _ | with_reducible assumption | with_reducible refine Below.drew ?_ | with_reducible refine below_alloc ?_ _ | ((with_reducible refine Below.setCell ?_ ?_ _); rotate_left; (focus (first | with_reducible exact Nat.le_refl _ | (simp; done) | (simp; omega) | omega))) | (with_reducible refine below_trans ?_ (by assumption)))⟩
theorem json_any : ∀ (T : VT) (w : World), T.In w → Tab w → Calls Tryd.prog 32 #[T.agg] w fun e w' => e = .returned (.bool T.jsonB) ∧ Below w.heap.size w w' := by
  intro T
  induction T with
  | nil => exact fun w h => h.elim
  | mk kind neg V bits text aL nL cL kids aK nK cK keys ih =>
    intro w hin hT
    obtain ⟨o, hL, hk, -⟩ := hin
    simp only [VT.agg, VT.cells, VT.jsonB]
    refine json_walk kind neg V bits text aL nL cL aK nK cK w (cls bits) _ (Lib.hid fun wr hb => Class_any bits o.b wr (hT.below hb)) (Lib.hid fun wr hb => ?_)
    exact kids_any _ eg_json1 _ aL nL cL kids w o.lc o.l hL hk (fun i hi w' hb' => json1_any _ _ _ ((hk i hi).below hb') fun w2 hb2 => ih i w2 (((hk i hi).below hb').below hb2) ((hT.below hb').below hb2)) wr hb
structure ProC (w : World) (neg : Bool) (V : Nat) (x : Int) (y : Nat) (a b c z1 z2 : Bool) (sl : Value) : Prop where
  c1 : ∀ wr : World, Below w.heap.size w wr → Calls Tryd.prog 61 #[.agg #[.bool (neg ), .int .u64 (lm ( V) 0 : Nat), .int .u64 (lm ( V) 1 : Nat), .int .u64 (lm ( V) 2 : Nat), .int .u64 (lm ( V) 3 : Nat)]] wr fun e w' => e = .returned (.tuple #[.int .i64 x, .bool a]) ∧ Below wr.heap.size wr w'
  c2 : ∀ wr : World, Below w.heap.size w wr → Calls Tryd.prog 62 #[.agg #[.bool (neg ), .int .u64 (lm ( V) 0 : Nat), .int .u64 (lm ( V) 1 : Nat), .int .u64 (lm ( V) 2 : Nat), .int .u64 (lm ( V) 3 : Nat)]] wr fun e w' => e = .returned (.tuple #[.int .u64 (y : Nat), .bool b]) ∧ Below wr.heap.size wr w'
  c3 : ∀ wr : World, Below w.heap.size w wr → Calls Tryd.prog 63 #[.agg #[.bool (neg ), .int .u64 (lm ( V) 0 : Nat), .int .u64 (lm ( V) 1 : Nat), .int .u64 (lm ( V) 2 : Nat), .int .u64 (lm ( V) 3 : Nat)]] wr fun e w' => e = .returned (.bool c) ∧ Below wr.heap.size wr w'
  c4 : ∀ wr : World, Below w.heap.size w wr → Calls Tryd.prog 59 #[sl, .func (.func 64) #[] #[]] wr fun e w' => e = .returned (.bool z1) ∧ Below wr.heap.size wr w'
  c5 : ∀ wr : World, Below w.heap.size w wr → Calls Tryd.prog 59 #[sl, .func (.func 65) #[] #[]] wr fun e w' => e = .returned (.bool z2) ∧ Below wr.heap.size wr w'
set_option maxRecDepth 20000 in
set_option maxHeartbeats 4000000 in
theorem proto_walk (kind : Int) (neg : Bool) (V bits : Nat) (text : ByteArray) (aL : Option Addr) (nL cL : Nat) (aK : Option Addr) (nK cK : Nat) (w : World) (arrays : Bool) (x : Int) (y : Nat) (a b c z1 z2 : Bool) (C : Hid (ProC w neg V x y a b c z1 z2 (.slice aL nL cL))) :
    Calls Tryd.prog 33 #[.agg #[.int .i64 kind, .bool neg, .int .u64 (lm V 0 : Nat), .int .u64 (lm V 1 : Nat), .int .u64 (lm V 2 : Nat), .int .u64 (lm V 3 : Nat), .int .u64 (bits : Nat), .string text, .slice aL nL cL, .slice aK nK cK], .bool arrays] w
      fun e w' => e = .returned (.bool (if kind = 1 then false else if kind = 3 then a || b || c else if kind = 7 then arrays && !z1 else !z2)) ∧ Below w.heap.size w w' := by
  by_cases h1 : kind = 1
  · rw [if_pos h1]
    subst h1
    go_enter Tryd.func33, Tryd.ntmps33
    repeat any_goals (first | go_skip | go_guarded | go_step | go_upon | (simp only []; done))
    exact bodyPost_ret (v := .bool false) (by simp [results, Tryd.results33, go_sem]) rfl ⟨rfl, by (repeat first | with_reducible exact Below.refl _ _ | with_reducible assumption | with_reducible refine Below.drew ?_ | with_reducible refine below_alloc ?_ _ | ((with_reducible refine Below.setCell ?_ ?_ _); rotate_left; (focus (first | with_reducible exact Nat.le_refl _ | (simp; done) | (simp; omega) | omega))) | (with_reducible refine below_trans ?_ (by assumption)))⟩
  rw [if_neg h1]
  by_cases h3 : kind = 3
  · rw [if_pos h3]
    subst h3
    obtain ⟨R, hR⟩ : ∃ R, R = (a || b || c) := ⟨_, rfl⟩
    rw [← hR]
    cases a with
    | true =>
      obtain rfl : R = true := hR
      have V0 := Lib.hid (show VBx (w.alloc (.cells #[.int .i64 3, .bool neg, .int .u64 (lm V 0 : Nat), .int .u64 (lm V 1 : Nat), .int .u64 (lm V 2 : Nat), .int .u64 (lm V 3 : Nat), .int .u64 (bits : Nat), .string text, .slice aL nL cL, .slice aK nK cK] 30)) w.heap.size 3 neg V bits text aL nL cL aK nK cK from ⟨by simp [go_sem]⟩)
      go_enter Tryd.func33, Tryd.ntmps33
      repeat any_goals (first | (go_at_call 61; with_reducible refine (C.out.c1 _ (by (repeat first | with_reducible exact Below.refl _ _ | with_reducible assumption | with_reducible refine Below.drew ?_ | with_reducible refine below_alloc ?_ _ | ((with_reducible refine Below.setCell ?_ ?_ _); rotate_left; (focus (first | with_reducible exact Nat.le_refl _ | (simp; done) | (simp; omega) | omega))) | (with_reducible refine below_trans ?_ (by assumption))))).mono ?_; rintro e w1 ⟨rfl, hb1⟩; (first | have V1 := Lib.hid (V0.out.below hb1) | have V1 := Lib.hid (V0.out.step hb1)); obtain ⟨_, _, _, _, _, _, _, _, _, _⟩ := V1.out.all) | (go_at_call 62; with_reducible refine (C.out.c2 _ (by (repeat first | with_reducible exact Below.refl _ _ | with_reducible assumption | with_reducible refine Below.drew ?_ | with_reducible refine below_alloc ?_ _ | ((with_reducible refine Below.setCell ?_ ?_ _); rotate_left; (focus (first | with_reducible exact Nat.le_refl _ | (simp; done) | (simp; omega) | omega))) | (with_reducible refine below_trans ?_ (by assumption))))).mono ?_; rintro e w2 ⟨rfl, hb2⟩; (first | have V2 := Lib.hid (V1.out.below hb2) | have V2 := Lib.hid (V1.out.step hb2)); obtain ⟨_, _, _, _, _, _, _, _, _, _⟩ := V2.out.all) | go_skip | go_guarded | go_step | go_upon | (dsimp only []))
      exact bodyPost_ret (v := .bool true) (by simp [results, Tryd.results33, go_sem]) rfl ⟨rfl, by (repeat first | with_reducible exact Below.refl _ _ | with_reducible assumption | with_reducible refine Below.drew ?_ | with_reducible refine below_alloc ?_ _ | ((with_reducible refine Below.setCell ?_ ?_ _); rotate_left; (focus (first | with_reducible exact Nat.le_refl _ | (simp; done) | (simp; omega) | omega))) | (with_reducible refine below_trans ?_ (by assumption)))⟩
    | false =>
      cases b with
      | true =>
        obtain rfl : R = true := hR
        have V0 := Lib.hid (show VBx (w.alloc (.cells #[.int .i64 3, .bool neg, .int .u64 (lm V 0 : Nat), .int .u64 (lm V 1 : Nat), .int .u64 (lm V 2 : Nat), .int .u64 (lm V 3 : Nat), .int .u64 (bits : Nat), .string text, .slice aL nL cL, .slice aK nK cK] 30)) w.heap.size 3 neg V bits text aL nL cL aK nK cK from ⟨by simp [go_sem]⟩)
        go_enter Tryd.func33, Tryd.ntmps33
        repeat any_goals (first | (go_at_call 61; with_reducible refine (C.out.c1 _ (by (repeat first | with_reducible exact Below.refl _ _ | with_reducible assumption | with_reducible refine Below.drew ?_ | with_reducible refine below_alloc ?_ _ | ((with_reducible refine Below.setCell ?_ ?_ _); rotate_left; (focus (first | with_reducible exact Nat.le_refl _ | (simp; done) | (simp; omega) | omega))) | (with_reducible refine below_trans ?_ (by assumption))))).mono ?_; rintro e w1 ⟨rfl, hb1⟩; (first | have V1 := Lib.hid (V0.out.below hb1) | have V1 := Lib.hid (V0.out.step hb1)); obtain ⟨_, _, _, _, _, _, _, _, _, _⟩ := V1.out.all) | (go_at_call 62; with_reducible refine (C.out.c2 _ (by (repeat first | with_reducible exact Below.refl _ _ | with_reducible assumption | with_reducible refine Below.drew ?_ | with_reducible refine below_alloc ?_ _ | ((with_reducible refine Below.setCell ?_ ?_ _); rotate_left; (focus (first | with_reducible exact Nat.le_refl _ | (simp; done) | (simp; omega) | omega))) | (with_reducible refine below_trans ?_ (by assumption))))).mono ?_; rintro e w2 ⟨rfl, hb2⟩; (first | have V2 := Lib.hid (V1.out.below hb2) | have V2 := Lib.hid (V1.out.step hb2)); obtain ⟨_, _, _, _, _, _, _, _, _, _⟩ := V2.out.all) | go_skip | go_guarded | go_step | go_upon | (dsimp only []))
        exact bodyPost_ret (v := .bool true) (by simp [results, Tryd.results33, go_sem]) rfl ⟨rfl, by (repeat first | with_reducible exact Below.refl _ _ | with_reducible assumption | with_reducible refine Below.drew ?_ | with_reducible refine below_alloc ?_ _ | ((with_reducible refine Below.setCell ?_ ?_ _); rotate_left; (focus (first | with_reducible exact Nat.le_refl _ | (simp; done) | (simp; omega) | omega))) | (with_reducible refine below_trans ?_ (by assumption)))⟩
      | false =>
        obtain rfl : R = c := hR
        have V0 := Lib.hid (show VBx (w.alloc (.cells #[.int .i64 3, .bool neg, .int .u64 (lm V 0 : Nat), .int .u64 (lm V 1 : Nat), .int .u64 (lm V 2 : Nat), .int .u64 (lm V 3 : Nat), .int .u64 (bits : Nat), .string text, .slice aL nL cL, .slice aK nK cK] 30)) w.heap.size 3 neg V bits text aL nL cL aK nK cK from ⟨by simp [go_sem]⟩)
        go_enter Tryd.func33, Tryd.ntmps33
        repeat any_goals (first | (go_at_call 61; with_reducible refine (C.out.c1 _ (by (repeat first | with_reducible exact Below.refl _ _ | with_reducible assumption | with_reducible refine Below.drew ?_ | with_reducible refine below_alloc ?_ _ | ((with_reducible refine Below.setCell ?_ ?_ _); rotate_left; (focus (first | with_reducible exact Nat.le_refl _ | (simp; done) | (simp; omega) | omega))) | (with_reducible refine below_trans ?_ (by assumption))))).mono ?_; rintro e w1 ⟨rfl, hb1⟩; (first | have V1 := Lib.hid (V0.out.below hb1) | have V1 := Lib.hid (V0.out.step hb1)); obtain ⟨_, _, _, _, _, _, _, _, _, _⟩ := V1.out.all) | (go_at_call 62; with_reducible refine (C.out.c2 _ (by (repeat first | with_reducible exact Below.refl _ _ | with_reducible assumption | with_reducible refine Below.drew ?_ | with_reducible refine below_alloc ?_ _ | ((with_reducible refine Below.setCell ?_ ?_ _); rotate_left; (focus (first | with_reducible exact Nat.le_refl _ | (simp; done) | (simp; omega) | omega))) | (with_reducible refine below_trans ?_ (by assumption))))).mono ?_; rintro e w2 ⟨rfl, hb2⟩; (first | have V2 := Lib.hid (V1.out.below hb2) | have V2 := Lib.hid (V1.out.step hb2)); obtain ⟨_, _, _, _, _, _, _, _, _, _⟩ := V2.out.all) | (go_at_call 63; refine (C.out.c3 _ (by (repeat first | with_reducible exact Below.refl _ _ | with_reducible assumption | with_reducible refine Below.drew ?_ | with_reducible refine below_alloc ?_ _ | ((with_reducible refine Below.setCell ?_ ?_ _); rotate_left; (focus (first | with_reducible exact Nat.le_refl _ | (simp; done) | (simp; omega) | omega))) | (with_reducible refine below_trans ?_ (by assumption))))).mono ?_; rintro e w3 ⟨rfl, hb3⟩) | go_skip | go_guarded | go_step | go_upon | (dsimp only []))
        exact bodyPost_ret (v := .bool R) (by simp [results, Tryd.results33, go_sem]) rfl ⟨rfl, by (repeat first | with_reducible exact Below.refl _ _ | with_reducible assumption | with_reducible refine Below.drew ?_ | with_reducible refine below_alloc ?_ _ | ((with_reducible refine Below.setCell ?_ ?_ _); rotate_left; (focus (first | with_reducible exact Nat.le_refl _ | (simp; done) | (simp; omega) | omega))) | (with_reducible refine below_trans ?_ (by assumption)))⟩
  rw [if_neg h3]
  by_cases h7 : kind = 7
  · rw [if_pos h7]
    subst h7
    cases arrays with
    | true =>
      go_enter Tryd.func33, Tryd.ntmps33
      repeat any_goals (first | (go_at_call 59; refine (C.out.c4 _ (by (repeat first | with_reducible exact Below.refl _ _ | with_reducible assumption | with_reducible refine Below.drew ?_ | with_reducible refine below_alloc ?_ _ | ((with_reducible refine Below.setCell ?_ ?_ _); rotate_left; (focus (first | with_reducible exact Nat.le_refl _ | (simp; done) | (simp; omega) | omega))) | (with_reducible refine below_trans ?_ (by assumption))))).mono ?_; rintro e w2 ⟨rfl, hb2⟩) | go_skip | go_guarded | go_step | go_upon | (dsimp only []))
      exact bodyPost_ret (v := .bool (!z1)) (by simp [results, Tryd.results33, go_sem]) rfl ⟨rfl, by (repeat first | with_reducible exact Below.refl _ _ | with_reducible assumption | with_reducible refine Below.drew ?_ | with_reducible refine below_alloc ?_ _ | ((with_reducible refine Below.setCell ?_ ?_ _); rotate_left; (focus (first | with_reducible exact Nat.le_refl _ | (simp; done) | (simp; omega) | omega))) | (with_reducible refine below_trans ?_ (by assumption)))⟩
    | false =>
      go_enter Tryd.func33, Tryd.ntmps33
      repeat any_goals (first | go_skip | go_guarded | go_step | go_upon | (simp only []; done))
      exact bodyPost_ret (v := .bool false) (by simp [results, Tryd.results33, go_sem]) rfl ⟨rfl, by (repeat first | with_reducible exact Below.refl _ _ | with_reducible assumption | with_reducible refine Below.drew ?_ | with_reducible refine below_alloc ?_ _ | ((with_reducible refine Below.setCell ?_ ?_ _); rotate_left; (focus (first | with_reducible exact Nat.le_refl _ | (simp; done) | (simp; omega) | omega))) | (with_reducible refine below_trans ?_ (by assumption)))⟩
  rw [if_neg h7]
  have h1i : (kind == 1) = false := by simpa using h1
  have h3i : (kind == 3) = false := by simpa using h3
  have h7i : (kind == 7) = false := by simpa using h7
  go_enter Tryd.func33, Tryd.ntmps33
  repeat any_goals (first | (go_at_call 59; refine (C.out.c5 _ (by (repeat first | with_reducible exact Below.refl _ _ | with_reducible assumption | with_reducible refine Below.drew ?_ | with_reducible refine below_alloc ?_ _ | ((with_reducible refine Below.setCell ?_ ?_ _); rotate_left; (focus (first | with_reducible exact Nat.le_refl _ | (simp; done) | (simp; omega) | omega))) | (with_reducible refine below_trans ?_ (by assumption))))).mono ?_; rintro e w2 ⟨rfl, hb2⟩) | go_skip | go_guarded | go_step | go_upon | (dsimp only []))
  exact bodyPost_ret (v := .bool (!z2)) (by simp [results, Tryd.results33, go_sem]) rfl ⟨rfl, by (repeat first | with_reducible exact Below.refl _ _ | with_reducible assumption | with_reducible refine Below.drew ?_ | with_reducible refine below_alloc ?_ _ | ((with_reducible refine Below.setCell ?_ ?_ _); rotate_left; (focus (first | with_reducible exact Nat.le_refl _ | (simp; done) | (simp; omega) | omega))) | (with_reducible refine below_trans ?_ (by assumption)))⟩
theorem proto_any : ∀ (T : VT) (w : World) (arrays : Bool), T.In w → Tab w → Calls Tryd.prog 33 #[T.agg, .bool arrays] w fun e w' => e = .returned (.bool (T.protoB arrays)) ∧ Below w.heap.size w w' := by
  intro T
  induction T with
  | nil => exact fun w _ h => h.elim
  | mk kind neg V bits text aL nL cL kids aK nK cK keys ih =>
    intro w arrays hin hT
    obtain ⟨o, hL, hk, -⟩ := hin
    simp only [VT.agg, VT.cells, VT.protoB]
    refine proto_walk kind neg V bits text aL nL cL aK nK cK w arrays _ _ _ _ _ _ _ (Lib.hid ⟨fun wr hb => ToInt_any neg V o.v wr, fun wr hb => ToUint_any neg V o.v wr, fun wr hb => Exact_any neg V o.v wr (hT.below hb), fun wr hb => ?_, fun wr hb => ?_⟩)
    · exact kids_any _ eg_proto1 _ aL nL cL kids w o.lc o.l hL hk (fun i hi w' hb' => proto1_any _ _ _ ((hk i hi).below hb') fun w2 hb2 => ih i w2 false (((hk i hi).below hb').below hb2) ((hT.below hb').below hb2)) wr hb
    · exact kids_any _ eg_proto2 _ aL nL cL kids w o.lc o.l hL hk (fun i hi w' hb' => proto2_any _ _ _ ((hk i hi).below hb') fun w2 hb2 => ih i w2 true (((hk i hi).below hb').below hb2) ((hT.below hb').below hb2)) wr hb
end Go.Proofs.YtminijokbeclhaaDoor
