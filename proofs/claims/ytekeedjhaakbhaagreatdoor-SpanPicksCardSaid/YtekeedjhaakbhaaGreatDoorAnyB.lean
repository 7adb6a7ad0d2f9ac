/- The closure of Any: one number is tried. · Any of the program. -/
import Derived.Test.YtekeedjhaakbhaaGreatDoorOth9
import Derived.Test.YtekeedjhaakbhaaGreatDoorEqN
import Derived.Test.YtekeedjhaakbhaaGreatDoorOthN
import Derived.Deep.DeepCutAuto
namespace Go.Proofs.YtekeedjhaakbhaaGreatDoor
open Go.RowKit
/-- the world but for two blocks -/
structure But (b f : Nat) (w w' : World) : Prop where
  os : w'.os = w.os
  tape : w'.tape = w.tape
  output : w'.output = w.output
  size : w.heap.size ≤ w'.heap.size
  block : ∀ k, k < w.heap.size → k ≠ b → k ≠ f → w'.heap[k]? = w.heap[k]?
theorem But.of {b f : Nat} {w w' : World} (h : Below w.heap.size w w') : But b f w w' := ⟨h.os, h.tape, h.output, h.size, fun k hk _ _ => h.block k hk⟩
theorem But.trans {b f : Nat} {w w1 w2 : World} (h : But b f w w1) (k : But b f w1 w2) : But b f w w2 :=
  ⟨k.os.trans h.os, k.tape.trans h.tape, k.output.trans h.output, Nat.le_trans h.size k.size, fun j hj h1 h2 => (k.block j (Nat.lt_of_lt_of_le hj h.size) h1 h2).trans (h.block j hj h1 h2)⟩
theorem But.below {b f : Nat} {w w1 w2 : World} (h : But b f w w1) (k : Below w1.heap.size w1 w2) : But b f w w2 := h.trans (But.of k)
theorem But.setB {b f j : Nat} {w w1 : World} {v : Value} (h : But b f w w1) : But b f w (w1.setCell ⟨b, j, none⟩ v) :=
  ⟨h.os, h.tape, h.output, by rw [World.size_setCell]; exact h.size, fun k hk h1 h2 => by
    rw [heap_setCell_other w1 ⟨b, j, none⟩ k v (fun e => h1 (by rw [e]))]
    exact h.block k hk h1 h2⟩
theorem But.setF {b f j : Nat} {w w1 : World} {v : Value} (h : But b f w w1) : But b f w (w1.setCell ⟨f, j, none⟩ v) :=
  ⟨h.os, h.tape, h.output, by rw [World.size_setCell]; exact h.size, fun k hk h1 h2 => by
    rw [heap_setCell_other w1 ⟨f, j, none⟩ k v (fun e => h2 (by rw [e]))]
    exact h.block k hk h1 h2⟩
theorem But.grown {b f B : Nat} {w w1 : World} (h : But b f w w1) (hb : B ≠ b) (hf : B ≠ f) (hB : B < w.heap.size) : w1.heap[B]? = w.heap[B]? := h.block B hB hb hf
theorem But.cell {b f : Nat} {w w1 : World} {p : Addr} {v : Value} (h : But b f w w1) (hb : p.block ≠ b) (hf : p.block ≠ f) (hc : w.cell? p = some v) : w1.cell? p = some v := by
  have e := h.block p.block (World.block_lt_of_cell? w p hc) hb hf
  rw [← hc]
  unfold World.cell?
  rw [e]
theorem But.frozen {b f : Nat} {w w1 : World} {p : Addr} (h : But b f w w1) (hb : p.block ≠ b) (hf : p.block ≠ f) (hl : p.block < w.heap.size) : w1.frozen? p = w.frozen? p := by
  have e := h.block p.block hl hb hf
  unfold World.frozen?
  rw [e]
theorem IBoxF.but {b f B V : Nat} {n : Bool} {w w1 : World} (h : IBoxF w B n V) (k : But b f w w1) (hb : B ≠ b) (hf : B ≠ f) : IBoxF w1 B n V :=
  ⟨⟨k.cell hb hf h.b.c0, k.cell hb hf h.b.c1, k.cell hb hf h.b.c2, k.cell hb hf h.b.c3, k.cell hb hf h.b.c4, Nat.lt_of_lt_of_le h.b.l k.size⟩,
    by rw [k.frozen hb hf h.b.l]; exact h.f0, by rw [k.frozen hb hf h.b.l]; exact h.f1, by rw [k.frozen hb hf h.b.l]; exact h.f2, by rw [k.frozen hb hf h.b.l]; exact h.f3, by rw [k.frozen hb hf h.b.l]; exact h.f4⟩
theorem K10.but {b f B V U : Nat} {n m : Bool} {w w1 : World} (h : K10 w B n V m U) (k : But b f w w1) (hb : B ≠ b) (hf : B ≠ f) : K10 w1 B n V m U := by
  obtain ⟨h0, h1, h2, h3, h4, h5, h6, h7, h8, h9⟩ := h.all
  exact ⟨k.cell hb hf h0, k.cell hb hf h1, k.cell hb hf h2, k.cell hb hf h3, k.cell hb hf h4, k.cell hb hf h5, k.cell hb hf h6, k.cell hb hf h7, k.cell hb hf h8, k.cell hb hf h9⟩
def bsN : Option Int → Bool
  | none => false
  | some m => sg m
def bsV : Option Int → Nat
  | none => 0
  | some m => ab m
/-- the best yet, in its two blocks -/
structure AnyI (w : World) (Bb Bf : Nat) (st : Option Int) : Prop where
  b : IBoxF w Bb (bsN st) (bsV st)
  f : w.cell? ⟨Bf, 0, none⟩ = some (.bool st.isSome)
  z : w.frozen? ⟨Bf, 0, none⟩ = false
  lf : Bf < w.heap.size
  ne : Bb ≠ Bf
  m : bsV st < 2 ^ 256
theorem AnyI.below {w w' : World} {Bb Bf : Nat} {st : Option Int} (h : AnyI w Bb Bf st) (hb : Below w.heap.size w w') : AnyI w' Bb Bf st :=
  ⟨h.b.below hb, keep_cell hb h.f, by rw [hb.frozen (p := ⟨Bf, 0, none⟩) h.lf]; exact h.z, Nat.lt_of_lt_of_le h.lf hb.size, h.ne, h.m⟩
def tryS (st : Option Int) (x : Cl) (a : Int) : Option Int := (inC x.iv (some a)).foldl pickS st
theorem tryS_in {st : Option Int} {x : Cl} {a : Int} (h : x.lo ≤ a ∧ a ≤ x.hi) : tryS st x a = pickS st a := by
  show (if x.iv.1 ≤ a ∧ a ≤ x.iv.2 then [a] else []).foldl pickS st = _
  rw [if_pos (show x.iv.1 ≤ a ∧ a ≤ x.iv.2 from h)]
  rfl
theorem tryS_out {st : Option Int} {x : Cl} {a : Int} (h : ¬ (x.lo ≤ a ∧ a ≤ x.hi)) : tryS st x a = st := by
  show (if x.iv.1 ≤ a ∧ a ≤ x.iv.2 then [a] else []).foldl pickS st = _
  rw [if_neg (show ¬ (x.iv.1 ≤ a ∧ a ≤ x.iv.2) from h)]
  rfl
theorem cmpZ_pos (p q : Int) : 0 < cmpZ p q ↔ q < p := by
  unfold cmpZ
  split
  · omega
  · split <;> omega
theorem AnyI.put {w : World} {Bb Bf V : Nat} {n : Bool} {st : Option Int} {a : Int} (h : AnyI w Bb Bf st) (ha : a.natAbs < 2 ^ 256) (hn : n = sg a) (hV : V = ab a) :
    AnyI ((((((w.setCell ⟨Bb, 0, none⟩ (.bool n)).setCell ⟨Bb, 1, none⟩ (.int .u64 (lm V 0 : Nat))).setCell ⟨Bb, 2, none⟩ (.int .u64 (lm V 1 : Nat))).setCell ⟨Bb, 3, none⟩ (.int .u64 (lm V 2 : Nat))).setCell ⟨Bb, 4, none⟩ (.int .u64 (lm V 3 : Nat))).setCell ⟨Bf, 0, none⟩ (.bool true)) Bb Bf (some a) := by
  subst hn hV
  have hne := h.ne
  have hs := h.b.set (V := ab a) (m := sg a)
  have hlf : ∀ {w2 : World} {j : Nat} {u : Value}, Bf < w2.heap.size → Bf < (w2.setCell ⟨Bb, j, none⟩ u).heap.size := fun h2 => by rw [World.size_setCell]; exact h2
  refine ⟨?_, ?_, ?_, ?_, hne, ha⟩
  · have hk : But Bf Bf _ _ := (But.of (b := Bf) (f := Bf) (Below.refl _ (((((w.setCell ⟨Bb, 0, none⟩ (.bool (sg a))).setCell ⟨Bb, 1, none⟩ (.int .u64 (lm (ab a) 0 : Nat))).setCell ⟨Bb, 2, none⟩ (.int .u64 (lm (ab a) 1 : Nat))).setCell ⟨Bb, 3, none⟩ (.int .u64 (lm (ab a) 2 : Nat))).setCell ⟨Bb, 4, none⟩ (.int .u64 (lm (ab a) 3 : Nat))))).setB (j := 0) (v := .bool true)
    exact hs.but hk hne hne
  · refine World.cell?_setCell_same _ _ _ (show _ = some (.bool st.isSome) from ?_)
    rw [set_other (by simp), set_other (by simp), set_other (by simp), set_other (by simp), set_other (by simp)]
    exact h.f
  · simp only [World.frozen?_setCell]
    exact h.z
  · simp only [World.size_setCell]
    exact h.lf
set_option maxRecDepth 20000 in
set_option maxHeartbeats 1600000 in
theorem try_no (nl nh an : Bool) (vl vh av : Nat) (p q : Value) (w : World) :
    Calls Tryz.prog 36 #[.agg #[.bool nl, .int .u64 (lm vl 0 : Nat), .int .u64 (lm vl 1 : Nat), .int .u64 (lm vl 2 : Nat), .int .u64 (lm vl 3 : Nat), .bool nh, .int .u64 (lm vh 0 : Nat), .int .u64 (lm vh 1 : Nat), .int .u64 (lm vh 2 : Nat), .int .u64 (lm vh 3 : Nat)], .agg #[.bool (an ), .int .u64 (lm ( av) 0 : Nat), .int .u64 (lm ( av) 1 : Nat), .int .u64 (lm ( av) 2 : Nat), .int .u64 (lm ( av) 3 : Nat)], .bool false, p, q] w fun e w' => e = .returned (.tuple #[]) ∧ Below w.heap.size w w' := by
  go_enter Tryz.func36, Tryz.ntmps36
  repeat any_goals (first | go_skip | go_guarded | go_step | go_upon | (simp only []; done))
  exact bodyPost_ret (v := .tuple #[]) (by simp [results, Tryz.results36, go_sem]) rfl ⟨rfl, by (repeat first | with_reducible exact Below.refl _ _ | with_reducible assumption | with_reducible refine Below.drew ?_ | with_reducible refine below_alloc ?_ _ | ((with_reducible refine Below.setCell ?_ ?_ _); rotate_left; (focus (first | with_reducible exact Nat.le_refl _ | (simp; done) | (simp; omega) | omega))) | (with_reducible refine below_trans ?_ (by assumption)))⟩
set_option maxRecDepth 20000 in
set_option maxHeartbeats 4000000 in
theorem try_yes (x : Cl) (a : Int) (nl nh an : Bool) (vl vh av : Nat) (Bb Bf : Nat) (st : Option Int) (w : World) (h : AnyI w Bb Bf st) (ha : a.natAbs < 2 ^ 256) (hA : an = sg a ∧ av = ab a) (hX : nl = sg x.lo ∧ vl = ab x.lo ∧ nh = sg x.hi ∧ vh = ab x.hi) :
    Calls Tryz.prog 36 #[.agg #[.bool nl, .int .u64 (lm vl 0 : Nat), .int .u64 (lm vl 1 : Nat), .int .u64 (lm vl 2 : Nat), .int .u64 (lm vl 3 : Nat), .bool nh, .int .u64 (lm vh 0 : Nat), .int .u64 (lm vh 1 : Nat), .int .u64 (lm vh 2 : Nat), .int .u64 (lm vh 3 : Nat)], .agg #[.bool (an ), .int .u64 (lm ( av) 0 : Nat), .int .u64 (lm ( av) 1 : Nat), .int .u64 (lm ( av) 2 : Nat), .int .u64 (lm ( av) 3 : Nat)], .bool true, .pointer (some ⟨Bb, 0, none⟩), .pointer (some ⟨Bf, 0, none⟩)] w fun e w' => e = .returned (.tuple #[]) ∧ AnyI w' Bb Bf (tryS st x a) ∧ But Bb Bf w w' := by
  have HI := Lib.hid h
  have HA := Lib.hid ha
  have HAN := Lib.hid hA
  obtain ⟨z1, hz1⟩ : ∃ z, cmpI (sg x.lo) (ab x.lo) (sg a) (ab a) = z := ⟨_, rfl⟩
  obtain ⟨z2, hz2⟩ : ∃ z, cmpI (sg a) (ab a) (sg x.hi) (ab x.hi) = z := ⟨_, rfl⟩
  obtain ⟨z3, hz3⟩ : ∃ z, cmpV (ab a) (bsV st) = z := ⟨_, rfl⟩
  have C1 := Lib.hid fun wx => Cmp_any (sg x.lo) (ab x.lo) x.hl (sg a) (ab a) ha wx
  have C2 := Lib.hid fun wx => Cmp_any (sg a) (ab a) ha (sg x.hi) (ab x.hi) x.hh wx
  have C3 := Lib.hid fun wx => CmpN_any (ab a) (bsV st) ha h.m wx
  rw [hz1, ← hX.1, ← hX.2.1, ← hA.1, ← hA.2] at C1
  rw [hz2, ← hX.2.2.1, ← hX.2.2.2, ← hA.1, ← hA.2] at C2
  rw [hz3, ← hA.2] at C3
  have J1 := Lib.hid (show 0 < z1 ↔ a < x.lo by rw [← hz1, cmpI_sg]; exact cmpZ_pos _ _)
  have J2 := Lib.hid (show 0 < z2 ↔ x.hi < a by rw [← hz2, cmpI_sg]; exact cmpZ_pos _ _)
  have J3 := Lib.hid (show (z3 < 0 ↔ ab a < bsV st) ∧ (z3 = 0 ↔ ab a = bsV st) by
    rw [← hz3]
    unfold cmpV
    constructor
    · split
      · omega
      · split <;> omega
    · split
      · omega
      · split <;> omega)
  have hf := h.f
  have hfz := h.z
  have hfl := h.lf
  have hne := h.ne
  have hne2 := h.ne.symm
  obtain ⟨sn, hsn⟩ : ∃ n, n = bsN st := ⟨_, rfl⟩
  obtain ⟨sv, hsv⟩ : ∃ n, n = bsV st := ⟨_, rfl⟩
  obtain ⟨_, _, _, _, _⟩ := h.b.all
  clear h ha hA hX hz1 hz2 hz3 hsn hsv
  go_enter Tryz.func36, Tryz.ntmps36
  by_cases c1 : 0 < z1
  · have TR := Lib.hid (@tryS_out st x a (fun hc => by have := J1.out.1 c1; omega))
    repeat any_goals (first | (go_at_call 27; with_reducible refine (C1.out _).mono ?_; rintro e w1 ⟨rfl, hb1⟩; have Ka := Lib.hid ((k10_new.below (below_alloc (Below.refl _ _) _)).below hb1); have Ga := Lib.hid ((@ibox_new (w.alloc (.cells #[.bool nl, .int .u64 (lm vl 0 : Nat), .int .u64 (lm vl 1 : Nat), .int .u64 (lm vl 2 : Nat), .int .u64 (lm vl 3 : Nat), .bool nh, .int .u64 (lm vh 0 : Nat), .int .u64 (lm vh 1 : Nat), .int .u64 (lm vh 2 : Nat), .int .u64 (lm vh 3 : Nat)] 51)) an av 29).below hb1); rw [show (w.alloc (.cells #[.bool nl, .int .u64 (lm vl 0 : Nat), .int .u64 (lm vl 1 : Nat), .int .u64 (lm vl 2 : Nat), .int .u64 (lm vl 3 : Nat), .bool nh, .int .u64 (lm vh 0 : Nat), .int .u64 (lm vh 1 : Nat), .int .u64 (lm vh 2 : Nat), .int .u64 (lm vh 3 : Nat)] 51)).heap.size = w.heap.size + 1 from by simp] at Ga; have Ia := Lib.hid (HI.out.below (below_trans (by (repeat first | with_reducible exact Below.refl _ _ | with_reducible assumption | with_reducible refine Below.drew ?_ | with_reducible refine below_alloc ?_ _ | ((with_reducible refine Below.setCell ?_ ?_ _); rotate_left; (focus (first | with_reducible exact Nat.le_refl _ | (simp; done) | (simp; omega) | omega))) | (with_reducible refine below_trans ?_ (by assumption)))) hb1)); have hw1 := Lib.hid (show Below w.heap.size w w1 from below_trans (by (repeat first | with_reducible exact Below.refl _ _ | with_reducible assumption | with_reducible refine Below.drew ?_ | with_reducible refine below_alloc ?_ _ | ((with_reducible refine Below.setCell ?_ ?_ _); rotate_left; (focus (first | with_reducible exact Nat.le_refl _ | (simp; done) | (simp; omega) | omega))) | (with_reducible refine below_trans ?_ (by assumption)))) hb1); obtain ⟨_, _, _, _, _, _, _, _, _, _⟩ := Ka.out.all; obtain ⟨_, _, _, _, _⟩ := Ga.out.all; have hAf := Ia.out.f; have hAz := Ia.out.z; have hAl := Ia.out.lf; obtain ⟨_, _, _, _, _⟩ := Ia.out.b.all) | go_skip | go_guarded | go_step | go_upon | (dsimp only []))
    exact bodyPost_ret (v := .tuple #[]) (by simp [results, Tryz.results36, go_sem]) rfl ⟨rfl, by rw [TR.out]; exact Ia.out, But.of hw1.out⟩
  · by_cases c2 : 0 < z2
    · have TR := Lib.hid (@tryS_out st x a (fun hc => by have := J2.out.1 c2; omega))
      repeat any_goals (first | (go_at_call 27; with_reducible refine (C1.out _).mono ?_; rintro e w1 ⟨rfl, hb1⟩; have Ka := Lib.hid ((k10_new.below (below_alloc (Below.refl _ _) _)).below hb1); have Ga := Lib.hid ((@ibox_new (w.alloc (.cells #[.bool nl, .int .u64 (lm vl 0 : Nat), .int .u64 (lm vl 1 : Nat), .int .u64 (lm vl 2 : Nat), .int .u64 (lm vl 3 : Nat), .bool nh, .int .u64 (lm vh 0 : Nat), .int .u64 (lm vh 1 : Nat), .int .u64 (lm vh 2 : Nat), .int .u64 (lm vh 3 : Nat)] 51)) an av 29).below hb1); rw [show (w.alloc (.cells #[.bool nl, .int .u64 (lm vl 0 : Nat), .int .u64 (lm vl 1 : Nat), .int .u64 (lm vl 2 : Nat), .int .u64 (lm vl 3 : Nat), .bool nh, .int .u64 (lm vh 0 : Nat), .int .u64 (lm vh 1 : Nat), .int .u64 (lm vh 2 : Nat), .int .u64 (lm vh 3 : Nat)] 51)).heap.size = w.heap.size + 1 from by simp] at Ga; have Ia := Lib.hid (HI.out.below (below_trans (by (repeat first | with_reducible exact Below.refl _ _ | with_reducible assumption | with_reducible refine Below.drew ?_ | with_reducible refine below_alloc ?_ _ | ((with_reducible refine Below.setCell ?_ ?_ _); rotate_left; (focus (first | with_reducible exact Nat.le_refl _ | (simp; done) | (simp; omega) | omega))) | (with_reducible refine below_trans ?_ (by assumption)))) hb1)); have hw1 := Lib.hid (show Below w.heap.size w w1 from below_trans (by (repeat first | with_reducible exact Below.refl _ _ | with_reducible assumption | with_reducible refine Below.drew ?_ | with_reducible refine below_alloc ?_ _ | ((with_reducible refine Below.setCell ?_ ?_ _); rotate_left; (focus (first | with_reducible exact Nat.le_refl _ | (simp; done) | (simp; omega) | omega))) | (with_reducible refine below_trans ?_ (by assumption)))) hb1); obtain ⟨_, _, _, _, _, _, _, _, _, _⟩ := Ka.out.all; obtain ⟨_, _, _, _, _⟩ := Ga.out.all; have hAf := Ia.out.f; have hAz := Ia.out.z; have hAl := Ia.out.lf; obtain ⟨_, _, _, _, _⟩ := Ia.out.b.all) | (go_at_call 27; with_reducible refine (C2.out _).mono ?_; rintro e w2 ⟨rfl, hb2⟩; have K2 := Lib.hid (Ka.out.below hb2); have G2 := Lib.hid (Ga.out.below hb2); have I2 := Lib.hid (Ia.out.below hb2); have hw2 := Lib.hid (below_trans hw1.out hb2); obtain ⟨_, _, _, _, _, _, _, _, _, _⟩ := K2.out.all; obtain ⟨_, _, _, _, _⟩ := G2.out.all; have hBf2 := I2.out.f; have hBz2 := I2.out.z; have hBl2 := I2.out.lf; obtain ⟨_, _, _, _, _⟩ := I2.out.b.all) | go_skip | go_guarded | go_step | go_upon | (dsimp only []))
      exact bodyPost_ret (v := .tuple #[]) (by simp [results, Tryz.results36, go_sem]) rfl ⟨rfl, by rw [TR.out]; exact I2.out, But.of hw2.out⟩
    · have TI := Lib.hid (@tryS_in st x a ⟨Int.not_lt.1 (fun h => c1 (J1.out.2 h)), Int.not_lt.1 (fun h => c2 (J2.out.2 h))⟩)
      cases st with
      | none =>
        repeat any_goals (first | (go_at_call 27; with_reducible refine (C1.out _).mono ?_; rintro e w1 ⟨rfl, hb1⟩; have Ka := Lib.hid ((k10_new.below (below_alloc (Below.refl _ _) _)).below hb1); have Ga := Lib.hid ((@ibox_new (w.alloc (.cells #[.bool nl, .int .u64 (lm vl 0 : Nat), .int .u64 (lm vl 1 : Nat), .int .u64 (lm vl 2 : Nat), .int .u64 (lm vl 3 : Nat), .bool nh, .int .u64 (lm vh 0 : Nat), .int .u64 (lm vh 1 : Nat), .int .u64 (lm vh 2 : Nat), .int .u64 (lm vh 3 : Nat)] 51)) an av 29).below hb1); rw [show (w.alloc (.cells #[.bool nl, .int .u64 (lm vl 0 : Nat), .int .u64 (lm vl 1 : Nat), .int .u64 (lm vl 2 : Nat), .int .u64 (lm vl 3 : Nat), .bool nh, .int .u64 (lm vh 0 : Nat), .int .u64 (lm vh 1 : Nat), .int .u64 (lm vh 2 : Nat), .int .u64 (lm vh 3 : Nat)] 51)).heap.size = w.heap.size + 1 from by simp] at Ga; have Ia := Lib.hid (HI.out.below (below_trans (by (repeat first | with_reducible exact Below.refl _ _ | with_reducible assumption | with_reducible refine Below.drew ?_ | with_reducible refine below_alloc ?_ _ | ((with_reducible refine Below.setCell ?_ ?_ _); rotate_left; (focus (first | with_reducible exact Nat.le_refl _ | (simp; done) | (simp; omega) | omega))) | (with_reducible refine below_trans ?_ (by assumption)))) hb1)); have hw1 := Lib.hid (show Below w.heap.size w w1 from below_trans (by (repeat first | with_reducible exact Below.refl _ _ | with_reducible assumption | with_reducible refine Below.drew ?_ | with_reducible refine below_alloc ?_ _ | ((with_reducible refine Below.setCell ?_ ?_ _); rotate_left; (focus (first | with_reducible exact Nat.le_refl _ | (simp; done) | (simp; omega) | omega))) | (with_reducible refine below_trans ?_ (by assumption)))) hb1); obtain ⟨_, _, _, _, _, _, _, _, _, _⟩ := Ka.out.all; obtain ⟨_, _, _, _, _⟩ := Ga.out.all; have hAf := Ia.out.f; have hAz := Ia.out.z; have hAl := Ia.out.lf; obtain ⟨_, _, _, _, _⟩ := Ia.out.b.all) | (go_at_call 27; with_reducible refine (C2.out _).mono ?_; rintro e w2 ⟨rfl, hb2⟩; have K2 := Lib.hid (Ka.out.below hb2); have G2 := Lib.hid (Ga.out.below hb2); have I2 := Lib.hid (Ia.out.below hb2); have hw2 := Lib.hid (below_trans hw1.out hb2); obtain ⟨_, _, _, _, _, _, _, _, _, _⟩ := K2.out.all; obtain ⟨_, _, _, _, _⟩ := G2.out.all; have hBf2 := I2.out.f; have hBz2 := I2.out.z; have hBl2 := I2.out.lf; obtain ⟨_, _, _, _, _⟩ := I2.out.b.all) | (go_at_call 37; with_reducible refine (C3.out _).mono ?_; rintro e w3 ⟨rfl, hb3⟩; have K3 := Lib.hid (K2.out.below hb3); have G3 := Lib.hid (G2.out.below hb3); have I3 := Lib.hid (I2.out.below hb3); have hw3 := Lib.hid (below_trans hw2.out hb3); obtain ⟨_, _, _, _, _, _, _, _, _, _⟩ := K3.out.all; obtain ⟨_, _, _, _, _⟩ := G3.out.all; have hBf3 := I3.out.f; have hBz3 := I3.out.z; have hBl3 := I3.out.lf; obtain ⟨_, _, _, _, _⟩ := I3.out.b.all) | go_skip | go_guarded | go_step | go_upon | (dsimp only []))
        exact bodyPost_end (v := .tuple #[]) (by simp [results, Tryz.results36, go_sem]) rfl ⟨rfl, by rw [TI.out]; exact I3.out.put HA.out HAN.out.1 HAN.out.2, ((((((But.of hw3.out).setB).setB).setB).setB).setB).setF⟩
      | some y =>
        by_cases c3 : z3 < 0
        · have TP := Lib.hid (show pickS (some y) a = some a from if_pos (.inl (J3.out.1.1 c3)))
          repeat any_goals (first | (go_at_call 27; with_reducible refine (C1.out _).mono ?_; rintro e w1 ⟨rfl, hb1⟩; have Ka := Lib.hid ((k10_new.below (below_alloc (Below.refl _ _) _)).below hb1); have Ga := Lib.hid ((@ibox_new (w.alloc (.cells #[.bool nl, .int .u64 (lm vl 0 : Nat), .int .u64 (lm vl 1 : Nat), .int .u64 (lm vl 2 : Nat), .int .u64 (lm vl 3 : Nat), .bool nh, .int .u64 (lm vh 0 : Nat), .int .u64 (lm vh 1 : Nat), .int .u64 (lm vh 2 : Nat), .int .u64 (lm vh 3 : Nat)] 51)) an av 29).below hb1); rw [show (w.alloc (.cells #[.bool nl, .int .u64 (lm vl 0 : Nat), .int .u64 (lm vl 1 : Nat), .int .u64 (lm vl 2 : Nat), .int .u64 (lm vl 3 : Nat), .bool nh, .int .u64 (lm vh 0 : Nat), .int .u64 (lm vh 1 : Nat), .int .u64 (lm vh 2 : Nat), .int .u64 (lm vh 3 : Nat)] 51)).heap.size = w.heap.size + 1 from by simp] at Ga; have Ia := Lib.hid (HI.out.below (below_trans (by (repeat first | with_reducible exact Below.refl _ _ | with_reducible assumption | with_reducible refine Below.drew ?_ | with_reducible refine below_alloc ?_ _ | ((with_reducible refine Below.setCell ?_ ?_ _); rotate_left; (focus (first | with_reducible exact Nat.le_refl _ | (simp; done) | (simp; omega) | omega))) | (with_reducible refine below_trans ?_ (by assumption)))) hb1)); have hw1 := Lib.hid (show Below w.heap.size w w1 from below_trans (by (repeat first | with_reducible exact Below.refl _ _ | with_reducible assumption | with_reducible refine Below.drew ?_ | with_reducible refine below_alloc ?_ _ | ((with_reducible refine Below.setCell ?_ ?_ _); rotate_left; (focus (first | with_reducible exact Nat.le_refl _ | (simp; done) | (simp; omega) | omega))) | (with_reducible refine below_trans ?_ (by assumption)))) hb1); obtain ⟨_, _, _, _, _, _, _, _, _, _⟩ := Ka.out.all; obtain ⟨_, _, _, _, _⟩ := Ga.out.all; have hAf := Ia.out.f; have hAz := Ia.out.z; have hAl := Ia.out.lf; obtain ⟨_, _, _, _, _⟩ := Ia.out.b.all) | (go_at_call 27; with_reducible refine (C2.out _).mono ?_; rintro e w2 ⟨rfl, hb2⟩; have K2 := Lib.hid (Ka.out.below hb2); have G2 := Lib.hid (Ga.out.below hb2); have I2 := Lib.hid (Ia.out.below hb2); have hw2 := Lib.hid (below_trans hw1.out hb2); obtain ⟨_, _, _, _, _, _, _, _, _, _⟩ := K2.out.all; obtain ⟨_, _, _, _, _⟩ := G2.out.all; have hBf2 := I2.out.f; have hBz2 := I2.out.z; have hBl2 := I2.out.lf; obtain ⟨_, _, _, _, _⟩ := I2.out.b.all) | (go_at_call 37; with_reducible refine (C3.out _).mono ?_; rintro e w3 ⟨rfl, hb3⟩; have K3 := Lib.hid (K2.out.below hb3); have G3 := Lib.hid (G2.out.below hb3); have I3 := Lib.hid (I2.out.below hb3); have hw3 := Lib.hid (below_trans hw2.out hb3); obtain ⟨_, _, _, _, _, _, _, _, _, _⟩ := K3.out.all; obtain ⟨_, _, _, _, _⟩ := G3.out.all; have hBf3 := I3.out.f; have hBz3 := I3.out.z; have hBl3 := I3.out.lf; obtain ⟨_, _, _, _, _⟩ := I3.out.b.all) | go_skip | go_guarded | go_step | go_upon | (dsimp only []))
          exact bodyPost_end (v := .tuple #[]) (by simp [results, Tryz.results36, go_sem]) rfl ⟨rfl, by rw [TI.out, TP.out]; exact I3.out.put HA.out HAN.out.1 HAN.out.2, ((((((But.of hw3.out).setB).setB).setB).setB).setB).setF⟩
        · by_cases c4 : z3 = 0
          · subst c4
            cases an with
            | false =>
              have TP := Lib.hid (show pickS (some y) a = some a from if_pos (.inr ⟨J3.out.2.1 rfl, by have := HAN.out.1; unfold sg at this; have := of_decide_eq_false this.symm; omega⟩))
              repeat any_goals (first | (go_at_call 27; with_reducible refine (C1.out _).mono ?_; rintro e w1 ⟨rfl, hb1⟩; have Ka := Lib.hid ((k10_new.below (below_alloc (Below.refl _ _) _)).below hb1); have Ga := Lib.hid ((@ibox_new (w.alloc (.cells #[.bool nl, .int .u64 (lm vl 0 : Nat), .int .u64 (lm vl 1 : Nat), .int .u64 (lm vl 2 : Nat), .int .u64 (lm vl 3 : Nat), .bool nh, .int .u64 (lm vh 0 : Nat), .int .u64 (lm vh 1 : Nat), .int .u64 (lm vh 2 : Nat), .int .u64 (lm vh 3 : Nat)] 51)) false av 29).below hb1); rw [show (w.alloc (.cells #[.bool nl, .int .u64 (lm vl 0 : Nat), .int .u64 (lm vl 1 : Nat), .int .u64 (lm vl 2 : Nat), .int .u64 (lm vl 3 : Nat), .bool nh, .int .u64 (lm vh 0 : Nat), .int .u64 (lm vh 1 : Nat), .int .u64 (lm vh 2 : Nat), .int .u64 (lm vh 3 : Nat)] 51)).heap.size = w.heap.size + 1 from by simp] at Ga; have Ia := Lib.hid (HI.out.below (below_trans (by (repeat first | with_reducible exact Below.refl _ _ | with_reducible assumption | with_reducible refine Below.drew ?_ | with_reducible refine below_alloc ?_ _ | ((with_reducible refine Below.setCell ?_ ?_ _); rotate_left; (focus (first | with_reducible exact Nat.le_refl _ | (simp; done) | (simp; omega) | omega))) | (with_reducible refine below_trans ?_ (by assumption)))) hb1)); have hw1 := Lib.hid (show Below w.heap.size w w1 from below_trans (by (repeat first | with_reducible exact Below.refl _ _ | with_reducible assumption | with_reducible refine Below.drew ?_ | with_reducible refine below_alloc ?_ _ | ((with_reducible refine Below.setCell ?_ ?_ _); rotate_left; (focus (first | with_reducible exact Nat.le_refl _ | (simp; done) | (simp; omega) | omega))) | (with_reducible refine below_trans ?_ (by assumption)))) hb1); obtain ⟨_, _, _, _, _, _, _, _, _, _⟩ := Ka.out.all; obtain ⟨_, _, _, _, _⟩ := Ga.out.all; have hAf := Ia.out.f; have hAz := Ia.out.z; have hAl := Ia.out.lf; obtain ⟨_, _, _, _, _⟩ := Ia.out.b.all) | (go_at_call 27; with_reducible refine (C2.out _).mono ?_; rintro e w2 ⟨rfl, hb2⟩; have K2 := Lib.hid (Ka.out.below hb2); have G2 := Lib.hid (Ga.out.below hb2); have I2 := Lib.hid (Ia.out.below hb2); have hw2 := Lib.hid (below_trans hw1.out hb2); obtain ⟨_, _, _, _, _, _, _, _, _, _⟩ := K2.out.all; obtain ⟨_, _, _, _, _⟩ := G2.out.all; have hBf2 := I2.out.f; have hBz2 := I2.out.z; have hBl2 := I2.out.lf; obtain ⟨_, _, _, _, _⟩ := I2.out.b.all) | (go_at_call 37; with_reducible refine (C3.out _).mono ?_; rintro e w3 ⟨rfl, hb3⟩; have K3 := Lib.hid (K2.out.below hb3); have G3 := Lib.hid (G2.out.below hb3); have I3 := Lib.hid (I2.out.below hb3); have hw3 := Lib.hid (below_trans hw2.out hb3); obtain ⟨_, _, _, _, _, _, _, _, _, _⟩ := K3.out.all; obtain ⟨_, _, _, _, _⟩ := G3.out.all; have hBf3 := I3.out.f; have hBz3 := I3.out.z; have hBl3 := I3.out.lf; obtain ⟨_, _, _, _, _⟩ := I3.out.b.all) | go_skip | go_guarded | go_step | go_upon | (dsimp only []))
              exact bodyPost_end (v := .tuple #[]) (by simp [results, Tryz.results36, go_sem]) rfl ⟨rfl, by rw [TI.out, TP.out]; exact I3.out.put HA.out HAN.out.1 HAN.out.2, ((((((But.of hw3.out).setB).setB).setB).setB).setB).setF⟩
            | true =>
              have TP := Lib.hid (show pickS (some y) a = some y from if_neg (by have := HAN.out.1; unfold sg at this; have := of_decide_eq_true this.symm; have := fun h => c3 (J3.out.1.2 h); rintro (h | h); exact this h; omega))
              repeat any_goals (first | (go_at_call 27; with_reducible refine (C1.out _).mono ?_; rintro e w1 ⟨rfl, hb1⟩; have Ka := Lib.hid ((k10_new.below (below_alloc (Below.refl _ _) _)).below hb1); have Ga := Lib.hid ((@ibox_new (w.alloc (.cells #[.bool nl, .int .u64 (lm vl 0 : Nat), .int .u64 (lm vl 1 : Nat), .int .u64 (lm vl 2 : Nat), .int .u64 (lm vl 3 : Nat), .bool nh, .int .u64 (lm vh 0 : Nat), .int .u64 (lm vh 1 : Nat), .int .u64 (lm vh 2 : Nat), .int .u64 (lm vh 3 : Nat)] 51)) true av 29).below hb1); rw [show (w.alloc (.cells #[.bool nl, .int .u64 (lm vl 0 : Nat), .int .u64 (lm vl 1 : Nat), .int .u64 (lm vl 2 : Nat), .int .u64 (lm vl 3 : Nat), .bool nh, .int .u64 (lm vh 0 : Nat), .int .u64 (lm vh 1 : Nat), .int .u64 (lm vh 2 : Nat), .int .u64 (lm vh 3 : Nat)] 51)).heap.size = w.heap.size + 1 from by simp] at Ga; have Ia := Lib.hid (HI.out.below (below_trans (by (repeat first | with_reducible exact Below.refl _ _ | with_reducible assumption | with_reducible refine Below.drew ?_ | with_reducible refine below_alloc ?_ _ | ((with_reducible refine Below.setCell ?_ ?_ _); rotate_left; (focus (first | with_reducible exact Nat.le_refl _ | (simp; done) | (simp; omega) | omega))) | (with_reducible refine below_trans ?_ (by assumption)))) hb1)); have hw1 := Lib.hid (show Below w.heap.size w w1 from below_trans (by (repeat first | with_reducible exact Below.refl _ _ | with_reducible assumption | with_reducible refine Below.drew ?_ | with_reducible refine below_alloc ?_ _ | ((with_reducible refine Below.setCell ?_ ?_ _); rotate_left; (focus (first | with_reducible exact Nat.le_refl _ | (simp; done) | (simp; omega) | omega))) | (with_reducible refine below_trans ?_ (by assumption)))) hb1); obtain ⟨_, _, _, _, _, _, _, _, _, _⟩ := Ka.out.all; obtain ⟨_, _, _, _, _⟩ := Ga.out.all; have hAf := Ia.out.f; have hAz := Ia.out.z; have hAl := Ia.out.lf; obtain ⟨_, _, _, _, _⟩ := Ia.out.b.all) | (go_at_call 27; with_reducible refine (C2.out _).mono ?_; rintro e w2 ⟨rfl, hb2⟩; have K2 := Lib.hid (Ka.out.below hb2); have G2 := Lib.hid (Ga.out.below hb2); have I2 := Lib.hid (Ia.out.below hb2); have hw2 := Lib.hid (below_trans hw1.out hb2); obtain ⟨_, _, _, _, _, _, _, _, _, _⟩ := K2.out.all; obtain ⟨_, _, _, _, _⟩ := G2.out.all; have hBf2 := I2.out.f; have hBz2 := I2.out.z; have hBl2 := I2.out.lf; obtain ⟨_, _, _, _, _⟩ := I2.out.b.all) | (go_at_call 37; with_reducible refine (C3.out _).mono ?_; rintro e w3 ⟨rfl, hb3⟩; have K3 := Lib.hid (K2.out.below hb3); have G3 := Lib.hid (G2.out.below hb3); have I3 := Lib.hid (I2.out.below hb3); have hw3 := Lib.hid (below_trans hw2.out hb3); obtain ⟨_, _, _, _, _, _, _, _, _, _⟩ := K3.out.all; obtain ⟨_, _, _, _, _⟩ := G3.out.all; have hBf3 := I3.out.f; have hBz3 := I3.out.z; have hBl3 := I3.out.lf; obtain ⟨_, _, _, _, _⟩ := I3.out.b.all) | go_skip | go_guarded | go_step | go_upon | (dsimp only []))
              exact bodyPost_end (v := .tuple #[]) (by simp [results, Tryz.results36, go_sem]) rfl ⟨rfl, by rw [TI.out, TP.out]; exact I3.out, But.of hw3.out⟩
          · have c5 : (z3 == 0) = false := beq_false_of_ne c4
            have TP := Lib.hid (show pickS (some y) a = some y from if_neg (by rintro (h | h); exact c3 (J3.out.1.2 h); exact c4 (J3.out.2.2 h.1)))
            repeat any_goals (first | (go_at_call 27; with_reducible refine (C1.out _).mono ?_; rintro e w1 ⟨rfl, hb1⟩; have Ka := Lib.hid ((k10_new.below (below_alloc (Below.refl _ _) _)).below hb1); have Ga := Lib.hid ((@ibox_new (w.alloc (.cells #[.bool nl, .int .u64 (lm vl 0 : Nat), .int .u64 (lm vl 1 : Nat), .int .u64 (lm vl 2 : Nat), .int .u64 (lm vl 3 : Nat), .bool nh, .int .u64 (lm vh 0 : Nat), .int .u64 (lm vh 1 : Nat), .int .u64 (lm vh 2 : Nat), .int .u64 (lm vh 3 : Nat)] 51)) an av 29).below hb1); rw [show (w.alloc (.cells #[.bool nl, .int .u64 (lm vl 0 : Nat), .int .u64 (lm vl 1 : Nat), .int .u64 (lm vl 2 : Nat), .int .u64 (lm vl 3 : Nat), .bool nh, .int .u64 (lm vh 0 : Nat), .int .u64 (lm vh 1 : Nat), .int .u64 (lm vh 2 : Nat), .int .u64 (lm vh 3 : Nat)] 51)).heap.size = w.heap.size + 1 from by simp] at Ga; have Ia := Lib.hid (HI.out.below (below_trans (by (repeat first | with_reducible exact Below.refl _ _ | with_reducible assumption | with_reducible refine Below.drew ?_ | with_reducible refine below_alloc ?_ _ | ((with_reducible refine Below.setCell ?_ ?_ _); rotate_left; (focus (first | with_reducible exact Nat.le_refl _ | (simp; done) | (simp; omega) | omega))) | (with_reducible refine below_trans ?_ (by assumption)))) hb1)); have hw1 := Lib.hid (show Below w.heap.size w w1 from below_trans (by (repeat first | with_reducible exact Below.refl _ _ | with_reducible assumption | with_reducible refine Below.drew ?_ | with_reducible refine below_alloc ?_ _ | ((with_reducible refine Below.setCell ?_ ?_ _); rotate_left; (focus (first | with_reducible exact Nat.le_refl _ | (simp; done) | (simp; omega) | omega))) | (with_reducible refine below_trans ?_ (by assumption)))) hb1); obtain ⟨_, _, _, _, _, _, _, _, _, _⟩ := Ka.out.all; obtain ⟨_, _, _, _, _⟩ := Ga.out.all; have hAf := Ia.out.f; have hAz := Ia.out.z; have hAl := Ia.out.lf; obtain ⟨_, _, _, _, _⟩ := Ia.out.b.all) | (go_at_call 27; with_reducible refine (C2.out _).mono ?_; rintro e w2 ⟨rfl, hb2⟩; have K2 := Lib.hid (Ka.out.below hb2); have G2 := Lib.hid (Ga.out.below hb2); have I2 := Lib.hid (Ia.out.below hb2); have hw2 := Lib.hid (below_trans hw1.out hb2); obtain ⟨_, _, _, _, _, _, _, _, _, _⟩ := K2.out.all; obtain ⟨_, _, _, _, _⟩ := G2.out.all; have hBf2 := I2.out.f; have hBz2 := I2.out.z; have hBl2 := I2.out.lf; obtain ⟨_, _, _, _, _⟩ := I2.out.b.all) | (go_at_call 37; with_reducible refine (C3.out _).mono ?_; rintro e w3 ⟨rfl, hb3⟩; have K3 := Lib.hid (K2.out.below hb3); have G3 := Lib.hid (G2.out.below hb3); have I3 := Lib.hid (I2.out.below hb3); have hw3 := Lib.hid (below_trans hw2.out hb3); obtain ⟨_, _, _, _, _, _, _, _, _, _⟩ := K3.out.all; obtain ⟨_, _, _, _, _⟩ := G3.out.all; have hBf3 := I3.out.f; have hBz3 := I3.out.z; have hBl3 := I3.out.lf; obtain ⟨_, _, _, _, _⟩ := I3.out.b.all) | go_skip | go_guarded | go_step | go_upon | (dsimp only []))
            exact bodyPost_end (v := .tuple #[]) (by simp [results, Tryz.results36, go_sem]) rfl ⟨rfl, by rw [TI.out, TP.out]; exact I3.out, But.of hw3.out⟩
end Go.Proofs.YtekeedjhaakbhaaGreatDoor

namespace Go.Proofs.YtekeedjhaakbhaaGreatDoor
open Go.RowKit
/-- what stands in a round of Any -/
structure AnyR (w3 wr : World) (Bb Bf Bc Bu Bd : Nat) (nl : Bool) (vl : Nat) (nh : Bool) (vh : Nat) (un : Bool) (uv : Nat) (dn : Bool) (dv : Nat) (st : Option Int) : Prop where
  k : But Bb Bf w3 wr
  s : AnyI wr Bb Bf st
  c : K10 wr Bc nl vl nh vh
  u : IBoxF wr Bu un uv
  d : IBoxF wr Bd dn dv
  l : Bb < w3.heap.size ∧ Bf < w3.heap.size ∧ w3.heap.size ≤ Bc ∧ w3.heap.size ≤ Bu ∧ w3.heap.size ≤ Bd ∧ Bc ≠ Bu ∧ Bc ≠ Bd ∧ Bu ≠ Bd
theorem AnyR.sz {w3 wr : World} {Bb Bf Bc Bu Bd vl vh uv dv : Nat} {nl nh un dn : Bool} {st : Option Int} (h : AnyR w3 wr Bb Bf Bc Bu Bd nl vl nh vh un uv dn dv st) : Bc < wr.heap.size ∧ Bu < wr.heap.size ∧ Bd < wr.heap.size :=
  ⟨World.block_lt_of_cell? wr ⟨Bc, 0, none⟩ h.c.all.1, h.u.b.l, h.d.b.l⟩
theorem AnyR.below {w3 wr wx : World} {Bb Bf Bc Bu Bd vl vh uv dv : Nat} {nl nh un dn : Bool} {st : Option Int} (h : AnyR w3 wr Bb Bf Bc Bu Bd nl vl nh vh un uv dn dv st) (hb : Below wr.heap.size wr wx) : AnyR w3 wx Bb Bf Bc Bu Bd nl vl nh vh un uv dn dv st :=
  ⟨h.k.below hb, h.s.below hb, h.c.below hb, h.u.below hb, h.d.below hb, h.l⟩
theorem AnyR.tried {w3 wr wx : World} {Bb Bf Bc Bu Bd vl vh uv dv : Nat} {nl nh un dn : Bool} {st st' : Option Int} (h : AnyR w3 wr Bb Bf Bc Bu Bd nl vl nh vh un uv dn dv st) (hs : AnyI wx Bb Bf st') (hk : But Bb Bf wr wx) : AnyR w3 wx Bb Bf Bc Bu Bd nl vl nh vh un uv dn dv st' := by
  obtain ⟨l1, l2, l3, l4, l5, l6, l7, l8⟩ := h.l
  exact ⟨h.k.trans hk, hs, h.c.but hk (by omega) (by omega), h.u.but hk (by omega) (by omega), h.d.but hk (by omega) (by omega), h.l⟩
theorem AnyI.far {w w1 : World} {Bb Bf B : Nat} {st : Option Int} (h : AnyI w Bb Bf st) (k : But B B w w1) (h1 : Bb ≠ B) (h2 : Bf ≠ B) : AnyI w1 Bb Bf st :=
  ⟨h.b.but k h1 h1, k.cell (p := ⟨Bf, 0, none⟩) h2 h2 h.f, by rw [k.frozen (p := ⟨Bf, 0, none⟩) h2 h2 h.lf]; exact h.z, Nat.lt_of_lt_of_le h.lf k.size, h.ne, h.m⟩
theorem But.far {w w1 w2 : World} {b f B : Nat} (h : But b f w w1) (k : But B B w1 w2) (hB : w.heap.size ≤ B) : But b f w w2 :=
  ⟨k.os.trans h.os, k.tape.trans h.tape, k.output.trans h.output, Nat.le_trans h.size k.size, fun j hj h1 h2 => (k.block j (Nat.lt_of_lt_of_le hj h.size) (by omega) (by omega)).trans (h.block j hj h1 h2)⟩
theorem but5 (w : World) (B : Nat) (v0 v1 v2 v3 v4 : Value) : But B B w (((((w.setCell ⟨B, 0, none⟩ v0).setCell ⟨B, 1, none⟩ v1).setCell ⟨B, 2, none⟩ v2).setCell ⟨B, 3, none⟩ v3).setCell ⟨B, 4, none⟩ v4) :=
  (((((But.of (Below.refl _ w)).setB).setB).setB).setB).setB
theorem zset {w : World} {B V : Nat} {n : Bool} (h : IBoxF w B n V) : IBoxF (((((w.setCell ⟨B, 0, none⟩ (.bool false)).setCell ⟨B, 1, none⟩ (.int .u64 0)).setCell ⟨B, 2, none⟩ (.int .u64 0)).setCell ⟨B, 3, none⟩ (.int .u64 0)).setCell ⟨B, 4, none⟩ (.int .u64 0)) B false 0 := by
  have e := h.set (m := false) (V := 0)
  simp only [lm_zero] at e
  exact e
theorem AnyR.setU {w3 wr : World} {Bb Bf Bc Bu Bd vl vh uv dv : Nat} {nl nh un dn : Bool} {st : Option Int} (h : AnyR w3 wr Bb Bf Bc Bu Bd nl vl nh vh un uv dn dv st) :
    AnyR w3 (((((wr.setCell ⟨Bu, 0, none⟩ (.bool false)).setCell ⟨Bu, 1, none⟩ (.int .u64 0)).setCell ⟨Bu, 2, none⟩ (.int .u64 0)).setCell ⟨Bu, 3, none⟩ (.int .u64 0)).setCell ⟨Bu, 4, none⟩ (.int .u64 0)) Bb Bf Bc Bu Bd nl vl nh vh false 0 dn dv st := by
  obtain ⟨l1, l2, l3, l4, l5, l6, l7, l8⟩ := h.l
  have k := but5 wr Bu (.bool false) (.int .u64 0) (.int .u64 0) (.int .u64 0) (.int .u64 0)
  exact ⟨h.k.far k (by omega), h.s.far k (by omega) (by omega), h.c.but k (by omega) (by omega), zset h.u, h.d.but k (by omega) (by omega), h.l⟩
theorem AnyR.setD {w3 wr : World} {Bb Bf Bc Bu Bd vl vh uv dv : Nat} {nl nh un dn : Bool} {st : Option Int} (h : AnyR w3 wr Bb Bf Bc Bu Bd nl vl nh vh un uv dn dv st) :
    AnyR w3 (((((wr.setCell ⟨Bd, 0, none⟩ (.bool false)).setCell ⟨Bd, 1, none⟩ (.int .u64 0)).setCell ⟨Bd, 2, none⟩ (.int .u64 0)).setCell ⟨Bd, 3, none⟩ (.int .u64 0)).setCell ⟨Bd, 4, none⟩ (.int .u64 0)) Bb Bf Bc Bu Bd nl vl nh vh un uv false 0 st := by
  obtain ⟨l1, l2, l3, l4, l5, l6, l7, l8⟩ := h.l
  have k := but5 wr Bd (.bool false) (.int .u64 0) (.int .u64 0) (.int .u64 0) (.int .u64 0)
  exact ⟨h.k.far k (by omega), h.s.far k (by omega) (by omega), h.c.but k (by omega) (by omega), h.u.but k (by omega) (by omega), zset h.d, h.l⟩
/-- five noughts -/
structure Z5 (w : World) (B : Nat) : Prop where
  all : w.cell? ⟨B, 0, none⟩ = some (.bool false) ∧ w.cell? ⟨B, 1, none⟩ = some (.int .u64 0) ∧ w.cell? ⟨B, 2, none⟩ = some (.int .u64 0) ∧ w.cell? ⟨B, 3, none⟩ = some (.int .u64 0) ∧ w.cell? ⟨B, 4, none⟩ = some (.int .u64 0)
theorem Z5.but {w w1 : World} {b f B : Nat} (h : Z5 w B) (k : But b f w w1) (hb : B ≠ b) (hf : B ≠ f) : Z5 w1 B := by
  obtain ⟨h0, h1, h2, h3, h4⟩ := h.all
  exact ⟨k.cell hb hf h0, k.cell hb hf h1, k.cell hb hf h2, k.cell hb hf h3, k.cell hb hf h4⟩
theorem Z5.below {w w1 : World} {B : Nat} (h : Z5 w B) (k : Below w.heap.size w w1) : Z5 w1 B := by
  obtain ⟨h0, h1, h2, h3, h4⟩ := h.all
  exact ⟨keep_cell k h0, keep_cell k h1, keep_cell k h2, keep_cell k h3, keep_cell k h4⟩
theorem cmpZ_neg2 (p q : Int) : cmpZ p q < 0 ↔ p < q := by
  unfold cmpZ
  split
  · omega
  · split <;> omega
theorem zbox_new (w : World) (t : TypeId) : IBoxF (w.alloc (.cells #[.bool false, .int .u64 0, .int .u64 0, .int .u64 0, .int .u64 0] t)) w.heap.size false 0 := by
  have e := @iboxF_new w false 0 t
  simp only [lm_zero] at e
  exact e
theorem any_start {w3 wr wx : World} {Bb Bf Bu Bd vl vh : Nat} {nl nh : Bool} {st : Option Int} (hB : But Bb Bf w3 wr) (hS : AnyI wr Bb Bf st) (hb : Below wr.heap.size wr wx) (hl : Bb < w3.heap.size ∧ Bf < w3.heap.size) (hk : K10 wx wr.heap.size nl vl nh vh) (hu : IBoxF wx Bu nl vl) (hd : IBoxF wx Bd nh vh)
    (h1 : wr.heap.size < Bu) (h2 : wr.heap.size < Bd) (h3 : Bu ≠ Bd) : AnyR w3 wx Bb Bf wr.heap.size Bu Bd nl vl nh vh nl vl nh vh st := by
  have := hB.size
  exact ⟨hB.below hb, hS.below hb, hk, hu, hd, by omega⟩
theorem AnyR.far {w3 wr wx : World} {Bb Bf Bc Bu Bd B vl vh uv dv : Nat} {nl nh un dn : Bool} {st : Option Int} (h : AnyR w3 wr Bb Bf Bc Bu Bd nl vl nh vh un uv dn dv st) (k : But B B wr wx) (hB : w3.heap.size ≤ B ∧ Bc ≠ B ∧ Bu ≠ B ∧ Bd ≠ B) : AnyR w3 wx Bb Bf Bc Bu Bd nl vl nh vh un uv dn dv st := by
  obtain ⟨l1, l2, l3, l4, l5, l6, l7, l8⟩ := h.l
  exact ⟨h.k.far k hB.1, h.s.far k (by omega) (by omega), h.c.but k hB.2.1 hB.2.1, h.u.but k hB.2.2.1 hB.2.2.1, h.d.but k hB.2.2.2 hB.2.2.2, h.l⟩
/-- a number, if it is one, as a function hands it back -/
structure OptIs (o : Option Int) (pn : Bool) (pv : Nat) (po : Bool) : Prop where
  is : po = o.isSome
  val : ∀ m, o = some m → pn = sg m ∧ pv = ab m ∧ m.natAbs < 2 ^ 256
theorem eo_is (up : Bool) {z : Int} : OptIs (eo up z) (sg (ex up (sg z) (ab z))) (ab (ex up (sg z) (ab z))) (exOk up (sg z) (ab z)) := by
  unfold eo
  cases c : exOk up (sg z) (ab z) with
  | false => exact ⟨rfl, fun m h => by cases h⟩
  | true => exact ⟨rfl, fun m h => by cases h; exact ⟨rfl, rfl, (ex_is c).1⟩⟩
theorem ro_is (up : Bool) {z : Int} (hz : inR z) : OptIs (some (rgZ up z)) (sg (rg up (sg z) (ab z))) (ab (rg up (sg z) (ab z))) (mayI (sg z) (ab z)) := by
  have e : rg up (sg z) (ab z) = rgZ up z := by rw [rg_z (mayI_sg z), zI_sg]
  have hr := rg_is (inR_ab.1 hz)
  rw [e]
  refine ⟨mayI_sg z, fun m h => ?_⟩
  cases h
  cases up with
  | true => exact ⟨rfl, rfl, hr.1.1⟩
  | false => exact ⟨rfl, rfl, hr.2.1⟩
theorem try_any (x : Cl) (o : Option Int) (nl nh an ok : Bool) (vl vh av : Nat) (Bb Bf : Nat) (st : Option Int) (w : World) (h : AnyI w Bb Bf st) (ho : OptIs o an av ok) (hX : nl = sg x.lo ∧ vl = ab x.lo ∧ nh = sg x.hi ∧ vh = ab x.hi) :
    Calls Tryz.prog 36 #[.agg #[.bool nl, .int .u64 (lm vl 0 : Nat), .int .u64 (lm vl 1 : Nat), .int .u64 (lm vl 2 : Nat), .int .u64 (lm vl 3 : Nat), .bool nh, .int .u64 (lm vh 0 : Nat), .int .u64 (lm vh 1 : Nat), .int .u64 (lm vh 2 : Nat), .int .u64 (lm vh 3 : Nat)], .agg #[.bool (an ), .int .u64 (lm ( av) 0 : Nat), .int .u64 (lm ( av) 1 : Nat), .int .u64 (lm ( av) 2 : Nat), .int .u64 (lm ( av) 3 : Nat)], .bool ok, .pointer (some ⟨Bb, 0, none⟩), .pointer (some ⟨Bf, 0, none⟩)] w fun e w' => e = .returned (.tuple #[]) ∧ AnyI w' Bb Bf ((inC x.iv o).foldl pickS st) ∧ But Bb Bf w w' := by
  obtain ⟨rfl, hv⟩ := ho
  cases o with
  | none => exact (try_no nl nh an vl vh av _ _ w).mono fun _ _ ⟨he, hb⟩ => ⟨he, h.below hb, But.of hb⟩
  | some m =>
    obtain ⟨h1, h2, h3⟩ := hv m rfl
    exact try_yes x m nl nh an vl vh av Bb Bf st w h h3 ⟨h1, h2⟩ hX
theorem tabs_but {w w1 w2 : World} {b f : Nat} (h : Tabs w) (hb : Below w.heap.size w w1) (k : But b f w1 w2) (h1 : w.heap.size ≤ b) (h2 : w.heap.size ≤ f) : Tabs w2 := by
  refine ⟨fun j hj => ?_⟩
  have h0 := h.t j hj
  have hl : 0 < w.heap.size := World.block_lt_of_cell? w _ h0
  exact k.cell (p := ⟨0, j, none⟩) (Nat.ne_of_lt (Nat.lt_of_lt_of_le hl h1)) (Nat.ne_of_lt (Nat.lt_of_lt_of_le hl h2)) (keep_cell hb h0)
theorem but_bw {w w1 wr : World} {b f : Nat} (hb : Below w.heap.size w w1) (k : But b f w1 wr) (h1 : w.heap.size ≤ b) (h2 : w.heap.size ≤ f) : Below w.heap.size w wr :=
  ⟨k.os.trans hb.os, k.tape.trans hb.tape, k.output.trans hb.output, Nat.le_trans hb.size k.size, fun j hj => (k.block j (Nat.lt_of_lt_of_le hj hb.size) (by omega) (by omega)).trans (hb.block j hj)⟩
theorem own_but {w w1 : World} {b f B T n : Nat} {v : Value} {xs : List Value} (h : w.ownsRow B T 10 v n xs) (k : But b f w w1) (hb : b < B) (hf : f < B) : w1.ownsRow B T 10 v n xs := by
  refine ⟨h.1, ?_⟩
  rcases h.2 with hn | ⟨g, cap, cur, rfl, hg, hgg, rest⟩
  · exact .inl hn
  · exact .inr ⟨g, cap, cur, rfl, hg, by rw [k.block g (Array.getElem?_eq_some_iff.1 hgg).1 (by omega) (by omega)]; exact hgg, rest⟩
set_option maxRecDepth 20000 in
set_option maxHeartbeats 8000000 in
theorem Any_walk (xa ra : Bool) (a : Option Addr) (n0 c : Nat) (S : Nat → Sp) (w : World) (h : SRow w a n0 c S) (hn0 : n0 ≤ 400000) (hM0 : mayR S n0 = true) (hT : Tabs w) :
    Calls Tryz.prog 17 #[.slice a n0 c, .bool xa, .bool ra] w fun e w' => ∃ l : List Cl, (∀ z, MemL (l.map Cl.iv) z ↔ InS S n0 z) ∧ e = .returned (.tuple #[.agg #[.bool (bsN (anyS xa ra l) ), .int .u64 (lm ( bsV (anyS xa ra l)) 0 : Nat), .int .u64 (lm ( bsV (anyS xa ra l)) 1 : Nat), .int .u64 (lm ( bsV (anyS xa ra l)) 2 : Nat), .int .u64 (lm ( bsV (anyS xa ra l)) 3 : Nat)], .bool (anyS xa ra l).isSome]) ∧ Below w.heap.size w w' := by
  have H := Lib.hid h
  have HM := Lib.hid hM0
  have HT := Lib.hid hT
  clear h hM0 hT
  have hmf : ∀ (fn : Fn) (first cap : Array Value) (w : World), (Instr.makeFunc fn first cap).run Tryz.prog w = .ok (.func fn first cap) w := fun _ _ _ _ => rfl
  go_enter Tryz.func17, Tryz.ntmps17
  repeat any_goals (first | go_skip | go_guarded | go_step | go_upon | (simp only []; done))
  have HB := Lib.hid (show Below w.heap.size w ((((w.alloc (.cells #[.bool false, .int .u64 0, .int .u64 0, .int .u64 0, .int .u64 0] 29)).alloc (.cells #[.bool false, .int .u64 0, .int .u64 0, .int .u64 0, .int .u64 0] 29)).alloc (.cells #[.bool false] 4)).alloc (.cells #[.bool false, .int .u64 0, .int .u64 0, .int .u64 0, .int .u64 0] 29)) from by (repeat first | with_reducible exact Below.refl _ _ | with_reducible assumption | with_reducible refine Below.drew ?_ | with_reducible refine below_alloc ?_ _ | ((with_reducible refine Below.setCell ?_ ?_ _); rotate_left; (focus (first | with_reducible exact Nat.le_refl _ | (simp; done) | (simp; omega) | omega))) | (with_reducible refine below_trans ?_ (by assumption))))
  have SZ : w.heap.size + 4 = ((((w.alloc (.cells #[.bool false, .int .u64 0, .int .u64 0, .int .u64 0, .int .u64 0] 29)).alloc (.cells #[.bool false, .int .u64 0, .int .u64 0, .int .u64 0, .int .u64 0] 29)).alloc (.cells #[.bool false] 4)).alloc (.cells #[.bool false, .int .u64 0, .int .u64 0, .int .u64 0, .int .u64 0] 29)).heap.size := by simp
  have HF := Lib.hid (((zbox_new w 29).alloc (.cells #[.bool false, .int .u64 0, .int .u64 0, .int .u64 0, .int .u64 0] 29) |>.alloc (.cells #[.bool false] 4)).alloc (.cells #[.bool false, .int .u64 0, .int .u64 0, .int .u64 0, .int .u64 0] 29))
  have HS : AnyI ((((w.alloc (.cells #[.bool false, .int .u64 0, .int .u64 0, .int .u64 0, .int .u64 0] 29)).alloc (.cells #[.bool false, .int .u64 0, .int .u64 0, .int .u64 0, .int .u64 0] 29)).alloc (.cells #[.bool false] 4)).alloc (.cells #[.bool false, .int .u64 0, .int .u64 0, .int .u64 0, .int .u64 0] 29)) (w.heap.size + 1) (w.heap.size + 1 + 1) none := ⟨by
    have e := ((zbox_new (w.alloc (.cells #[.bool false, .int .u64 0, .int .u64 0, .int .u64 0, .int .u64 0] 29)) 29).alloc (.cells #[.bool false] 4)).alloc (.cells #[.bool false, .int .u64 0, .int .u64 0, .int .u64 0, .int .u64 0] 29)
    rw [show (w.alloc (.cells #[.bool false, .int .u64 0, .int .u64 0, .int .u64 0, .int .u64 0] 29)).heap.size = w.heap.size + 1 from by simp] at e
    exact e, by simp [go_sem], by simp [go_sem], by simp, by simp, by decide⟩
  have HZ := Lib.hid (show Z5 ((((w.alloc (.cells #[.bool false, .int .u64 0, .int .u64 0, .int .u64 0, .int .u64 0] 29)).alloc (.cells #[.bool false, .int .u64 0, .int .u64 0, .int .u64 0, .int .u64 0] 29)).alloc (.cells #[.bool false] 4)).alloc (.cells #[.bool false, .int .u64 0, .int .u64 0, .int .u64 0, .int .u64 0] 29)) (w.heap.size + 1 + 1 + 1) from ⟨by simp [go_sem]⟩)
  generalize ((((w.alloc (.cells #[.bool false, .int .u64 0, .int .u64 0, .int .u64 0, .int .u64 0] 29)).alloc (.cells #[.bool false, .int .u64 0, .int .u64 0, .int .u64 0, .int .u64 0] 29)).alloc (.cells #[.bool false] 4)).alloc (.cells #[.bool false, .int .u64 0, .int .u64 0, .int .u64 0, .int .u64 0] 29)) = w0 at *
  obtain ⟨Br, hBr⟩ : ∃ B, B = w.heap.size := ⟨_, rfl⟩
  rw [← hBr] at SZ HF HS HZ ⊢
  obtain ⟨Bz, hBz⟩ : ∃ B, B = Br + 1 + 1 + 1 := ⟨_, rfl⟩
  obtain ⟨Bf, hBf⟩ : ∃ B, B = Br + 1 + 1 := ⟨_, rfl⟩
  obtain ⟨Bb, hBb⟩ : ∃ B, B = Br + 1 := ⟨_, rfl⟩
  rw [← hBz, ← hBf, ← hBb]
  rw [← hBf, ← hBb] at HS
  rw [← hBz] at HZ
  have HBr := Lib.hid hBr
  have HL := Lib.hid (show Bb < w0.heap.size ∧ Bf < w0.heap.size ∧ Bz ≠ Bb ∧ Bz ≠ Bf ∧ Bz < w0.heap.size ∧ Br ≠ Bb ∧ Br ≠ Bf ∧ Br < w0.heap.size ∧ w.heap.size ≤ Bb ∧ w.heap.size ≤ Bf by omega)
  clear hBr hBz hBf hBb SZ
  refine (close_out a n0 c S w0 _ (H.out.below HB.out) (by omega) HM.out (Below.refl _ _)).mono ?_
  rintro e w1 ⟨v1, rfl, h1⟩
  obtain ⟨l, p1, p2, p3, p4, p5, p6⟩ := h1
  obtain ⟨a3, c3, rfl⟩ := own_shape p5
  dsimp only []
  have HO := Lib.hid p5
  obtain ⟨n, hln⟩ : ∃ n, n = l.length := ⟨_, rfl⟩
  have HC := Lib.hid fun (k : Nat) (hk : k < l.length) (wr : World) (hg : But Bb Bf w1 wr) => cl_lit (own_but HO.out hg HL.out.1 HL.out.2.1) hk (Below.refl _ _)
  have HN := Lib.hid hln
  rw [← hln] at HC p4 ⊢
  have hn : n ≤ 400000 := by omega
  have HS1 := Lib.hid (HS.below p6)
  have ZB := Lib.hid (HZ.out.below p6)
  have HF1 := Lib.hid (HF.out.below p6)
  have HP3 := Lib.hid p3
  have hs1 := p6.size
  have HB1 := Lib.hid (show Below w.heap.size w w1 from HB.out.trans (below_weak p6 HB.out.size))
  have HT1 := Lib.hid (HT.out.below (w2 := w1) HB1.out)
  have HLw := Lib.hid (show Bb < w1.heap.size ∧ Bf < w1.heap.size by have := HL.out; omega)
  clear p1 p2 p3 p4 p5 p6 hln H HS HZ HF
  repeat any_goals (first | go_skip | go_guarded | go_step | go_upon | (simp only []; done))
  go_loopw [24] (fun i wr => ∃ (k : Nat) (st : Option Int), k ≤ n ∧ i = .int .i64 k ∧ But Bb Bf w1 wr ∧ AnyI wr Bb Bf st ∧ st = ((l.take k).flatMap (candX xa ra)).foldl pickS none) (fun i _ => n - (intOf i).toNat)
  case atStart => exact ⟨0, none, Nat.zero_le _, rfl, But.of (Below.refl _ _), HS1.out, rfl⟩
  case round =>
    obtain ⟨k, st, hk, rfl, hB, hS, hst⟩ := hrel
    have BH := Lib.hid hB
    have SH := Lib.hid hS
    have TH := Lib.hid hst
    by_cases hkn : k < n
    · obtain ⟨g', cap', x, hv, hb, hx, hc1, hc2, hc⟩ := HC.out k hkn wr hB
      injection hv with hv1 _ hv3
      subst hv1 hv3
      clear hB hS hst
      have HX := Lib.hid hx
      obtain ⟨nl, hnl⟩ : ∃ n, n = sg x.lo := ⟨_, rfl⟩
      obtain ⟨vl, hvl⟩ : ∃ n, n = ab x.lo := ⟨_, rfl⟩
      obtain ⟨nh, hnh⟩ : ∃ n, n = sg x.hi := ⟨_, rfl⟩
      obtain ⟨vh, hvh⟩ : ∃ n, n = ab x.hi := ⟨_, rfl⟩
      rw [← hnl, ← hvl, ← hnh, ← hvh] at hc
      have HE := Lib.hid (And.intro hnl (And.intro hvl (And.intro hnh hvh)))
      obtain ⟨z1, hz1⟩ : ∃ z, cmpI nl vl false 0 = z := ⟨_, rfl⟩
      obtain ⟨z2, hz2⟩ : ∃ z, cmpI nh vh false 0 = z := ⟨_, rfl⟩
      have C1 := Lib.hid fun wx => Cmp_any nl vl (by rw [hvl]; exact x.hl) false 0 (by decide) wx
      have C2 := Lib.hid fun wx => Cmp_any nh vh (by rw [hvh]; exact x.hh) false 0 (by decide) wx
      rw [hz1] at C1
      rw [hz2] at C2
      simp only [lm_zero] at C1 C2
      have C1 : Hid (∀ wx : World, Calls Tryz.prog 27 #[.agg #[.bool (nl ), .int .u64 (lm ( vl) 0 : Nat), .int .u64 (lm ( vl) 1 : Nat), .int .u64 (lm ( vl) 2 : Nat), .int .u64 (lm ( vl) 3 : Nat)], (.agg #[.bool false, .int .u64 0, .int .u64 0, .int .u64 0, .int .u64 0])] wx fun e w' => e = .returned (.int .i64 z1) ∧ Below wx.heap.size wx w') := C1
      have C2 : Hid (∀ wx : World, Calls Tryz.prog 27 #[.agg #[.bool (nh ), .int .u64 (lm ( vh) 0 : Nat), .int .u64 (lm ( vh) 1 : Nat), .int .u64 (lm ( vh) 2 : Nat), .int .u64 (lm ( vh) 3 : Nat)], (.agg #[.bool false, .int .u64 0, .int .u64 0, .int .u64 0, .int .u64 0])] wx fun e w' => e = .returned (.int .i64 z2) ∧ Below wx.heap.size wx w') := C2
      have J1 := Lib.hid (show z1 < 0 ↔ x.lo < 0 by rw [← hz1, hnl, hvl, show cmpI (sg x.lo) (ab x.lo) false 0 = cmpI (sg x.lo) (ab x.lo) (sg 0) (ab 0) from rfl, cmpI_sg]; exact cmpZ_neg2 _ _)
      have J2 := Lib.hid (show 0 < z2 ↔ 0 < x.hi by rw [← hz2, hnh, hvh, show cmpI (sg x.hi) (ab x.hi) false 0 = cmpI (sg x.hi) (ab x.hi) (sg 0) (ab 0) from rfl, cmpI_sg]; exact cmpZ_pos _ _)
      obtain ⟨c0, c1, c2, c3, c4, c5, c6, c7, c8, c9⟩ := hc.all
      have i1 : (k : Int) < (n : Int) := by omega
      have i2 : (0 : Int) ≤ (k : Int) := by omega
      have i5 : (k : Int).toNat = k := rfl
      clear hc hnl hvl hnh hvh hx hz1 hz2
      have hs8 := BH.out.size
      go_upto_region 8 with fail
      go_cut [14, 15, 24] (fun s14 s15 s24 wx => ∃ Bu Bd, s14 = .pointer (some ⟨Bu, 0, none⟩) ∧ s15 = .pointer (some ⟨Bd, 0, none⟩) ∧ s24 = .int .i64 k ∧ AnyR w1 wx Bb Bf wr.heap.size Bu Bd nl vl nh vh nl vl nh vh st)
      case first =>
        go_region
        all_goals (repeat any_goals (first | go_skip | go_guarded | go_step | go_upon | (simp only []; done)))
        · go_meet
          case rel => exact ⟨wr.heap.size + 1, wr.heap.size + 1 + 1, rfl, rfl, rfl, any_start BH.out SH.out (by (repeat first | with_reducible exact Below.refl _ _ | with_reducible assumption | with_reducible refine Below.drew ?_ | with_reducible refine below_alloc ?_ _ | ((with_reducible refine Below.setCell ?_ ?_ _); rotate_left; (focus (first | with_reducible exact Nat.le_refl _ | (simp; done) | (simp; omega) | omega))) | (with_reducible refine below_trans ?_ (by assumption)))) HLw.out ⟨by simp [go_sem]⟩ (show IBoxF _ _ _ _ from ⟨⟨by simp [go_sem], by simp [go_sem], by simp [go_sem], by simp [go_sem], by simp [go_sem], by simp⟩, by simp [go_sem], by simp [go_sem], by simp [go_sem], by simp [go_sem], by simp [go_sem]⟩) (show IBoxF _ _ _ _ from ⟨⟨by simp [go_sem], by simp [go_sem], by simp [go_sem], by simp [go_sem], by simp [go_sem], by simp⟩, by simp [go_sem], by simp [go_sem], by simp [go_sem], by simp [go_sem], by simp [go_sem]⟩) (by omega) (by omega) (by omega)⟩
        · go_meet
          case rel => exact ⟨wr.heap.size + 1 + 1, wr.heap.size + 1, rfl, rfl, rfl, any_start BH.out SH.out (by (repeat first | with_reducible exact Below.refl _ _ | with_reducible assumption | with_reducible refine Below.drew ?_ | with_reducible refine below_alloc ?_ _ | ((with_reducible refine Below.setCell ?_ ?_ _); rotate_left; (focus (first | with_reducible exact Nat.le_refl _ | (simp; done) | (simp; omega) | omega))) | (with_reducible refine below_trans ?_ (by assumption)))) HLw.out ⟨by simp [go_sem]⟩ (show IBoxF _ _ _ _ from ⟨⟨by simp [go_sem], by simp [go_sem], by simp [go_sem], by simp [go_sem], by simp [go_sem], by simp⟩, by simp [go_sem], by simp [go_sem], by simp [go_sem], by simp [go_sem], by simp [go_sem]⟩) (show IBoxF _ _ _ _ from ⟨⟨by simp [go_sem], by simp [go_sem], by simp [go_sem], by simp [go_sem], by simp [go_sem], by simp⟩, by simp [go_sem], by simp [go_sem], by simp [go_sem], by simp [go_sem], by simp [go_sem]⟩) (by omega) (by omega) (by omega)⟩
      case rest =>
        obtain ⟨Bu, Bd, rfl, rfl, rfl, R⟩ := hcut
        have R0 := Lib.hid R
        clear R
        obtain ⟨_, _, _, _, _, _, _, _, _, _⟩ := R0.out.c.all; obtain ⟨_, _, _, _, _⟩ := R0.out.u.all; obtain ⟨_, _, _, _, _⟩ := R0.out.d.all; obtain ⟨_, _, _, _, _⟩ := (Z5.but ZB.out R0.out.k HL.out.2.2.1 HL.out.2.2.2.1).all; have hs_R0 := R0.out.sz
        obtain ⟨un, hun⟩ : ∃ n, n = sg (upX x) := ⟨_, rfl⟩
        obtain ⟨uv, huv⟩ : ∃ n, n = ab (upX x) := ⟨_, rfl⟩
        obtain ⟨dn, hdn⟩ : ∃ n, n = sg (dnX x) := ⟨_, rfl⟩
        obtain ⟨dv, hdv⟩ : ∃ n, n = ab (dnX x) := ⟨_, rfl⟩
        have HU := Lib.hid (And.intro hun (And.intro huv (And.intro hdn hdv)))
        clear hun huv hdn hdv
        obtain ⟨p1n, hp1n⟩ : ∃ n, n = sg (ex true (sg (upX x)) (ab (upX x))) := ⟨_, rfl⟩
        obtain ⟨p1v, hp1v⟩ : ∃ n, n = ab (ex true (sg (upX x)) (ab (upX x))) := ⟨_, rfl⟩
        obtain ⟨p1o, hp1o⟩ : ∃ n, n = exOk true (sg (upX x)) (ab (upX x)) := ⟨_, rfl⟩
        have P1 := Lib.hid (eo_is true (z := upX x))
        have E1 := Lib.hid fun (wx : World) => ExactUp_any (sg (upX x)) (ab (upX x)) (inR_ab.1 (upX_in x)) wx
        rw [← hp1n, ← hp1v, ← hp1o] at P1 E1
        rw [← HU.out.1, ← HU.out.2.1] at E1
        obtain ⟨p2n, hp2n⟩ : ∃ n, n = sg (ex false (sg (dnX x)) (ab (dnX x))) := ⟨_, rfl⟩
        obtain ⟨p2v, hp2v⟩ : ∃ n, n = ab (ex false (sg (dnX x)) (ab (dnX x))) := ⟨_, rfl⟩
        obtain ⟨p2o, hp2o⟩ : ∃ n, n = exOk false (sg (dnX x)) (ab (dnX x)) := ⟨_, rfl⟩
        have P2 := Lib.hid (eo_is false (z := dnX x))
        have E2 := Lib.hid fun (wx : World) => ExactDown_any (sg (dnX x)) (ab (dnX x)) (inR_ab.1 (dnX_in x)) wx
        rw [← hp2n, ← hp2v, ← hp2o] at P2 E2
        rw [← HU.out.2.2.1, ← HU.out.2.2.2] at E2
        obtain ⟨p3n, hp3n⟩ : ∃ n, n = sg (rg true (sg (upX x)) (ab (upX x))) := ⟨_, rfl⟩
        obtain ⟨p3v, hp3v⟩ : ∃ n, n = ab (rg true (sg (upX x)) (ab (upX x))) := ⟨_, rfl⟩
        obtain ⟨p3o, hp3o⟩ : ∃ n, n = mayI (sg (upX x)) (ab (upX x)) := ⟨_, rfl⟩
        have P3 := Lib.hid (ro_is true (upX_in x))
        have E3 := Lib.hid fun (wx : World) (ht : Tabs wx) => RoughUp_any (sg (upX x)) (ab (upX x)) (inR_ab.1 (upX_in x)) wx ht
        rw [← hp3n, ← hp3v, ← hp3o] at P3 E3
        rw [← HU.out.1, ← HU.out.2.1] at E3
        obtain ⟨p4n, hp4n⟩ : ∃ n, n = sg (rg false (sg (dnX x)) (ab (dnX x))) := ⟨_, rfl⟩
        obtain ⟨p4v, hp4v⟩ : ∃ n, n = ab (rg false (sg (dnX x)) (ab (dnX x))) := ⟨_, rfl⟩
        obtain ⟨p4o, hp4o⟩ : ∃ n, n = mayI (sg (dnX x)) (ab (dnX x)) := ⟨_, rfl⟩
        have P4 := Lib.hid (ro_is false (dnX_in x))
        have E4 := Lib.hid fun (wx : World) (ht : Tabs wx) => RoughDown_any (sg (dnX x)) (ab (dnX x)) (inR_ab.1 (dnX_in x)) wx ht
        rw [← hp4n, ← hp4v, ← hp4o] at P4 E4
        rw [← HU.out.2.2.1, ← HU.out.2.2.2] at E4
        clear hp1n hp1v hp1o hp2n hp2v hp2o hp3n hp3v hp3o hp4n hp4v hp4o
        go_upto_if 35 with (go_at_call 27; with_reducible refine (C1.out _).mono ?_; rintro e w4 ⟨rfl, hb4⟩)
        have R4 := Lib.hid (R0.out.below hb4)
        clear R0 hb4
        obtain ⟨_, _, _, _, _, _, _, _, _, _⟩ := R4.out.c.all; obtain ⟨_, _, _, _, _⟩ := R4.out.u.all; obtain ⟨_, _, _, _, _⟩ := R4.out.d.all; obtain ⟨_, _, _, _, _⟩ := (Z5.but ZB.out R4.out.k HL.out.2.2.1 HL.out.2.2.2.1).all; have hs_R4 := R4.out.sz
        go_cut [24] (fun s24 wx => s24 = .int .i64 k ∧ AnyR w1 wx Bb Bf wr.heap.size Bu Bd nl vl nh vh un uv nh vh st)
        case first =>
          by_cases cz : z1 < 0
          · repeat any_goals (first | go_skip | go_guarded | go_step | go_upon | (simp only []; done))
            go_meet
            case rel => exact ⟨rfl, by
              have e : upX x = 0 := if_pos (J1.out.1 cz)
              rw [HU.out.1, HU.out.2.1, e]
              exact R4.out.setU⟩
          · repeat any_goals (first | go_skip | go_guarded | go_step | go_upon | (simp only []; done))
            go_meet
            case rel => exact ⟨rfl, by
              have e : upX x = x.lo := if_neg (fun h => cz (J1.out.2 h))
              rw [HU.out.1, HU.out.2.1, e, ← HE.out.1, ← HE.out.2.1]
              exact R4.out⟩
        case rest =>
          obtain ⟨rfl, R⟩ := hcut
          have R5 := Lib.hid R
          clear R R4
          obtain ⟨_, _, _, _, _, _, _, _, _, _⟩ := R5.out.c.all; obtain ⟨_, _, _, _, _⟩ := R5.out.u.all; obtain ⟨_, _, _, _, _⟩ := R5.out.d.all; obtain ⟨_, _, _, _, _⟩ := (Z5.but ZB.out R5.out.k HL.out.2.2.1 HL.out.2.2.2.1).all; have hs_R5 := R5.out.sz
          go_upto_if 40 with (go_at_call 27; with_reducible refine (C2.out _).mono ?_; rintro e w6 ⟨rfl, hb6⟩)
          have R6 := Lib.hid (R5.out.below hb6)
          clear R5 hb6
          obtain ⟨_, _, _, _, _, _, _, _, _, _⟩ := R6.out.c.all; obtain ⟨_, _, _, _, _⟩ := R6.out.u.all; obtain ⟨_, _, _, _, _⟩ := R6.out.d.all; obtain ⟨_, _, _, _, _⟩ := (Z5.but ZB.out R6.out.k HL.out.2.2.1 HL.out.2.2.2.1).all; have hs_R6 := R6.out.sz
          go_cut [24] (fun s24 wx => s24 = .int .i64 k ∧ AnyR w1 wx Bb Bf wr.heap.size Bu Bd nl vl nh vh un uv dn dv st)
          case first =>
            by_cases cz : 0 < z2
            · repeat any_goals (first | go_skip | go_guarded | go_step | go_upon | (simp only []; done))
              go_meet
              case rel => exact ⟨rfl, by
                have e : dnX x = 0 := if_pos (J2.out.1 cz)
                rw [HU.out.2.2.1, HU.out.2.2.2, e]
                exact R6.out.setD⟩
            · repeat any_goals (first | go_skip | go_guarded | go_step | go_upon | (simp only []; done))
              go_meet
              case rel => exact ⟨rfl, by
                have e : dnX x = x.hi := if_neg (fun h => cz (J2.out.2 h))
                rw [HU.out.2.2.1, HU.out.2.2.2, e, ← HE.out.2.2.1, ← HE.out.2.2.2]
                exact R6.out⟩
          case rest =>
            obtain ⟨rfl, R⟩ := hcut
            have R7 := Lib.hid R
            clear R R6
            obtain ⟨_, _, _, _, _, _, _, _, _, _⟩ := R7.out.c.all; obtain ⟨_, _, _, _, _⟩ := R7.out.u.all; obtain ⟨_, _, _, _, _⟩ := R7.out.d.all; obtain ⟨_, _, _, _, _⟩ := (Z5.but ZB.out R7.out.k HL.out.2.2.1 HL.out.2.2.2.1).all; have hs_R7 := R7.out.sz
            go_upto_if 42 with fail
            obtain ⟨st1, hst1⟩ : ∃ s, s = (if xa = true then inC x.iv (eo true (upX x)) ++ inC x.iv (eo false (dnX x)) else []).foldl pickS st := ⟨_, rfl⟩
            have S1 := Lib.hid hst1
            clear hst1
            go_cut [16, 17, 24] (fun _ _ s24 wx => s24 = .int .i64 k ∧ AnyR w1 wx Bb Bf wr.heap.size Bu Bd nl vl nh vh un uv dn dv st1)
            case first =>
              cases xa with
              | false =>
                repeat any_goals (first | go_skip | go_guarded | go_step | go_upon | (simp only []; done))
                go_meet
                case rel => exact ⟨rfl, by rw [S1.out]; exact R7.out⟩
              | true =>
                repeat any_goals (first | (go_at_call 38; with_reducible refine (E1.out _).mono ?_; rintro e x8 ⟨rfl, hx8⟩; have xR8 := Lib.hid (R7.out.below hx8); obtain ⟨_, _, _, _, _, _, _, _, _, _⟩ := xR8.out.c.all; obtain ⟨_, _, _, _, _⟩ := xR8.out.u.all; obtain ⟨_, _, _, _, _⟩ := xR8.out.d.all; obtain ⟨_, _, _, _, _⟩ := (Z5.but ZB.out xR8.out.k HL.out.2.2.1 HL.out.2.2.2.1).all; have hs_xR8 := xR8.out.sz; have xX8 := Lib.hid (iboxF_new (w := x8) (n := p1n) (V := p1v) (t := 29)); have xB8 := xR8.out.l) | (go_at_call 36; with_reducible refine (try_any x (eo true (upX x)) _ _ _ _ _ _ _ Bb Bf _ _ ((xR8.out.below (below_alloc (Below.refl _ _) _)).s) P1.out HE.out).mono ?_; rintro e x9 ⟨rfl, xhs9, xhk9⟩; have xR9 := Lib.hid ((xR8.out.below (below_alloc (Below.refl _ _) _)).tried xhs9 xhk9); have xX9 := Lib.hid (xX8.out.but xhk9 (by omega) (by omega)); obtain ⟨_, _, _, _, _, _, _, _, _, _⟩ := xR9.out.c.all; obtain ⟨_, _, _, _, _⟩ := xR9.out.u.all; obtain ⟨_, _, _, _, _⟩ := xR9.out.d.all; obtain ⟨_, _, _, _, _⟩ := (Z5.but ZB.out xR9.out.k HL.out.2.2.1 HL.out.2.2.2.1).all; have hs_xR9 := xR9.out.sz; obtain ⟨_, _, _, _, _⟩ := xX9.out.all) | (go_at_call 39; with_reducible refine (E2.out _).mono ?_; rintro e xA ⟨rfl, hxA⟩; have xRA := Lib.hid (xR9.out.below hxA); have xXA := Lib.hid (xX9.out.below hxA); obtain ⟨_, _, _, _, _, _, _, _, _, _⟩ := xRA.out.c.all; obtain ⟨_, _, _, _, _⟩ := xRA.out.u.all; obtain ⟨_, _, _, _, _⟩ := xRA.out.d.all; obtain ⟨_, _, _, _, _⟩ := (Z5.but ZB.out xRA.out.k HL.out.2.2.1 HL.out.2.2.2.1).all; have hs_xRA := xRA.out.sz; obtain ⟨_, _, _, _, _⟩ := xXA.out.all) | (go_at_call 36; have xRB := Lib.hid (xRA.out.far (but5 _ x8.heap.size (.bool p2n) (.int .u64 (lm p2v 0 : Nat)) (.int .u64 (lm p2v 1 : Nat)) (.int .u64 (lm p2v 2 : Nat)) (.int .u64 (lm p2v 3 : Nat))) (by omega)); with_reducible refine (try_any x (eo false (dnX x)) _ _ _ _ _ _ _ Bb Bf _ _ xRB.out.s P2.out HE.out).mono ?_; rintro e xC ⟨rfl, xhsC, xhkC⟩; have xRC := Lib.hid (xRB.out.tried xhsC xhkC); obtain ⟨_, _, _, _, _, _, _, _, _, _⟩ := xRC.out.c.all; obtain ⟨_, _, _, _, _⟩ := xRC.out.u.all; obtain ⟨_, _, _, _, _⟩ := xRC.out.d.all; obtain ⟨_, _, _, _, _⟩ := (Z5.but ZB.out xRC.out.k HL.out.2.2.1 HL.out.2.2.2.1).all; have hs_xRC := xRC.out.sz) | go_skip | go_guarded | go_step | go_upon | (dsimp only []))
                go_meet
                case rel => exact ⟨rfl, by
                  rw [S1.out, if_pos rfl, List.foldl_append]
                  exact xRC.out⟩
            case rest =>
              obtain ⟨rfl, R⟩ := hcut
              have RD := Lib.hid R
              clear R R7
              obtain ⟨_, _, _, _, _, _, _, _, _, _⟩ := RD.out.c.all; obtain ⟨_, _, _, _, _⟩ := RD.out.u.all; obtain ⟨_, _, _, _, _⟩ := RD.out.d.all; obtain ⟨_, _, _, _, _⟩ := (Z5.but ZB.out RD.out.k HL.out.2.2.1 HL.out.2.2.2.1).all; have hs_RD := RD.out.sz
              have SE := Lib.hid (show ((l.take (k + 1)).flatMap (candX xa ra)).foldl pickS none = (if ra = true then inC x.iv (some (rgZ true (upX x))) ++ inC x.iv (some (rgZ false (dnX x))) else []).foldl pickS st1 from by
                rw [List.take_add_one, HX.out, List.flatMap_append, List.foldl_append, ← TH.out, S1.out]
                simp [candX, List.foldl_append])
              go_upto_if 63 with fail
              cases ra with
              | false =>
                repeat any_goals (first | go_skip | go_guarded | go_step | go_upon | (simp only []; done))
                go_roundw
                case rel => exact ⟨k + 1, _, by omega, rfl, RD.out.k, RD.out.s, by rw [SE.out]; rfl⟩
                case measure => simp [intOf]; omega
              | true =>
                repeat any_goals (first | (go_at_call 40; with_reducible refine (E3.out _ (tabs_but HT.out HB1.out RD.out.k HL.out.2.2.2.2.2.2.2.2.1 HL.out.2.2.2.2.2.2.2.2.2)).mono ?_; rintro e y8 ⟨rfl, hy8⟩; have yR8 := Lib.hid (RD.out.below hy8); obtain ⟨_, _, _, _, _, _, _, _, _, _⟩ := yR8.out.c.all; obtain ⟨_, _, _, _, _⟩ := yR8.out.u.all; obtain ⟨_, _, _, _, _⟩ := yR8.out.d.all; obtain ⟨_, _, _, _, _⟩ := (Z5.but ZB.out yR8.out.k HL.out.2.2.1 HL.out.2.2.2.1).all; have hs_yR8 := yR8.out.sz; have yX8 := Lib.hid (iboxF_new (w := y8) (n := p3n) (V := p3v) (t := 29)); have yB8 := yR8.out.l) | (go_at_call 36; with_reducible refine (try_any x (some (rgZ true (upX x))) _ _ _ _ _ _ _ Bb Bf _ _ ((yR8.out.below (below_alloc (Below.refl _ _) _)).s) P3.out HE.out).mono ?_; rintro e y9 ⟨rfl, yhs9, yhk9⟩; have yR9 := Lib.hid ((yR8.out.below (below_alloc (Below.refl _ _) _)).tried yhs9 yhk9); have yX9 := Lib.hid (yX8.out.but yhk9 (by omega) (by omega)); obtain ⟨_, _, _, _, _, _, _, _, _, _⟩ := yR9.out.c.all; obtain ⟨_, _, _, _, _⟩ := yR9.out.u.all; obtain ⟨_, _, _, _, _⟩ := yR9.out.d.all; obtain ⟨_, _, _, _, _⟩ := (Z5.but ZB.out yR9.out.k HL.out.2.2.1 HL.out.2.2.2.1).all; have hs_yR9 := yR9.out.sz; obtain ⟨_, _, _, _, _⟩ := yX9.out.all) | (go_at_call 41; with_reducible refine (E4.out _ (tabs_but HT.out HB1.out yR9.out.k HL.out.2.2.2.2.2.2.2.2.1 HL.out.2.2.2.2.2.2.2.2.2)).mono ?_; rintro e yA ⟨rfl, hyA⟩; have yRA := Lib.hid (yR9.out.below hyA); have yXA := Lib.hid (yX9.out.below hyA); obtain ⟨_, _, _, _, _, _, _, _, _, _⟩ := yRA.out.c.all; obtain ⟨_, _, _, _, _⟩ := yRA.out.u.all; obtain ⟨_, _, _, _, _⟩ := yRA.out.d.all; obtain ⟨_, _, _, _, _⟩ := (Z5.but ZB.out yRA.out.k HL.out.2.2.1 HL.out.2.2.2.1).all; have hs_yRA := yRA.out.sz; obtain ⟨_, _, _, _, _⟩ := yXA.out.all) | (go_at_call 36; have yRB := Lib.hid (yRA.out.far (but5 _ y8.heap.size (.bool p4n) (.int .u64 (lm p4v 0 : Nat)) (.int .u64 (lm p4v 1 : Nat)) (.int .u64 (lm p4v 2 : Nat)) (.int .u64 (lm p4v 3 : Nat))) (by omega)); with_reducible refine (try_any x (some (rgZ false (dnX x))) _ _ _ _ _ _ _ Bb Bf _ _ yRB.out.s P4.out HE.out).mono ?_; rintro e yC ⟨rfl, yhsC, yhkC⟩; have yRC := Lib.hid (yRB.out.tried yhsC yhkC); obtain ⟨_, _, _, _, _, _, _, _, _, _⟩ := yRC.out.c.all; obtain ⟨_, _, _, _, _⟩ := yRC.out.u.all; obtain ⟨_, _, _, _, _⟩ := yRC.out.d.all; obtain ⟨_, _, _, _, _⟩ := (Z5.but ZB.out yRC.out.k HL.out.2.2.1 HL.out.2.2.2.1).all; have hs_yRC := yRC.out.sz) | go_skip | go_guarded | go_step | go_upon | (dsimp only []))
                go_roundw
                case rel => exact ⟨k + 1, _, by omega, rfl, yRC.out.k, yRC.out.s, by rw [SE.out, if_pos rfl, List.foldl_append]⟩
                case measure => simp [intOf]; omega
    · have hk' : k = n := by omega
      have i1 : ¬ (k : Int) < (n : Int) := by omega
      have ht : l.take k = l := by rw [hk', HN.out, List.take_length]
      rw [ht] at hst
      have hst' : st = anyS xa ra l := hst
      have SF := Lib.hid hst'
      have XF := Lib.hid (HF1.out.but hB HL.out.2.2.2.2.2.1 HL.out.2.2.2.2.2.2.1)
      have hW := but_bw HB1.out hB HL.out.2.2.2.2.2.2.2.2.1 HL.out.2.2.2.2.2.2.2.2.2
      obtain ⟨sn, hsn⟩ : ∃ n, n = bsN st := ⟨_, rfl⟩
      obtain ⟨sv, hsv⟩ : ∃ n, n = bsV st := ⟨_, rfl⟩
      obtain ⟨so, hso⟩ : ∃ n, n = st.isSome := ⟨_, rfl⟩
      have hSb := hS.b
      have hSf := hS.f
      rw [← hsn, ← hsv] at hSb
      rw [← hso] at hSf
      have XE := Lib.hid (And.intro hsn (And.intro hsv hso))
      obtain ⟨_, _, _, _, _⟩ := hSb.all
      obtain ⟨_, _, _, _, _⟩ := XF.out.all
      have hSl := hS.lf
      have n1 := HL.out.2.2.2.2.2.1
      have n2 := HL.out.2.2.2.2.2.2.1
      have n3 := HL.out.2.2.2.2.2.1.symm
      have n4 := HL.out.2.2.2.2.2.2.1.symm
      clear hst hst' ht hB hS hsn hsv hso hSb
      repeat any_goals (first | go_skip | go_guarded | go_step | go_upon | (simp only []; done))
      go_region
      all_goals (repeat any_goals (first | go_skip | go_guarded | go_step | go_upon | (simp only []; done)))
      all_goals (exact bodyPost_ret (v := .tuple #[.agg #[.bool (sn ), .int .u64 (lm ( sv) 0 : Nat), .int .u64 (lm ( sv) 1 : Nat), .int .u64 (lm ( sv) 2 : Nat), .int .u64 (lm ( sv) 3 : Nat)], .bool so]) (by simp [results, Tryz.results17, go_sem, *]) rfl ⟨l, HP3.out, by rw [XE.out.1, XE.out.2.1, XE.out.2.2, SF.out], by have hbr := HBr.out; (repeat first | with_reducible exact Below.refl _ _ | with_reducible assumption | with_reducible refine Below.drew ?_ | with_reducible refine below_alloc ?_ _ | ((with_reducible refine Below.setCell ?_ ?_ _); rotate_left; (focus (first | with_reducible exact Nat.le_refl _ | (simp; done) | (simp; omega) | omega))) | (with_reducible refine below_trans ?_ (by assumption)))⟩)
end Go.Proofs.YtekeedjhaakbhaaGreatDoor
