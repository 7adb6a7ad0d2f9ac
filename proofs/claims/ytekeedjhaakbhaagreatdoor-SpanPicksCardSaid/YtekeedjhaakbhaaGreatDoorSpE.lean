/- SPANS as they lie in cells: a span, a row of spans; May of the program. · span.ends of the program: the least and the greatest number. -/
import Derived.Test.YtekeedjhaakbhaaGreatDoorWhN9
import Derived.LoopN
namespace Go.Proofs.YtekeedjhaakbhaaGreatDoor
open Go.RowKit
def anyN (p : Nat → Bool) : Nat → Bool
  | 0 => false
  | n + 1 => anyN p n || p n
theorem anyN_of {p : Nat → Bool} {k n : Nat} (h : p k = true) (hk : k < n) : anyN p n = true := by
  induction n with
  | zero => omega
  | succ n ih =>
    simp only [anyN]
    by_cases c : k < n
    · rw [ih c]; rfl
    · have : k = n := by omega
      subst this
      rw [h, Bool.or_true]
theorem anyN_no {p : Nat → Bool} {n k : Nat} (h : anyN p n = false) (hk : k < n) : p k = false := by
  cases c : p k with
  | false => rfl
  | true => rw [anyN_of c hk] at h; cases h
/-- a span: has it a least, a greatest number; both, raw -/
structure Sp where
  hl : Bool
  hh : Bool
  nl : Bool
  vl : Nat
  nh : Bool
  vh : Nat
def Sp.cells (s : Sp) : List Value := [.bool s.hl, .bool s.hh, .bool s.nl, .int .u64 (lm s.vl 0 : Nat), .int .u64 (lm s.vl 1 : Nat), .int .u64 (lm s.vl 2 : Nat), .int .u64 (lm s.vl 3 : Nat), .bool s.nh, .int .u64 (lm s.vh 0 : Nat), .int .u64 (lm s.vh 1 : Nat), .int .u64 (lm s.vh 2 : Nat), .int .u64 (lm s.vh 3 : Nat)]
/-- a row of spans in the world -/
structure SRow (w : World) (a : Option Addr) (n c : Nat) (S : Nat → Sp) : Prop where
  l : n ≤ c
  lc : c ≤ maxLen
  c : n = 0 ∨ ∃ b off, a = some ⟨b, off, none⟩ ∧ b < w.heap.size ∧ ∀ i, i < n → ∀ j, j < 12 → w.cell? ⟨b, off + i * 12 + j, none⟩ = (S i).cells[j]?
  o : ∀ i, i < n → (S i).vl < 2 ^ 256 ∧ (S i).vh < 2 ^ 256
theorem SRow.below {w w' : World} {a : Option Addr} {n c : Nat} {S : Nat → Sp} (h : SRow w a n c S) (hb : Below w.heap.size w w') : SRow w' a n c S :=
  ⟨h.l, h.lc, by
    rcases h.c with h1 | ⟨b, off, e, hl, hc⟩
    · exact .inl h1
    · exact .inr ⟨b, off, e, Nat.lt_of_lt_of_le hl hb.size, fun i hi j hj => by rw [hb.cell (p := ⟨b, off + i * 12 + j, none⟩) hl]; exact hc i hi j hj⟩, h.o⟩
theorem keep_cell {w1 w2 : World} {p : Addr} {v : Value} (hb : Below w1.heap.size w1 w2) (h : w1.cell? p = some v) : w2.cell? p = some v := by
  rw [hb.cell (p := p) (World.block_lt_of_cell? w1 _ h)]
  exact h
/-- twelve cells of a block, from an offset on -/
structure R12 (w' : World) (B o : Nat) (a0 a1 a2 a3 a4 a5 a6 a7 a8 a9 b0 b1 : Value) : Prop where
  all : w'.cell? ⟨B, o, none⟩ = some a0 ∧ w'.cell? ⟨B, o + 1, none⟩ = some a1 ∧ w'.cell? ⟨B, o + 2, none⟩ = some a2 ∧ w'.cell? ⟨B, o + 3, none⟩ = some a3 ∧ w'.cell? ⟨B, o + 4, none⟩ = some a4 ∧ w'.cell? ⟨B, o + 5, none⟩ = some a5 ∧ w'.cell? ⟨B, o + 6, none⟩ = some a6 ∧ w'.cell? ⟨B, o + 7, none⟩ = some a7 ∧ w'.cell? ⟨B, o + 8, none⟩ = some a8 ∧ w'.cell? ⟨B, o + 9, none⟩ = some a9 ∧ w'.cell? ⟨B, o + 10, none⟩ = some b0 ∧ w'.cell? ⟨B, o + 11, none⟩ = some b1
theorem R12.below {w1 w2 : World} {B o : Nat} {a0 a1 a2 a3 a4 a5 a6 a7 a8 a9 b0 b1 : Value} (h : R12 w1 B o a0 a1 a2 a3 a4 a5 a6 a7 a8 a9 b0 b1) (hb : Below w1.heap.size w1 w2) : R12 w2 B o a0 a1 a2 a3 a4 a5 a6 a7 a8 a9 b0 b1 := by
  obtain ⟨h0, h1, h2, h3, h4, h5, h6, h7, h8, h9, g0, g1⟩ := h.all
  exact ⟨keep_cell hb h0, keep_cell hb h1, keep_cell hb h2, keep_cell hb h3, keep_cell hb h4, keep_cell hb h5, keep_cell hb h6, keep_cell hb h7, keep_cell hb h8, keep_cell hb h9, keep_cell hb g0, keep_cell hb g1⟩
/-- a span in a block of its own -/
structure S12 (w' : World) (B : Nat) (hl hh nl : Bool) (vl : Nat) (nh : Bool) (vh : Nat) : Prop where
  all : w'.cell? ⟨B, 0, none⟩ = some (.bool hl) ∧ w'.cell? ⟨B, 1, none⟩ = some (.bool hh) ∧ w'.cell? ⟨B, 2, none⟩ = some (.bool nl) ∧ w'.cell? ⟨B, 3, none⟩ = some (.int .u64 (lm vl 0 : Nat)) ∧ w'.cell? ⟨B, 4, none⟩ = some (.int .u64 (lm vl 1 : Nat)) ∧ w'.cell? ⟨B, 5, none⟩ = some (.int .u64 (lm vl 2 : Nat)) ∧ w'.cell? ⟨B, 6, none⟩ = some (.int .u64 (lm vl 3 : Nat)) ∧ w'.cell? ⟨B, 7, none⟩ = some (.bool nh) ∧ w'.cell? ⟨B, 8, none⟩ = some (.int .u64 (lm vh 0 : Nat)) ∧ w'.cell? ⟨B, 9, none⟩ = some (.int .u64 (lm vh 1 : Nat)) ∧ w'.cell? ⟨B, 10, none⟩ = some (.int .u64 (lm vh 2 : Nat)) ∧ w'.cell? ⟨B, 11, none⟩ = some (.int .u64 (lm vh 3 : Nat))
theorem S12.below {w1 w2 : World} {B : Nat} {hl hh nl : Bool} {vl : Nat} {nh : Bool} {vh : Nat} (h : S12 w1 B hl hh nl vl nh vh) (hb : Below w1.heap.size w1 w2) : S12 w2 B hl hh nl vl nh vh := by
  obtain ⟨h0, h1, h2, h3, h4, h5, h6, h7, h8, h9, g0, g1⟩ := h.all
  exact ⟨keep_cell hb h0, keep_cell hb h1, keep_cell hb h2, keep_cell hb h3, keep_cell hb h4, keep_cell hb h5, keep_cell hb h6, keep_cell hb h7, keep_cell hb h8, keep_cell hb h9, keep_cell hb g0, keep_cell hb g1⟩
theorem s12_hb {w w1 : World} {hl hh nl : Bool} {vl : Nat} {nh : Bool} {vh : Nat} {t : TypeId} (hb : Below (w.alloc (.cells #[.bool hl, .bool hh, .bool nl, .int .u64 (lm vl 0 : Nat), .int .u64 (lm vl 1 : Nat), .int .u64 (lm vl 2 : Nat), .int .u64 (lm vl 3 : Nat), .bool nh, .int .u64 (lm vh 0 : Nat), .int .u64 (lm vh 1 : Nat), .int .u64 (lm vh 2 : Nat), .int .u64 (lm vh 3 : Nat)] t)).heap.size (w.alloc (.cells #[.bool hl, .bool hh, .bool nl, .int .u64 (lm vl 0 : Nat), .int .u64 (lm vl 1 : Nat), .int .u64 (lm vl 2 : Nat), .int .u64 (lm vl 3 : Nat), .bool nh, .int .u64 (lm vh 0 : Nat), .int .u64 (lm vh 1 : Nat), .int .u64 (lm vh 2 : Nat), .int .u64 (lm vh 3 : Nat)] t)) w1) : S12 w1 w.heap.size hl hh nl vl nh vh :=
  (show S12 (w.alloc (.cells #[.bool hl, .bool hh, .bool nl, .int .u64 (lm vl 0 : Nat), .int .u64 (lm vl 1 : Nat), .int .u64 (lm vl 2 : Nat), .int .u64 (lm vl 3 : Nat), .bool nh, .int .u64 (lm vh 0 : Nat), .int .u64 (lm vh 1 : Nat), .int .u64 (lm vh 2 : Nat), .int .u64 (lm vh 3 : Nat)] t)) w.heap.size hl hh nl vl nh vh from ⟨by simp [go_sem]⟩).below hb
/-- an element of a row -/
theorem sp_lit {w wr : World} {a : Option Addr} {n c i : Nat} {S : Nat → Sp} (h : SRow w a n c S) (hi : i < n) (hB : Below w.heap.size w wr) :
    ∃ (b off : Nat) (hl hh nl : Bool) (vl : Nat) (nh : Bool) (vh : Nat), a = some ⟨b, off, none⟩ ∧ b < wr.heap.size ∧ S i = ⟨hl, hh, nl, vl, nh, vh⟩ ∧
      R12 wr b (off + i * 12) (.bool hl) (.bool hh) (.bool nl) (.int .u64 (lm vl 0 : Nat)) (.int .u64 (lm vl 1 : Nat)) (.int .u64 (lm vl 2 : Nat)) (.int .u64 (lm vl 3 : Nat)) (.bool nh) (.int .u64 (lm vh 0 : Nat)) (.int .u64 (lm vh 1 : Nat)) (.int .u64 (lm vh 2 : Nat)) (.int .u64 (lm vh 3 : Nat)) ∧ vl < 2 ^ 256 ∧ vh < 2 ^ 256 := by
  have ho := h.o i hi
  rcases h.c with h1 | ⟨b, off, rfl, hb, hc⟩
  · omega
  have hc := hc i hi
  generalize S i = s at *
  obtain ⟨hl, hh, nl, vl, nh, vh⟩ := s
  have hw : ∀ j, j < 12 → wr.cell? ⟨b, off + i * 12 + j, none⟩ = (Sp.cells ⟨hl, hh, nl, vl, nh, vh⟩)[j]? := fun j hj => by
    rw [hB.cell (p := ⟨b, off + i * 12 + j, none⟩) hb]
    exact hc j hj
  exact ⟨b, off, hl, hh, nl, vl, nh, vh, rfl, Nat.lt_of_lt_of_le hb hB.size, rfl, ⟨⟨hw 0 (by omega), hw 1 (by omega), hw 2 (by omega), hw 3 (by omega), hw 4 (by omega), hw 5 (by omega), hw 6 (by omega), hw 7 (by omega), hw 8 (by omega), hw 9 (by omega), hw 10 (by omega), hw 11 (by omega)⟩⟩, ho.1, ho.2⟩
/-- may a span be? -/
def mayS (s : Sp) : Bool := mayI s.nl s.vl && mayI s.nh s.vh && (s.hl || (!s.nl && s.vl == 0)) && (s.hh || (!s.nh && s.vh == 0))
def mayR (S : Nat → Sp) (n : Nat) : Bool := decide (n ≤ 1000) && !anyN (fun i => !mayS (S i)) n
theorem eqI_none {n : Bool} {V : Nat} (hV : V < 2 ^ 256) : eqI n false (lm V 0 : Nat) (lm V 1 : Nat) (lm V 2 : Nat) (lm V 3 : Nat) 0 0 0 0 = (!n && V == 0) := by
  unfold eqI
  by_cases c : V = 0
  · subst c
    cases n <;> simp [lm_zero]
  · rw [show (V == 0) = false from beq_false_of_ne c, Bool.and_false, ← Bool.not_eq_true]
    intro h
    simp only [Bool.and_eq_true, beq_iff_eq] at h
    exact c (lm_inj hV (Nat.two_pow_pos _) (by rw [lm_zero]; omega) (by rw [lm_zero]; omega) (by rw [lm_zero]; omega) (by rw [lm_zero]; omega))
theorem z_lm {V : Nat} (hV : V < 2 ^ 256) : (V == 0) = (lm V 0 == 0 && lm V 1 == 0 && lm V 2 == 0 && lm V 3 == 0) := by
  by_cases c : V = 0
  · subst c; simp [lm_zero]
  · rw [show (V == 0) = false from beq_false_of_ne c, eq_comm, ← Bool.not_eq_true]
    intro h
    simp only [Bool.and_eq_true, beq_iff_eq] at h
    exact c (lm_inj hV (Nat.two_pow_pos _) (by rw [lm_zero]; omega) (by rw [lm_zero]; omega) (by rw [lm_zero]; omega) (by rw [lm_zero]; omega))
set_option maxRecDepth 20000 in
set_option maxHeartbeats 4000000 in
theorem PMayS_any (a : Option Addr) (n c : Nat) (S : Nat → Sp) (w : World) (h : SRow w a n c S) : Calls Tryz.prog 16 #[.slice a n c] w fun e w' => e = .returned (.bool (mayR S n)) ∧ Below w.heap.size w w' := by
  obtain ⟨R, hR⟩ : ∃ R, R = mayR S n := ⟨_, rfl⟩
  rw [← hR]
  unfold mayR at hR
  have HR := Lib.hid hR
  have H := Lib.hid h
  have hl := h.l
  have hlc := h.lc
  clear hR h
  simp only [maxLen] at hlc
  by_cases h0 : 1000 < n
  · have i0 : (1000 : Int) < (n : Int) := by omega
    have e : R = false := by rw [HR.out, decide_eq_false (by omega)]; rfl
    subst e
    go_enter Tryz.func16, Tryz.ntmps16
    repeat any_goals (first | go_skip | go_guarded | go_step | go_upon | (simp only []; done))
    exact bodyPost_ret (v := .bool false) (by simp [results, Tryz.results16, go_sem]) rfl ⟨rfl, by (repeat first | with_reducible exact Below.refl _ _ | with_reducible assumption | with_reducible refine Below.drew ?_ | with_reducible refine below_alloc ?_ _ | ((with_reducible refine Below.setCell ?_ ?_ _); rotate_left; (focus (first | with_reducible exact Nat.le_refl _ | (simp; done) | (simp; omega) | omega))) | (with_reducible refine below_trans ?_ (by assumption)))⟩
  · have i0 : ¬ (1000 : Int) < (n : Int) := by omega
    have hn1000 : decide (n ≤ 1000) = true := decide_eq_true (by omega)
    go_enter Tryz.func16, Tryz.ntmps16
    repeat any_goals (first | go_skip | go_guarded | go_step | go_upon | (simp only []; done))
    go_loopw [10] (fun i wr => ∃ k : Nat, k ≤ n ∧ i = .int .i64 k ∧ anyN (fun i => !mayS (S i)) k = false ∧ Below w.heap.size w wr) (fun i _ => n - (intOf i).toNat)
    case atStart => exact ⟨0, Nat.zero_le _, rfl, rfl, Below.refl _ _⟩
    case round =>
      obtain ⟨k, hk, rfl, hA, hW⟩ := hrel
      have HA := Lib.hid hA
      clear hA
      by_cases hkn : k < n
      · obtain ⟨b, off, hl', hh', nl, vl, nh, vh, rfl, hb, hs, hc, hvl, hvh⟩ := sp_lit H.out hkn hW
        have hS := Lib.hid hs
        obtain ⟨c0, c1, c2, c3, c4, c5, c6, c7, c8, c9, c10, c11⟩ := hc.all
        have i1 : (k : Int) < (n : Int) := by omega
        have i2 : (0 : Int) ≤ (k : Int) := by omega
        have i5 : (k : Int).toNat = k := rfl
        obtain ⟨p, hp⟩ : ∃ p, p = mayI nl vl := ⟨_, rfl⟩
        obtain ⟨q, hq⟩ : ∃ p, p = mayI nh vh := ⟨_, rfl⟩
        have C1 := Lib.hid fun wx => May_any nl vl hvl wx
        have C2 := Lib.hid fun wx => May_any nh vh hvh wx
        have Y1 := Lib.hid (z_lm hvl)
        have Y2 := Lib.hid (z_lm hvh)
        rw [← hp] at C1
        rw [← hq] at C2
        have H1 := Lib.hid (And.intro hp.symm hq.symm)
        clear hs hc hvl hvh hp hq
        cases p with
        | false =>
          have e : R = false := by rw [HR.out, hn1000, anyN_of (p := fun i => !mayS (S i)) (show (!mayS (S k)) = true by rw [hS.out]; unfold mayS; simp only [H1.out.1, Bool.false_and, Bool.not_false]) hkn]; rfl
          subst e
          repeat any_goals (first | (go_at_call 23; with_reducible refine (C1.out _).mono ?_; rintro e w1 ⟨rfl, hb1⟩; have X1 := Lib.hid (s12_hb hb1); obtain ⟨_, _, _, _, _, _, _, _, _, _, _, _⟩ := X1.out.all) | go_skip | go_guarded | go_step | go_upon | (dsimp only []))
          exact bodyPost_ret (v := .bool false) (by simp [results, Tryz.results16, go_sem]) rfl ⟨rfl, by (repeat first | with_reducible exact Below.refl _ _ | with_reducible assumption | with_reducible refine Below.drew ?_ | with_reducible refine below_alloc ?_ _ | ((with_reducible refine Below.setCell ?_ ?_ _); rotate_left; (focus (first | with_reducible exact Nat.le_refl _ | (simp; done) | (simp; omega) | omega))) | (with_reducible refine below_trans ?_ (by assumption)))⟩
        | true =>
          cases q with
          | false =>
            have e : R = false := by rw [HR.out, hn1000, anyN_of (p := fun i => !mayS (S i)) (show (!mayS (S k)) = true by rw [hS.out]; unfold mayS; simp only [H1.out.2, Bool.and_false, Bool.false_and, Bool.not_false]) hkn]; rfl
            subst e
            repeat any_goals (first | (go_at_call 23; with_reducible refine (C1.out _).mono ?_; rintro e w1 ⟨rfl, hb1⟩; have X1 := Lib.hid (s12_hb hb1); obtain ⟨_, _, _, _, _, _, _, _, _, _, _, _⟩ := X1.out.all) | (go_at_call 23; with_reducible refine (C2.out _).mono ?_; rintro e w2 ⟨rfl, hb2⟩; have X2 := Lib.hid (X1.out.below hb2); obtain ⟨_, _, _, _, _, _, _, _, _, _, _, _⟩ := X2.out.all) | go_skip | go_guarded | go_step | go_upon | (dsimp only []))
            exact bodyPost_ret (v := .bool false) (by simp [results, Tryz.results16, go_sem]) rfl ⟨rfl, by (repeat first | with_reducible exact Below.refl _ _ | with_reducible assumption | with_reducible refine Below.drew ?_ | with_reducible refine below_alloc ?_ _ | ((with_reducible refine Below.setCell ?_ ?_ _); rotate_left; (focus (first | with_reducible exact Nat.le_refl _ | (simp; done) | (simp; omega) | omega))) | (with_reducible refine below_trans ?_ (by assumption)))⟩
          | true =>
            repeat any_goals (first | (go_at_call 23; with_reducible refine (C1.out _).mono ?_; rintro e w1 ⟨rfl, hb1⟩; have X1 := Lib.hid (s12_hb hb1); obtain ⟨_, _, _, _, _, _, _, _, _, _, _, _⟩ := X1.out.all) | (go_at_call 23; with_reducible refine (C2.out _).mono ?_; rintro e w2 ⟨rfl, hb2⟩; have X2 := Lib.hid (X1.out.below hb2); obtain ⟨_, _, _, _, _, _, _, _, _, _, _, _⟩ := X2.out.all) | go_skip | go_guarded | go_step | go_upon | (dsimp only []))
            all_goals clear C1 C2
            all_goals first
              | (have e : R = false := by
                   rw [HR.out, hn1000, anyN_of (p := fun i => !mayS (S i)) (show (!mayS (S k)) = true by rw [hS.out]; unfold mayS; simp only [H1.out.1, H1.out.2, Y1.out, Y2.out]; simp [*] <;> omega) hkn]; rfl
                 subst e
                 exact bodyPost_ret (v := .bool false) (by simp [results, Tryz.results16, go_sem]) rfl ⟨rfl, by (repeat first | with_reducible exact Below.refl _ _ | with_reducible assumption | with_reducible refine Below.drew ?_ | with_reducible refine below_alloc ?_ _ | ((with_reducible refine Below.setCell ?_ ?_ _); rotate_left; (focus (first | with_reducible exact Nat.le_refl _ | (simp; done) | (simp; omega) | omega))) | (with_reducible refine below_trans ?_ (by assumption)))⟩)
              | (refine ⟨⟨k + 1, by omega, rfl, ?_, by (repeat first | with_reducible exact Below.refl _ _ | with_reducible assumption | with_reducible refine Below.drew ?_ | with_reducible refine below_alloc ?_ _ | ((with_reducible refine Below.setCell ?_ ?_ _); rotate_left; (focus (first | with_reducible exact Nat.le_refl _ | (simp; done) | (simp; omega) | omega))) | (with_reducible refine below_trans ?_ (by assumption)))⟩, ?_⟩
                 · simp only [anyN]; rw [HA.out, hS.out]; unfold mayS; simp only [H1.out.1, H1.out.2, Y1.out, Y2.out]; simp [*] <;> omega
                 · simp [intOf]; omega)
      · have hk' : k = n := by omega
        subst hk'
        have i1 : ¬ (k : Int) < (k : Int) := by omega
        have e : R = true := by rw [HR.out, hn1000, HA.out]; rfl
        subst e
        repeat any_goals (first | go_skip | go_guarded | go_step | go_upon | (simp only []; done))
        exact bodyPost_ret (v := .bool true) (by simp [results, Tryz.results16, go_sem]) rfl ⟨rfl, hW⟩
end Go.Proofs.YtekeedjhaakbhaaGreatDoor

namespace Go.Proofs.YtekeedjhaakbhaaGreatDoor
open Go.RowKit
/-- the greatest size -/
def topN : Nat := 2 ^ 256 - 1
theorem lm_top {j : Nat} (h : j < 4) : lm topN j = 18446744073709551615 := by
  match j, h with
  | 0, _ => decide
  | 1, _ => decide
  | 2, _ => decide
  | 3, _ => decide
structure EndI (w wr : World) (k : Nat) : Prop where
  a : ∀ j, j < 4 → wr.cell? ⟨w.heap.size + 1 + 1, j, none⟩ = some (.int .u64 ((if j < k then 18446744073709551615 else 0 : Nat) : Int)) ∧ wr.frozen? ⟨w.heap.size + 1 + 1, j, none⟩ = false
  r : wr.cell? ⟨w.heap.size, 0, none⟩ = some (.bool false) ∧ ∀ j, j < 4 → wr.cell? ⟨w.heap.size, 1 + j, none⟩ = some (.int .u64 0)
  s : wr.cell? ⟨w.heap.size + 1, 0, none⟩ = some (.bool false) ∧ ∀ j, j < 4 → wr.cell? ⟨w.heap.size + 1, 1 + j, none⟩ = some (.int .u64 0)
  f : ∀ j, j < 5 → wr.frozen? ⟨w.heap.size, j, none⟩ = false ∧ wr.frozen? ⟨w.heap.size + 1, j, none⟩ = false
  b : Below w.heap.size w wr
  l : w.heap.size + 1 + 1 < wr.heap.size
theorem EndI.set {w wr : World} {m : Nat} (h : EndI w wr m) (hm : m < 4) : EndI w (wr.setCell ⟨w.heap.size + 1 + 1, m, none⟩ (.int .u64 18446744073709551615)) (m + 1) := by
  obtain ⟨c0, f0⟩ := h.a m hm
  refine ⟨fun j hj => ⟨?_, by rw [World.frozen?_setCell]; exact (h.a j hj).2⟩, ⟨?_, fun j hj => ?_⟩, ⟨?_, fun j hj => ?_⟩, fun j hj => ⟨by rw [World.frozen?_setCell]; exact (h.f j hj).1, by rw [World.frozen?_setCell]; exact (h.f j hj).2⟩, h.b.setCell (by show w.heap.size ≤ w.heap.size + 1 + 1; omega) _, by simpa using h.l⟩
  · by_cases c : j = m
    · subst c
      rw [World.cell?_setCell_same _ _ _ c0, if_pos (by omega)]
      rfl
    · rw [set_other (fun h => c (by injection h with _ h2 _; exact h2.symm)), (h.a j hj).1]
      by_cases d : j < m
      · rw [if_pos d, if_pos (by omega)]
      · rw [if_neg d, if_neg (by omega)]
  · rw [set_other (by simp)]; exact h.r.1
  · rw [set_other (by simp)]; exact h.r.2 j hj
  · rw [set_other (by simp)]; exact h.s.1
  · rw [set_other (by simp)]; exact h.s.2 j hj
theorem endI_new {w : World} {t t1 t2 : TypeId} : EndI w (((w.alloc (.cells #[.bool false, .int .u64 0, .int .u64 0, .int .u64 0, .int .u64 0] t)).alloc (.cells #[.bool false, .int .u64 0, .int .u64 0, .int .u64 0, .int .u64 0] t1)).alloc (.cells #[.int .u64 0, .int .u64 0, .int .u64 0, .int .u64 0] t2)) 0 := by
  refine ⟨?_, ⟨by simp [go_sem], ?_⟩, ⟨by simp [go_sem], ?_⟩, ?_, by (repeat first | with_reducible exact Below.refl _ _ | with_reducible assumption | with_reducible refine Below.drew ?_ | with_reducible refine below_alloc ?_ _ | ((with_reducible refine Below.setCell ?_ ?_ _); rotate_left; (focus (first | with_reducible exact Nat.le_refl _ | (simp; done) | (simp; omega) | omega))) | (with_reducible refine below_trans ?_ (by assumption))), by simp⟩
  · intro j hj
    match j, hj with
    | 0, _ => simp [go_sem]
    | 1, _ => simp [go_sem]
    | 2, _ => simp [go_sem]
    | 3, _ => simp [go_sem]
  · intro j hj
    match j, hj with
    | 0, _ => simp [go_sem]
    | 1, _ => simp [go_sem]
    | 2, _ => simp [go_sem]
    | 3, _ => simp [go_sem]
  · intro j hj
    match j, hj with
    | 0, _ => simp [go_sem]
    | 1, _ => simp [go_sem]
    | 2, _ => simp [go_sem]
    | 3, _ => simp [go_sem]
  · intro j hj
    match j, hj with
    | 0, _ => simp [go_sem]
    | 1, _ => simp [go_sem]
    | 2, _ => simp [go_sem]
    | 3, _ => simp [go_sem]
    | 4, _ => simp [go_sem]
set_option maxRecDepth 20000 in
set_option maxHeartbeats 4000000 in
theorem Ends_any (w : World) : Calls Tryz.prog 54 #[] w fun e w' => e = .returned (.tuple #[.agg #[.bool (true ), .int .u64 (lm ( topN) 0 : Nat), .int .u64 (lm ( topN) 1 : Nat), .int .u64 (lm ( topN) 2 : Nat), .int .u64 (lm ( topN) 3 : Nat)], .agg #[.bool (false ), .int .u64 (lm ( topN) 0 : Nat), .int .u64 (lm ( topN) 1 : Nat), .int .u64 (lm ( topN) 2 : Nat), .int .u64 (lm ( topN) 3 : Nat)]]) ∧ Below w.heap.size w w' := by
  rw [lm_top (show 0 < 4 by omega), lm_top (show 1 < 4 by omega), lm_top (show 2 < 4 by omega), lm_top (show 3 < 4 by omega)]
  go_enter Tryz.func54, Tryz.ntmps54
  repeat any_goals (first | go_skip | go_guarded | go_step | go_upon | (simp only []; done))
  go_loopw [4] (fun i wr => ∃ k : Nat, k ≤ 4 ∧ i = .int .i64 k ∧ EndI w wr k) (fun i _ => 4 - (intOf i).toNat)
  case atStart => exact ⟨0, by omega, rfl, endI_new⟩
  case round =>
    obtain ⟨m, hm, rfl, I⟩ := hrel
    have IH := Lib.hid I
    clear I
    by_cases c0 : m < 4
    · obtain ⟨ca, fa⟩ := IH.out.a m c0
      have i1 : (m : Int) < 4 := by omega
      have i2 : (0 : Int) ≤ (m : Int) := by omega
      have i5 : (m : Int).toNat = m := rfl
      repeat any_goals (first | go_skip | go_guarded | go_step | go_upon | (simp only []; done))
      go_roundw
      case rel => exact ⟨m + 1, by omega, rfl, IH.out.set c0⟩
      case measure => simp [intOf]; omega
    · have hm4 : m = 4 := by omega
      subst hm4
      obtain ⟨a0, f0⟩ := IH.out.a 0 (by omega)
      obtain ⟨a1, f1⟩ := IH.out.a 1 (by omega)
      obtain ⟨a2, f2⟩ := IH.out.a 2 (by omega)
      obtain ⟨a3, f3⟩ := IH.out.a 3 (by omega)
      rw [if_pos (by omega)] at a0 a1 a2 a3
      obtain ⟨r0, hr⟩ := IH.out.r
      have r1 : wr.cell? ⟨w.heap.size, 1, none⟩ = some (.int .u64 0) := hr 0 (by omega)
      have r2 : wr.cell? ⟨w.heap.size, 2, none⟩ = some (.int .u64 0) := hr 1 (by omega)
      have r3 : wr.cell? ⟨w.heap.size, 3, none⟩ = some (.int .u64 0) := hr 2 (by omega)
      have r4 : wr.cell? ⟨w.heap.size, 4, none⟩ = some (.int .u64 0) := hr 3 (by omega)
      obtain ⟨s0, hs⟩ := IH.out.s
      have s1 : wr.cell? ⟨w.heap.size + 1, 1, none⟩ = some (.int .u64 0) := hs 0 (by omega)
      have s2 : wr.cell? ⟨w.heap.size + 1, 2, none⟩ = some (.int .u64 0) := hs 1 (by omega)
      have s3 : wr.cell? ⟨w.heap.size + 1, 3, none⟩ = some (.int .u64 0) := hs 2 (by omega)
      have s4 : wr.cell? ⟨w.heap.size + 1, 4, none⟩ = some (.int .u64 0) := hs 3 (by omega)
      obtain ⟨p0, q0⟩ := IH.out.f 0 (by omega)
      obtain ⟨p1, q1⟩ := IH.out.f 1 (by omega)
      obtain ⟨p2, q2⟩ := IH.out.f 2 (by omega)
      obtain ⟨p3, q3⟩ := IH.out.f 3 (by omega)
      obtain ⟨p4, q4⟩ := IH.out.f 4 (by omega)
      have hl := IH.out.l
      have hbb := IH.out.b
      clear hr hs
      repeat any_goals (first | go_skip | go_guarded | go_step | go_upon | (simp only []; done))
      go_region
      repeat any_goals (first | go_skip | go_guarded | go_step | go_upon | (simp only []; done))
      exact bodyPost_ret (v := .tuple #[.agg #[.bool true, .int .u64 18446744073709551615, .int .u64 18446744073709551615, .int .u64 18446744073709551615, .int .u64 18446744073709551615], .agg #[.bool false, .int .u64 18446744073709551615, .int .u64 18446744073709551615, .int .u64 18446744073709551615, .int .u64 18446744073709551615]]) (by simp [results, Tryz.results54, go_sem, r0, r1, r2, r3, r4, s0, s1, s2, s3, s4]) rfl ⟨rfl, by (repeat first | with_reducible exact Below.refl _ _ | with_reducible assumption | with_reducible refine Below.drew ?_ | with_reducible refine below_alloc ?_ _ | ((with_reducible refine Below.setCell ?_ ?_ _); rotate_left; (focus (first | with_reducible exact Nat.le_refl _ | (simp; done) | (simp; omega) | omega))) | (with_reducible refine below_trans ?_ (by assumption)))⟩
end Go.Proofs.YtekeedjhaakbhaaGreatDoor
