/- end, ends, Has of the document. -/
import Derived.Test.YtekeedjhaakbhaaGreatDoorFormR
import Derived.Deep.DeepCutAuto
import Derived.Test.YtekeedjhaakbhaaGreatDoorHas9
namespace Go.Proofs.YtekeedjhaakbhaaGreatDoor
open Go Go.RowKit
set_option maxRecDepth 20000 in
theorem REnd_any (neg : Bool) (w : World) : Calls Tryz.prog 45 #[.bool neg] w fun e w' => e = .returned (.agg #[.bool (neg ), .int .u64 (lm ( topN) 0 : Nat), .int .u64 (lm ( topN) 1 : Nat), .int .u64 (lm ( topN) 2 : Nat), .int .u64 (lm ( topN) 3 : Nat)]) ∧ Below w.heap.size w w' := by
  go_enter Tryz.func45, Tryz.ntmps45
  repeat any_goals (first | go_skip | go_guarded | go_step | go_upon | (simp only []; done))
  exact bodyPost_ret (v := .agg #[.bool neg, .int .u64 18446744073709551615, .int .u64 18446744073709551615, .int .u64 18446744073709551615, .int .u64 18446744073709551615]) (by simp [results, Tryz.results45, go_sem]) rfl ⟨by simp [lm_top], by (repeat first | with_reducible exact Below.refl _ _ | with_reducible assumption | with_reducible refine Below.drew ?_ | with_reducible refine below_alloc ?_ _ | ((with_reducible refine Below.setCell ?_ ?_ _); rotate_left; (focus (first | with_reducible exact Nat.le_refl _ | (simp; done) | (simp; omega) | omega))) | (with_reducible refine below_trans ?_ (by assumption)))⟩
def eln (hl nl : Bool) : Bool := if hl = true then nl else true
def elv (hl : Bool) (vl : Nat) : Nat := if hl = true then vl else topN
def ehn (hh nh : Bool) : Bool := if hh = true then nh else false
/-- what stands in ends -/
structure EndsI (w wr : World) (Bl Bh : Nat) (hl hh nl : Bool) (vl : Nat) (nh : Bool) (vh : Nat) (an : Bool) (av : Nat) (bn : Bool) (bv : Nat) : Prop where
  x : S12 wr w.heap.size hl hh nl vl nh vh
  r1 : IBoxF wr (w.heap.size + 1) false 0
  r2 : IBoxF wr (w.heap.size + 1 + 1) false 0
  l : IBoxF wr Bl an av
  h : IBoxF wr Bh bn bv
  b : Below w.heap.size w wr
  ne : Bl ≠ Bh ∧ Bh ≠ Bl ∧ ¬ Bl = w.heap.size + 1 ∧ ¬ Bl = w.heap.size + 1 + 1 ∧ (¬ Bh = w.heap.size + 1 ∧ ¬ Bh = w.heap.size + 1 + 1 ∧ w.heap.size < Bl ∧ w.heap.size < Bh)
theorem EndsI.below {w wr w1 : World} {Bl Bh vl vh av bv : Nat} {hl hh nl nh an bn : Bool} (h : EndsI w wr Bl Bh hl hh nl vl nh vh an av bn bv) (hb : Below wr.heap.size wr w1) : EndsI w w1 Bl Bh hl hh nl vl nh vh an av bn bv :=
  ⟨h.x.below hb, h.r1.below hb, h.r2.below hb, h.l.below hb, h.h.below hb, h.b.trans (below_weak hb h.b.size), h.ne⟩
theorem S12.but {b f B vl vh : Nat} {hl hh nl nh : Bool} {w w1 : World} (h : S12 w B hl hh nl vl nh vh) (k : But b f w w1) (hb : B ≠ b) (hf : B ≠ f) : S12 w1 B hl hh nl vl nh vh := by
  obtain ⟨h0, h1, h2, h3, h4, h5, h6, h7, h8, h9, g0, g1⟩ := h.all
  exact ⟨k.cell hb hf h0, k.cell hb hf h1, k.cell hb hf h2, k.cell hb hf h3, k.cell hb hf h4, k.cell hb hf h5, k.cell hb hf h6, k.cell hb hf h7, k.cell hb hf h8, k.cell hb hf h9, k.cell hb hf g0, k.cell hb hf g1⟩
theorem below_but {w wr w1 : World} {B : Nat} (h : Below w.heap.size w wr) (k : But B B wr w1) (hB : w.heap.size ≤ B) : Below w.heap.size w w1 :=
  ⟨k.os.trans h.os, k.tape.trans h.tape, k.output.trans h.output, Nat.le_trans h.size k.size, fun j hj => (k.block j (Nat.lt_of_lt_of_le hj h.size) (by omega) (by omega)).trans (h.block j hj)⟩
theorem EndsI.setL {w wr : World} {Bl Bh vl vh av bv V : Nat} {hl hh nl nh an bn m : Bool} (h : EndsI w wr Bl Bh hl hh nl vl nh vh an av bn bv) :
    EndsI w (((((wr.setCell ⟨Bl, 0, none⟩ (.bool m)).setCell ⟨Bl, 1, none⟩ (.int .u64 (lm V 0 : Nat))).setCell ⟨Bl, 2, none⟩ (.int .u64 (lm V 1 : Nat))).setCell ⟨Bl, 3, none⟩ (.int .u64 (lm V 2 : Nat))).setCell ⟨Bl, 4, none⟩ (.int .u64 (lm V 3 : Nat))) Bl Bh hl hh nl vl nh vh m V bn bv := by
  obtain ⟨n1, n2, n3, n4, n5, n6, n7, n8⟩ := h.ne
  have k := but5 wr Bl (.bool m) (.int .u64 (lm V 0 : Nat)) (.int .u64 (lm V 1 : Nat)) (.int .u64 (lm V 2 : Nat)) (.int .u64 (lm V 3 : Nat))
  exact ⟨h.x.but k (by omega) (by omega), h.r1.but k (by omega) (by omega), h.r2.but k (by omega) (by omega), h.l.set, h.h.but k (by omega) (by omega), below_but h.b k (by omega), h.ne⟩
theorem EndsI.setH {w wr : World} {Bl Bh vl vh av bv V : Nat} {hl hh nl nh an bn m : Bool} (h : EndsI w wr Bl Bh hl hh nl vl nh vh an av bn bv) :
    EndsI w (((((wr.setCell ⟨Bh, 0, none⟩ (.bool m)).setCell ⟨Bh, 1, none⟩ (.int .u64 (lm V 0 : Nat))).setCell ⟨Bh, 2, none⟩ (.int .u64 (lm V 1 : Nat))).setCell ⟨Bh, 3, none⟩ (.int .u64 (lm V 2 : Nat))).setCell ⟨Bh, 4, none⟩ (.int .u64 (lm V 3 : Nat))) Bl Bh hl hh nl vl nh vh an av m V := by
  obtain ⟨n1, n2, n3, n4, n5, n6, n7, n8⟩ := h.ne
  have k := but5 wr Bh (.bool m) (.int .u64 (lm V 0 : Nat)) (.int .u64 (lm V 1 : Nat)) (.int .u64 (lm V 2 : Nat)) (.int .u64 (lm V 3 : Nat))
  exact ⟨h.x.but k (by omega) (by omega), h.r1.but k (by omega) (by omega), h.r2.but k (by omega) (by omega), h.l.but k (by omega) (by omega), h.h.set, below_but h.b k (by omega), h.ne⟩
set_option maxRecDepth 20000 in
set_option maxHeartbeats 4000000 in
theorem REnds_any (hl hh nl nh : Bool) (vl vh : Nat) (w : World) : Calls Tryz.prog 19 #[.agg #[.bool hl, .bool hh, .bool nl, .int .u64 (lm vl 0 : Nat), .int .u64 (lm vl 1 : Nat), .int .u64 (lm vl 2 : Nat), .int .u64 (lm vl 3 : Nat), .bool nh, .int .u64 (lm vh 0 : Nat), .int .u64 (lm vh 1 : Nat), .int .u64 (lm vh 2 : Nat), .int .u64 (lm vh 3 : Nat)]] w fun e w' => e = .returned (.tuple #[.agg #[.bool (eln hl nl ), .int .u64 (lm ( elv hl vl) 0 : Nat), .int .u64 (lm ( elv hl vl) 1 : Nat), .int .u64 (lm ( elv hl vl) 2 : Nat), .int .u64 (lm ( elv hl vl) 3 : Nat)], .agg #[.bool (ehn hh nh ), .int .u64 (lm ( elv hh vh) 0 : Nat), .int .u64 (lm ( elv hh vh) 1 : Nat), .int .u64 (lm ( elv hh vh) 2 : Nat), .int .u64 (lm ( elv hh vh) 3 : Nat)]]) ∧ Below w.heap.size w w' := by
  have CT := Lib.hid fun wx => REnd_any true wx
  have CF := Lib.hid fun wx => REnd_any false wx
  go_enter Tryz.func19, Tryz.ntmps19
  go_upto_region 1 with fail
  go_cut [4, 5] (fun s4 s5 wx => ∃ Bl Bh, s4 = .pointer (some ⟨Bl, 0, none⟩) ∧ s5 = .pointer (some ⟨Bh, 0, none⟩) ∧ EndsI w wx Bl Bh hl hh nl vl nh vh nl vl nh vh)
  case first =>
    go_region
    all_goals (repeat any_goals (first | go_skip | go_guarded | go_step | go_upon | (simp only []; done)))
    · go_meet
      case rel => exact ⟨w.heap.size + 1 + 1 + 1, w.heap.size + 1 + 1 + 1 + 1, rfl, rfl, ⟨⟨by simp [go_sem]⟩, ⟨⟨by simp [go_sem], by simp [go_sem, lm_zero], by simp [go_sem, lm_zero], by simp [go_sem, lm_zero], by simp [go_sem, lm_zero], by simp⟩, by simp [go_sem], by simp [go_sem], by simp [go_sem], by simp [go_sem], by simp [go_sem]⟩, ⟨⟨by simp [go_sem], by simp [go_sem, lm_zero], by simp [go_sem, lm_zero], by simp [go_sem, lm_zero], by simp [go_sem, lm_zero], by simp⟩, by simp [go_sem], by simp [go_sem], by simp [go_sem], by simp [go_sem], by simp [go_sem]⟩, ⟨⟨by simp [go_sem], by simp [go_sem], by simp [go_sem], by simp [go_sem], by simp [go_sem], by simp⟩, by simp [go_sem], by simp [go_sem], by simp [go_sem], by simp [go_sem], by simp [go_sem]⟩, ⟨⟨by simp [go_sem], by simp [go_sem], by simp [go_sem], by simp [go_sem], by simp [go_sem], by simp⟩, by simp [go_sem], by simp [go_sem], by simp [go_sem], by simp [go_sem], by simp [go_sem]⟩, by (repeat first | with_reducible exact Below.refl _ _ | with_reducible assumption | with_reducible refine Below.drew ?_ | with_reducible refine below_alloc ?_ _ | ((with_reducible refine Below.setCell ?_ ?_ _); rotate_left; (focus (first | with_reducible exact Nat.le_refl _ | (simp; done) | (simp; omega) | omega))) | (with_reducible refine below_trans ?_ (by assumption))), by omega⟩⟩
    · go_meet
      case rel => exact ⟨w.heap.size + 1 + 1 + 1 + 1, w.heap.size + 1 + 1 + 1, rfl, rfl, ⟨⟨by simp [go_sem]⟩, ⟨⟨by simp [go_sem], by simp [go_sem, lm_zero], by simp [go_sem, lm_zero], by simp [go_sem, lm_zero], by simp [go_sem, lm_zero], by simp⟩, by simp [go_sem], by simp [go_sem], by simp [go_sem], by simp [go_sem], by simp [go_sem]⟩, ⟨⟨by simp [go_sem], by simp [go_sem, lm_zero], by simp [go_sem, lm_zero], by simp [go_sem, lm_zero], by simp [go_sem, lm_zero], by simp⟩, by simp [go_sem], by simp [go_sem], by simp [go_sem], by simp [go_sem], by simp [go_sem]⟩, ⟨⟨by simp [go_sem], by simp [go_sem], by simp [go_sem], by simp [go_sem], by simp [go_sem], by simp⟩, by simp [go_sem], by simp [go_sem], by simp [go_sem], by simp [go_sem], by simp [go_sem]⟩, ⟨⟨by simp [go_sem], by simp [go_sem], by simp [go_sem], by simp [go_sem], by simp [go_sem], by simp⟩, by simp [go_sem], by simp [go_sem], by simp [go_sem], by simp [go_sem], by simp [go_sem]⟩, by (repeat first | with_reducible exact Below.refl _ _ | with_reducible assumption | with_reducible refine Below.drew ?_ | with_reducible refine below_alloc ?_ _ | ((with_reducible refine Below.setCell ?_ ?_ _); rotate_left; (focus (first | with_reducible exact Nat.le_refl _ | (simp; done) | (simp; omega) | omega))) | (with_reducible refine below_trans ?_ (by assumption))), by omega⟩⟩
  case rest =>
    obtain ⟨Bl, Bh, rfl, rfl, E⟩ := hcut
    have E0 := Lib.hid E
    clear E
    obtain ⟨_, _, _, _, _, _, _, _, _, _, _, _⟩ := E0.out.x.all; obtain ⟨_, _, _, _, _⟩ := E0.out.r1.all; obtain ⟨_, _, _, _, _⟩ := E0.out.r2.all; obtain ⟨_, _, _, _, _⟩ := E0.out.l.all; obtain ⟨_, _, _, _, _⟩ := E0.out.h.all
    cases hl with
    | true =>
      cases hh with
      | true =>
        repeat any_goals (first | go_skip | go_guarded | go_step | go_upon | (simp only []; done))
        obtain ⟨_, _, _, _, _, _, _, _, _, _, _, _⟩ := E0.out.x.all; obtain ⟨_, _, _, _, _⟩ := E0.out.r1.all; obtain ⟨_, _, _, _, _⟩ := E0.out.r2.all; obtain ⟨_, _, _, _, _⟩ := E0.out.l.all; obtain ⟨_, _, _, _, _⟩ := E0.out.h.all
        have n1 := E0.out.ne.1; have n2 := E0.out.ne.2.1; have n3 := E0.out.ne.2.2.1; have n4 := E0.out.ne.2.2.2.1; have n5 := E0.out.ne.2.2.2.2.1; have n6 := E0.out.ne.2.2.2.2.2
        go_region
        all_goals (repeat any_goals (first | go_skip | go_guarded | go_step | go_upon | (simp only []; done)))
        all_goals (exact bodyPost_ret (v := .tuple #[.agg #[.bool (nl ), .int .u64 (lm ( vl) 0 : Nat), .int .u64 (lm ( vl) 1 : Nat), .int .u64 (lm ( vl) 2 : Nat), .int .u64 (lm ( vl) 3 : Nat)], .agg #[.bool (nh ), .int .u64 (lm ( vh) 0 : Nat), .int .u64 (lm ( vh) 1 : Nat), .int .u64 (lm ( vh) 2 : Nat), .int .u64 (lm ( vh) 3 : Nat)]]) (by simp [results, Tryz.results19, go_sem, *]) rfl ⟨rfl, by have hW := E0.out.b; (repeat first | with_reducible exact Below.refl _ _ | with_reducible assumption | with_reducible refine Below.drew ?_ | with_reducible refine below_alloc ?_ _ | ((with_reducible refine Below.setCell ?_ ?_ _); rotate_left; (focus (first | with_reducible exact Nat.le_refl _ | (simp; done) | (simp; omega) | omega))) | (with_reducible refine below_trans ?_ (by assumption)))⟩)
      | false =>
        repeat any_goals (first | (go_at_call 45; with_reducible refine (CF.out _).mono ?_; rintro e w1 ⟨rfl, hbw1⟩; have E1 := Lib.hid (E0.out.below hbw1); obtain ⟨_, _, _, _, _, _, _, _, _, _, _, _⟩ := E1.out.x.all; obtain ⟨_, _, _, _, _⟩ := E1.out.r1.all; obtain ⟨_, _, _, _, _⟩ := E1.out.r2.all; obtain ⟨_, _, _, _, _⟩ := E1.out.l.all; obtain ⟨_, _, _, _, _⟩ := E1.out.h.all) | go_skip | go_guarded | go_step | go_upon | (dsimp only []))
        have E2 := Lib.hid (E1.out.setH (m := false) (V := topN))
        clear E1
        generalize (((((w1.setCell ⟨Bh, 0, none⟩ (.bool false)).setCell ⟨Bh, 1, none⟩ (.int .u64 (lm topN 0 : Nat))).setCell ⟨Bh, 2, none⟩ (.int .u64 (lm topN 1 : Nat))).setCell ⟨Bh, 3, none⟩ (.int .u64 (lm topN 2 : Nat))).setCell ⟨Bh, 4, none⟩ (.int .u64 (lm topN 3 : Nat))) = w3 at *
        obtain ⟨_, _, _, _, _, _, _, _, _, _, _, _⟩ := E2.out.x.all; obtain ⟨_, _, _, _, _⟩ := E2.out.r1.all; obtain ⟨_, _, _, _, _⟩ := E2.out.r2.all; obtain ⟨_, _, _, _, _⟩ := E2.out.l.all; obtain ⟨_, _, _, _, _⟩ := E2.out.h.all
        have n1 := E2.out.ne.1; have n2 := E2.out.ne.2.1; have n3 := E2.out.ne.2.2.1; have n4 := E2.out.ne.2.2.2.1; have n5 := E2.out.ne.2.2.2.2.1; have n6 := E2.out.ne.2.2.2.2.2
        go_region
        all_goals (repeat any_goals (first | go_skip | go_guarded | go_step | go_upon | (simp only []; done)))
        all_goals (exact bodyPost_ret (v := .tuple #[.agg #[.bool (nl ), .int .u64 (lm ( vl) 0 : Nat), .int .u64 (lm ( vl) 1 : Nat), .int .u64 (lm ( vl) 2 : Nat), .int .u64 (lm ( vl) 3 : Nat)], .agg #[.bool (false ), .int .u64 (lm ( topN) 0 : Nat), .int .u64 (lm ( topN) 1 : Nat), .int .u64 (lm ( topN) 2 : Nat), .int .u64 (lm ( topN) 3 : Nat)]]) (by simp [results, Tryz.results19, go_sem, *]) rfl ⟨rfl, by have hW := E2.out.b; (repeat first | with_reducible exact Below.refl _ _ | with_reducible assumption | with_reducible refine Below.drew ?_ | with_reducible refine below_alloc ?_ _ | ((with_reducible refine Below.setCell ?_ ?_ _); rotate_left; (focus (first | with_reducible exact Nat.le_refl _ | (simp; done) | (simp; omega) | omega))) | (with_reducible refine below_trans ?_ (by assumption)))⟩)
    | false =>
      cases hh with
      | true =>
        go_upto_region 4 with (first | (go_at_call 45; with_reducible refine (CT.out _).mono ?_; rintro e w1 ⟨rfl, hbw1⟩; have E1 := Lib.hid (E0.out.below hbw1); obtain ⟨_, _, _, _, _, _, _, _, _, _, _, _⟩ := E1.out.x.all; obtain ⟨_, _, _, _, _⟩ := E1.out.r1.all; obtain ⟨_, _, _, _, _⟩ := E1.out.r2.all; obtain ⟨_, _, _, _, _⟩ := E1.out.l.all; obtain ⟨_, _, _, _, _⟩ := E1.out.h.all))
        have E2 := Lib.hid (E1.out.setL (m := true) (V := topN))
        clear E1
        generalize (((((w1.setCell ⟨Bl, 0, none⟩ (.bool true)).setCell ⟨Bl, 1, none⟩ (.int .u64 (lm topN 0 : Nat))).setCell ⟨Bl, 2, none⟩ (.int .u64 (lm topN 1 : Nat))).setCell ⟨Bl, 3, none⟩ (.int .u64 (lm topN 2 : Nat))).setCell ⟨Bl, 4, none⟩ (.int .u64 (lm topN 3 : Nat))) = w3 at *
        obtain ⟨_, _, _, _, _, _, _, _, _, _, _, _⟩ := E2.out.x.all; obtain ⟨_, _, _, _, _⟩ := E2.out.r1.all; obtain ⟨_, _, _, _, _⟩ := E2.out.r2.all; obtain ⟨_, _, _, _, _⟩ := E2.out.l.all; obtain ⟨_, _, _, _, _⟩ := E2.out.h.all
        repeat any_goals (first | go_skip | go_guarded | go_step | go_upon | (simp only []; done))
        have n1 := E2.out.ne.1; have n2 := E2.out.ne.2.1; have n3 := E2.out.ne.2.2.1; have n4 := E2.out.ne.2.2.2.1; have n5 := E2.out.ne.2.2.2.2.1; have n6 := E2.out.ne.2.2.2.2.2
        go_region
        all_goals (repeat any_goals (first | go_skip | go_guarded | go_step | go_upon | (simp only []; done)))
        all_goals (exact bodyPost_ret (v := .tuple #[.agg #[.bool (true ), .int .u64 (lm ( topN) 0 : Nat), .int .u64 (lm ( topN) 1 : Nat), .int .u64 (lm ( topN) 2 : Nat), .int .u64 (lm ( topN) 3 : Nat)], .agg #[.bool (nh ), .int .u64 (lm ( vh) 0 : Nat), .int .u64 (lm ( vh) 1 : Nat), .int .u64 (lm ( vh) 2 : Nat), .int .u64 (lm ( vh) 3 : Nat)]]) (by simp [results, Tryz.results19, go_sem, *]) rfl ⟨rfl, by have hW := E2.out.b; (repeat first | with_reducible exact Below.refl _ _ | with_reducible assumption | with_reducible refine Below.drew ?_ | with_reducible refine below_alloc ?_ _ | ((with_reducible refine Below.setCell ?_ ?_ _); rotate_left; (focus (first | with_reducible exact Nat.le_refl _ | (simp; done) | (simp; omega) | omega))) | (with_reducible refine below_trans ?_ (by assumption)))⟩)
      | false =>
        go_upto_region 4 with (first | (go_at_call 45; with_reducible refine (CT.out _).mono ?_; rintro e w1 ⟨rfl, hbw1⟩; have E1 := Lib.hid (E0.out.below hbw1); obtain ⟨_, _, _, _, _, _, _, _, _, _, _, _⟩ := E1.out.x.all; obtain ⟨_, _, _, _, _⟩ := E1.out.r1.all; obtain ⟨_, _, _, _, _⟩ := E1.out.r2.all; obtain ⟨_, _, _, _, _⟩ := E1.out.l.all; obtain ⟨_, _, _, _, _⟩ := E1.out.h.all))
        have E2 := Lib.hid (E1.out.setL (m := true) (V := topN))
        clear E1
        generalize (((((w1.setCell ⟨Bl, 0, none⟩ (.bool true)).setCell ⟨Bl, 1, none⟩ (.int .u64 (lm topN 0 : Nat))).setCell ⟨Bl, 2, none⟩ (.int .u64 (lm topN 1 : Nat))).setCell ⟨Bl, 3, none⟩ (.int .u64 (lm topN 2 : Nat))).setCell ⟨Bl, 4, none⟩ (.int .u64 (lm topN 3 : Nat))) = w3 at *
        obtain ⟨_, _, _, _, _, _, _, _, _, _, _, _⟩ := E2.out.x.all; obtain ⟨_, _, _, _, _⟩ := E2.out.r1.all; obtain ⟨_, _, _, _, _⟩ := E2.out.r2.all; obtain ⟨_, _, _, _, _⟩ := E2.out.l.all; obtain ⟨_, _, _, _, _⟩ := E2.out.h.all
        repeat any_goals (first | (go_at_call 45; with_reducible refine (CF.out _).mono ?_; rintro e w2 ⟨rfl, hbw2⟩; have E3 := Lib.hid (E2.out.below hbw2); obtain ⟨_, _, _, _, _, _, _, _, _, _, _, _⟩ := E3.out.x.all; obtain ⟨_, _, _, _, _⟩ := E3.out.r1.all; obtain ⟨_, _, _, _, _⟩ := E3.out.r2.all; obtain ⟨_, _, _, _, _⟩ := E3.out.l.all; obtain ⟨_, _, _, _, _⟩ := E3.out.h.all) | go_skip | go_guarded | go_step | go_upon | (dsimp only []))
        have E4 := Lib.hid (E3.out.setH (m := false) (V := topN))
        clear E2 E3
        generalize (((((w2.setCell ⟨Bh, 0, none⟩ (.bool false)).setCell ⟨Bh, 1, none⟩ (.int .u64 (lm topN 0 : Nat))).setCell ⟨Bh, 2, none⟩ (.int .u64 (lm topN 1 : Nat))).setCell ⟨Bh, 3, none⟩ (.int .u64 (lm topN 2 : Nat))).setCell ⟨Bh, 4, none⟩ (.int .u64 (lm topN 3 : Nat))) = w4 at *
        obtain ⟨_, _, _, _, _, _, _, _, _, _, _, _⟩ := E4.out.x.all; obtain ⟨_, _, _, _, _⟩ := E4.out.r1.all; obtain ⟨_, _, _, _, _⟩ := E4.out.r2.all; obtain ⟨_, _, _, _, _⟩ := E4.out.l.all; obtain ⟨_, _, _, _, _⟩ := E4.out.h.all
        repeat any_goals (first | go_skip | go_guarded | go_step | go_upon | (simp only []; done))
        have n1 := E4.out.ne.1; have n2 := E4.out.ne.2.1; have n3 := E4.out.ne.2.2.1; have n4 := E4.out.ne.2.2.2.1; have n5 := E4.out.ne.2.2.2.2.1; have n6 := E4.out.ne.2.2.2.2.2
        go_region
        all_goals (repeat any_goals (first | go_skip | go_guarded | go_step | go_upon | (simp only []; done)))
        all_goals (exact bodyPost_ret (v := .tuple #[.agg #[.bool (true ), .int .u64 (lm ( topN) 0 : Nat), .int .u64 (lm ( topN) 1 : Nat), .int .u64 (lm ( topN) 2 : Nat), .int .u64 (lm ( topN) 3 : Nat)], .agg #[.bool (false ), .int .u64 (lm ( topN) 0 : Nat), .int .u64 (lm ( topN) 1 : Nat), .int .u64 (lm ( topN) 2 : Nat), .int .u64 (lm ( topN) 3 : Nat)]]) (by simp [results, Tryz.results19, go_sem, *]) rfl ⟨rfl, by have hW := E4.out.b; (repeat first | with_reducible exact Below.refl _ _ | with_reducible assumption | with_reducible refine Below.drew ?_ | with_reducible refine below_alloc ?_ _ | ((with_reducible refine Below.setCell ?_ ?_ _); rotate_left; (focus (first | with_reducible exact Nat.le_refl _ | (simp; done) | (simp; omega) | omega))) | (with_reducible refine below_trans ?_ (by assumption)))⟩)
theorem ends_iv (s : Sp) : zI (eln s.hl s.nl) (elv s.hl s.vl) = s.iv.1 ∧ zI (ehn s.hh s.nh) (elv s.hh s.vh) = s.iv.2 := by
  obtain ⟨hl, hh, nl, vl, nh, vh⟩ := s
  cases hl <;> cases hh <;> exact ⟨rfl, rfl⟩
theorem ends_may {s : Sp} (h : mayS s = true) : mayI (eln s.hl s.nl) (elv s.hl s.vl) = true ∧ mayI (ehn s.hh s.nh) (elv s.hh s.vh) = true := by
  have hm := mayS_n h
  obtain ⟨hl, hh, nl, vl, nh, vh⟩ := s
  cases hl <;> cases hh
  · exact ⟨may_topT, rfl⟩
  · exact ⟨may_topT, hm.2⟩
  · exact ⟨hm.1, rfl⟩
  · exact ⟨hm.1, hm.2⟩
theorem elv_lt {b : Bool} {V : Nat} (h : V < 2 ^ 256) : elv b V < 2 ^ 256 := by
  unfold elv
  split
  · exact h
  · exact topN_lt
end Go.Proofs.YtekeedjhaakbhaaGreatDoor
