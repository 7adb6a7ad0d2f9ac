/- Contracts: slices.Equal of names; Same of the program. -/
import Derived.Test.YtminijokbeclhaaDoorCmpV
import Derived.Test.YtminijokbeclhaaDoorVSame
import Derived.LoopN
namespace Go.Proofs.YtminijokbeclhaaDoor
open Go.RowKit
theorem keys_list {keys keysB : Nat → ByteArray} : ∀ {n : Nat}, decide ((List.range n).map keys = (List.range n).map keysB) = !anyN (fun i => decide (keys i ≠ keysB i)) n := by
  intro n
  induction n with
  | zero => rfl
  | succ n ih =>
    simp only [anyN, List.range_succ, List.map_append, List.map_cons, List.map_nil, Bool.not_or, ← ih]
    by_cases h : (List.range n).map keys = (List.range n).map keysB
    · rw [h]
      by_cases h2 : keys n = keysB n <;> simp [h2]
    · rw [decide_eq_false h, Bool.false_and]
      refine decide_eq_false fun h2 => h ?_
      exact (List.append_inj h2 (by simp)).1
theorem EqualK_any (aK : Option Addr) (nK cK : Nat) (keys : Nat → ByteArray) (aKB : Option Addr) (nKB cKB : Nat) (keysB : Nat → ByteArray) (w : World) (hcK : cK ≤ maxLen) (hlK : nK ≤ cK) (_hcKB : cKB ≤ maxLen) (_hlKB : nKB ≤ cKB)
    (hK : nK = 0 ∨ ∃ b off, aK = some ⟨b, off, none⟩ ∧ b < w.heap.size ∧ ∀ i, i < nK → w.cell? ⟨b, off + i, none⟩ = some (.string (keys i)) ∧ (keys i).size ≤ maxLen) (hKB : nKB = 0 ∨ ∃ b off, aKB = some ⟨b, off, none⟩ ∧ b < w.heap.size ∧ ∀ i, i < nKB → w.cell? ⟨b, off + i, none⟩ = some (.string (keysB i)) ∧ (keysB i).size ≤ maxLen) :
    Calls Tryd.prog 45 #[.slice aK nK cK, .slice aKB nKB cKB] w fun e w' => e = .returned (.bool (decide (nK = nKB) && !anyN (fun i => decide (keys i ≠ keysB i)) nK)) ∧ Below w.heap.size w w' := by
  simp only [maxLen] at hcK _hcKB
  by_cases hn : nK = nKB
  · subst hn
    by_cases h0 : nK = 0
    · subst h0
      exact (Tryd.slices_Equal_string_empty aK aKB cK 0 cKB w (by omega)).mono fun e w' ⟨h1, h2⟩ => ⟨by rw [h1]; rfl, by rw [h2]; exact Below.refl _ _⟩
    · rcases hK with h | ⟨b, off, rfl, hb, hc⟩
      · omega
      rcases hKB with h | ⟨b2, off2, rfl, hb2, hc2⟩
      · omega
      have hg : ∀ (f : Nat → ByteArray) (j : Nat), j < ((List.range nK).map f).length → ((List.range nK).map f).getD j ByteArray.empty = f j := fun f j hj => by
        simp at hj
        simp [hj]
      refine (Tryd.slices_Equal_string b off nK cK b2 off2 nK cKB ((List.range nK).map keys) ((List.range nK).map keysB) w (by simp) (by simp) (by omega) (by omega) (fun j hj => ?_) (fun j hj => ?_)).mono fun e w' ⟨h1, q, h2⟩ => ⟨?_, by rw [h2]; exact below_drewN (Below.refl _ _) q⟩
      · rw [hg keys j hj]; exact (hc j (by simpa using hj)).1
      · rw [hg keysB j hj]; exact (hc2 j (by simpa using hj)).1
      · rw [h1, decide_eq_true rfl, Bool.true_and, ← keys_list, List.take_of_length_le (by simp), List.take_of_length_le (by simp)]
  · exact (Tryd.slices_Equal_string_lens aK aKB nK cK nKB cKB w hn).mono fun e w' ⟨h1, h2⟩ => ⟨by rw [h1, decide_eq_false hn]; rfl, by rw [h2]; exact Below.refl _ _⟩
theorem eg_Same (args : Array Value) (W : World) : (callFunc 27 args).run Tryd.prog W = .ok (.enter 27 args) W := enters_of Tryd.func27 (by kernel_rfl) rfl args W
set_option maxRecDepth 20000 in
set_option maxHeartbeats 4000000 in
theorem PSame_any : ∀ (T U : VT) (w : World), T.In w → U.In w → Calls Tryd.prog 27 #[T.agg, U.agg] w fun e w' => e = .returned (.bool (T.sameB U)) ∧ Below w.heap.size w w' := by
  intro T
  induction T with
  | nil => exact fun U w h => h.elim
  | mk kind neg V bits text aL nL cL kids aK nK cK keys ih =>
    intro U w hin hinB
    cases U with
    | nil => exact hinB.elim
    | mk kindB negB VB bitsB textB aLB nLB cLB kidsB aKB nKB cKB keysB =>
    obtain ⟨o, hL, hk, hKy⟩ := hin
    obtain ⟨oB, hLB, hkB, hKyB⟩ := hinB
    simp only [VT.agg, VT.cells, VT.sameB]
    obtain ⟨R, hR⟩ : ∃ R, R = (decide (kind = kindB) && decide (neg = negB ∧ V = VB) && decide (bits = bitsB) && decide (text = textB) && decide (nL = nLB) && decide (nK = nKB) && !anyN (fun i => decide (keys i ≠ keysB i)) nK && !anyN (fun i => !(kids i).sameB (kidsB i)) nL) := ⟨_, rfl⟩
    rw [← hR]
    have hz0 := eqSc_lm (k := kind) (s := neg) (s' := negB) (b := bits) (b' := bitsB) (t := text) (t' := textB) o.v oB.v
    obtain ⟨y, hy⟩ : ∃ y, y = (decide (nK = nKB) && !anyN (fun i => decide (keys i ≠ keysB i)) nK) := ⟨_, rfl⟩
    obtain ⟨x, hx⟩ : ∃ x, x = (decide (nL = nLB) && !anyN (fun i => !(kids i).sameB (kidsB i)) nL) := ⟨_, rfl⟩
    obtain ⟨zz, hzz⟩ : ∃ zz, zz = (decide (kind = kindB) && decide (neg = negB ∧ V = VB ∧ bits = bitsB ∧ text = textB)) := ⟨_, rfl⟩
    have hz : eqSc kind neg (lm V 0 : Nat) (lm V 1 : Nat) (lm V 2 : Nat) (lm V 3 : Nat) (bits : Nat) text kindB negB (lm VB 0 : Nat) (lm VB 1 : Nat) (lm VB 2 : Nat) (lm VB 3 : Nat) (bitsB : Nat) textB = zz := by
      by_cases c : kind = kindB
      · subst c
        rw [hz0, hzz]
        simp
      · rw [hzz, decide_eq_false c]
        unfold eqSc
        rw [show (kind == kindB) = false from beq_false_of_ne c]
        simp
    have hRR : R = (zz && y && x) := by
      rw [hR, hzz, hy, hx]
      cases decide (nK = nKB) <;> cases decide (nL = nLB) <;> cases anyN (fun i => decide (keys i ≠ keysB i)) nK <;> cases anyN (fun i => !(kids i).sameB (kidsB i)) nL <;> simp <;> (try (by_cases h1 : kind = kindB <;> by_cases h2 : neg = negB <;> by_cases h3 : V = VB <;> by_cases h4 : bits = bitsB <;> by_cases h5 : text = textB <;> simp [h1, h2, h3, h4, h5]))
    have hC1 : ∀ wr : World, Below w.heap.size w wr → Calls Tryd.prog 45 #[.slice aK nK cK, .slice aKB nKB cKB] wr fun e w' => e = .returned (.bool y) ∧ Below wr.heap.size wr w' := fun wr hb => by
      rw [hy]
      refine EqualK_any aK nK cK keys aKB nKB cKB keysB wr o.nc o.n oB.nc oB.n ?_ ?_
      · rcases hKy with h | ⟨b, off, h1, h2, h3⟩
        · exact .inl h
        · exact .inr ⟨b, off, h1, Nat.lt_of_lt_of_le h2 hb.size, fun i hi => ⟨keep_cell hb (h3 i hi).1, (h3 i hi).2⟩⟩
      · rcases hKyB with h | ⟨b, off, h1, h2, h3⟩
        · exact .inl h
        · exact .inr ⟨b, off, h1, Nat.lt_of_lt_of_le h2 hb.size, fun i hi => ⟨keep_cell hb (h3 i hi).1, (h3 i hi).2⟩⟩
    have hC2 : ∀ wr : World, Below w.heap.size w wr → Calls Tryd.prog 46 #[.slice aL nL cL, .slice aLB nLB cLB, .func (.func 27) #[] #[]] wr fun e w' => e = .returned (.bool x) ∧ Below wr.heap.size wr w' := fun wr hb => by
      rw [hx]
      refine EqualV_any _ eg_Same _ aL nL cL kids aLB nLB cLB kidsB wr o.lc o.l oB.lc oB.l ?_ (fun i hi => (hk i hi).below hb) ?_ (fun i hi => (hkB i hi).below hb) fun i hi hiB w' hb' => ih i _ w' (((hk i hi).below hb).below hb') (((hkB i hiB).below hb).below hb')
      · rcases hL with h | ⟨b, off, h1, h2, h3⟩
        · exact .inl h
        · exact .inr ⟨b, off, h1, Nat.lt_of_lt_of_le h2 hb.size, fun i hi j hj => by rw [hb.cell (p := ⟨b, off + i * 10 + j, none⟩) h2]; exact h3 i hi j hj⟩
      · rcases hLB with h | ⟨b, off, h1, h2, h3⟩
        · exact .inl h
        · exact .inr ⟨b, off, h1, Nat.lt_of_lt_of_le h2 hb.size, fun i hi j hj => by rw [hb.cell (p := ⟨b, off + i * 10 + j, none⟩) h2]; exact h3 i hi j hj⟩
    have C1 := Lib.hid hC1
    have C2 := Lib.hid hC2
    clear hC1 hC2 hR hy hx hzz hz0 ih hL hk hKy hLB hkB hKyB o oB
    subst hRR
    obtain ⟨W0, hW0⟩ : ∃ W0, W0 = (w.alloc (.cells #[.int .i64 kind, .bool neg, .int .u64 (lm V 0 : Nat), .int .u64 (lm V 1 : Nat), .int .u64 (lm V 2 : Nat), .int .u64 (lm V 3 : Nat), .int .u64 (bits : Nat), .string text, .slice aL nL cL, .slice aK nK cK] 30)).alloc (.cells #[.int .i64 kindB, .bool negB, .int .u64 (lm VB 0 : Nat), .int .u64 (lm VB 1 : Nat), .int .u64 (lm VB 2 : Nat), .int .u64 (lm VB 3 : Nat), .int .u64 (bitsB : Nat), .string textB, .slice aLB nLB cLB, .slice aKB nKB cKB] 30) := ⟨_, rfl⟩
    have Va := Lib.hid (show VBx W0 w.heap.size kind neg V bits text aL nL cL aK nK cK by rw [hW0]; exact ⟨by simp [go_sem]⟩)
    have Vb := Lib.hid (show VBx W0 (w.heap.size + 1) kindB negB VB bitsB textB aLB nLB cLB aKB nKB cKB by rw [hW0]; exact ⟨by simp [go_sem]⟩)
    have hB0 : Below w.heap.size w W0 := by rw [hW0]; (repeat first | with_reducible exact Below.refl _ _ | with_reducible assumption | with_reducible refine Below.drew ?_ | with_reducible refine below_alloc ?_ _ | ((with_reducible refine Below.setCell ?_ ?_ _); rotate_left; (focus (first | with_reducible exact Nat.le_refl _ | (simp; done) | (simp; omega) | omega))) | (with_reducible refine below_trans ?_ (by assumption)))
    have HW := Lib.hid hW0
    clear hW0
    go_enter Tryd.func27, Tryd.ntmps27
    go_upto_region 1 with fail
    rw [← HW.out]
    clear HW
    cases zz with
    | false =>
      (obtain ⟨C_, hC⟩ : ∃ C : World → Prop, C = fun w' => Below (W0).heap.size (W0) w' := ⟨_, rfl⟩; have HC := Lib.hid hC; have hne : ∀ p : Prop, (∀ w1 : World, C_ w1 → p) = p := fun p => propext ⟨fun h => h (W0) (by rw [hC]; exact Below.refl _ _), fun h _ _ => h⟩; clear hC; refine wp_region_quiet_cls (C := C_) (by kernel_rfl) (by kernel_rfl) (by rw [HC.out]; exact (Below.refl _ _).drew) ?_)
      (go_big_quiet_want; refine ⟨.agg #[.int .i64 kind, .bool neg, .int .u64 (lm V 0 : Nat), .int .u64 (lm V 1 : Nat), .int .u64 (lm V 2 : Nat), .int .u64 (lm V 3 : Nat), .int .u64 (bits : Nat), .string text, .slice aL nL cL, .slice aK nK cK], fun w1 hw1 => ?_, ?_⟩; (rw [HC.out] at hw1; obtain ⟨_, _, _, _, _⟩ := (Va.out.below hw1).all; simp [Oper.quietAt, go_sem, *]); (try simp only [Act.put, List.setIfInBounds_toArray, List.set_cons_zero, List.set_cons_succ]); go_big_quiet_on)
      (go_big_quiet_want; go_big_quiet_op; refine ⟨.agg #[.int .i64 (kind), .bool (neg), .int .u64 (lm (V) 0 : Nat), .int .u64 (lm (V) 1 : Nat), .int .u64 (lm (V) 2 : Nat), .int .u64 (lm (V) 3 : Nat), .int .u64 ((bits : Nat)), .string (text)], fun w1 hw1 => ?_, ?_⟩; (rw [HC.out] at hw1 ⊢; with_reducible refine (VOf_any kind neg V bits text aL nL cL aK nK cK _).mono ?_; rintro e w4 ⟨rfl, hb4⟩; exact ⟨rfl, below_trans hw1 hb4⟩); go_big_quiet_on)
      (go_big_quiet_want; refine ⟨.agg #[.int .i64 kindB, .bool negB, .int .u64 (lm VB 0 : Nat), .int .u64 (lm VB 1 : Nat), .int .u64 (lm VB 2 : Nat), .int .u64 (lm VB 3 : Nat), .int .u64 (bitsB : Nat), .string textB, .slice aLB nLB cLB, .slice aKB nKB cKB], fun w1 hw1 => ?_, ?_⟩; (rw [HC.out] at hw1; obtain ⟨_, _, _, _, _⟩ := (Vb.out.below hw1).all; simp [Oper.quietAt, go_sem, *]); (try simp only [Act.put, List.setIfInBounds_toArray, List.set_cons_zero, List.set_cons_succ]); go_big_quiet_on)
      (go_big_quiet_want; go_big_quiet_op; refine ⟨.agg #[.int .i64 (kindB), .bool (negB), .int .u64 (lm (VB) 0 : Nat), .int .u64 (lm (VB) 1 : Nat), .int .u64 (lm (VB) 2 : Nat), .int .u64 (lm (VB) 3 : Nat), .int .u64 ((bitsB : Nat)), .string (textB)], fun w1 hw1 => ?_, ?_⟩; (rw [HC.out] at hw1 ⊢; with_reducible refine (VOf_any kindB negB VB bitsB textB aLB nLB cLB aKB nKB cKB _).mono ?_; rintro e w4 ⟨rfl, hb4⟩; exact ⟨rfl, below_trans hw1 hb4⟩); go_big_quiet_on)
      (go_big_quiet_want; go_big_quiet_op; go_big_quiet_on)
      (go_big_quiet_want; go_big_quiet_op; go_big_quiet_on)
      go_big_quiet_skip
      go_big_quiet_skip
      go_big_quiet_skip
      go_big_quiet_skip
      go_big_quiet_skip
      (go_big_quiet_want; go_big_quiet_op; go_big_quiet_on)
      (go_big_quiet_want; go_big_quiet_op; go_big_quiet_on)
      go_big_quiet_skip
      go_big_quiet_skip
      go_big_quiet_skip
      go_big_quiet_skip
      go_big_quiet_skip
      (go_big_quiet_want; go_big_quiet_op; go_big_quiet_on)
      (go_big_quiet_want; go_big_quiet_op; go_big_quiet_on)
      (refine wpQuiet_nil ?_; intro w2 hw2; rw [HC.out] at hw2)
      repeat any_goals (first | go_skip | go_guarded | go_step | go_upon | (simp only []; done))
      exact bodyPost_ret (v := .bool false) (by simp [results, Tryd.results27, go_sem]) rfl ⟨rfl, below_trans hB0 hw2⟩
    | true =>
      cases y with
      | false =>
        (obtain ⟨C_, hC⟩ : ∃ C : World → Prop, C = fun w' => Below (W0).heap.size (W0) w' := ⟨_, rfl⟩; have HC := Lib.hid hC; have hne : ∀ p : Prop, (∀ w1 : World, C_ w1 → p) = p := fun p => propext ⟨fun h => h (W0) (by rw [hC]; exact Below.refl _ _), fun h _ _ => h⟩; clear hC; refine wp_region_quiet_cls (C := C_) (by kernel_rfl) (by kernel_rfl) (by rw [HC.out]; exact (Below.refl _ _).drew) ?_)
        (go_big_quiet_want; refine ⟨.agg #[.int .i64 kind, .bool neg, .int .u64 (lm V 0 : Nat), .int .u64 (lm V 1 : Nat), .int .u64 (lm V 2 : Nat), .int .u64 (lm V 3 : Nat), .int .u64 (bits : Nat), .string text, .slice aL nL cL, .slice aK nK cK], fun w1 hw1 => ?_, ?_⟩; (rw [HC.out] at hw1; obtain ⟨_, _, _, _, _⟩ := (Va.out.below hw1).all; simp [Oper.quietAt, go_sem, *]); (try simp only [Act.put, List.setIfInBounds_toArray, List.set_cons_zero, List.set_cons_succ]); go_big_quiet_on)
        (go_big_quiet_want; go_big_quiet_op; refine ⟨.agg #[.int .i64 (kind), .bool (neg), .int .u64 (lm (V) 0 : Nat), .int .u64 (lm (V) 1 : Nat), .int .u64 (lm (V) 2 : Nat), .int .u64 (lm (V) 3 : Nat), .int .u64 ((bits : Nat)), .string (text)], fun w1 hw1 => ?_, ?_⟩; (rw [HC.out] at hw1 ⊢; with_reducible refine (VOf_any kind neg V bits text aL nL cL aK nK cK _).mono ?_; rintro e w4 ⟨rfl, hb4⟩; exact ⟨rfl, below_trans hw1 hb4⟩); go_big_quiet_on)
        (go_big_quiet_want; refine ⟨.agg #[.int .i64 kindB, .bool negB, .int .u64 (lm VB 0 : Nat), .int .u64 (lm VB 1 : Nat), .int .u64 (lm VB 2 : Nat), .int .u64 (lm VB 3 : Nat), .int .u64 (bitsB : Nat), .string textB, .slice aLB nLB cLB, .slice aKB nKB cKB], fun w1 hw1 => ?_, ?_⟩; (rw [HC.out] at hw1; obtain ⟨_, _, _, _, _⟩ := (Vb.out.below hw1).all; simp [Oper.quietAt, go_sem, *]); (try simp only [Act.put, List.setIfInBounds_toArray, List.set_cons_zero, List.set_cons_succ]); go_big_quiet_on)
        (go_big_quiet_want; go_big_quiet_op; refine ⟨.agg #[.int .i64 (kindB), .bool (negB), .int .u64 (lm (VB) 0 : Nat), .int .u64 (lm (VB) 1 : Nat), .int .u64 (lm (VB) 2 : Nat), .int .u64 (lm (VB) 3 : Nat), .int .u64 ((bitsB : Nat)), .string (textB)], fun w1 hw1 => ?_, ?_⟩; (rw [HC.out] at hw1 ⊢; with_reducible refine (VOf_any kindB negB VB bitsB textB aLB nLB cLB aKB nKB cKB _).mono ?_; rintro e w4 ⟨rfl, hb4⟩; exact ⟨rfl, below_trans hw1 hb4⟩); go_big_quiet_on)
        (go_big_quiet_want; go_big_quiet_op; go_big_quiet_on)
        (go_big_quiet_want; go_big_quiet_op; go_big_quiet_on)
        (go_big_quiet_want; go_big_quiet_op; go_big_quiet_on)
        (go_big_quiet_want; refine ⟨.slice aK nK cK, fun w1 hw1 => ?_, ?_⟩; (rw [HC.out] at hw1; obtain ⟨_, _, _, _, _⟩ := (Va.out.below hw1).all; simp [Oper.quietAt, go_sem, *]); (try simp only [Act.put, List.setIfInBounds_toArray, List.set_cons_zero, List.set_cons_succ]); go_big_quiet_on)
        (go_big_quiet_want; go_big_quiet_op; go_big_quiet_on)
        (go_big_quiet_want; refine ⟨.slice aKB nKB cKB, fun w1 hw1 => ?_, ?_⟩; (rw [HC.out] at hw1; obtain ⟨_, _, _, _, _⟩ := (Vb.out.below hw1).all; simp [Oper.quietAt, go_sem, *]); (try simp only [Act.put, List.setIfInBounds_toArray, List.set_cons_zero, List.set_cons_succ]); go_big_quiet_on)
        (go_big_quiet_want; go_big_quiet_op; refine ⟨.bool false, fun w1 hw1 => ?_, ?_⟩; (rw [HC.out] at hw1 ⊢; with_reducible refine (C1.out _ (below_trans hB0 hw1)).mono ?_; rintro e w4 ⟨rfl, hb4⟩; exact ⟨rfl, below_trans hw1 hb4⟩); go_big_quiet_on)
        (go_big_quiet_want; go_big_quiet_op; go_big_quiet_on)
        (go_big_quiet_want; go_big_quiet_op; go_big_quiet_on)
        go_big_quiet_skip
        go_big_quiet_skip
        go_big_quiet_skip
        go_big_quiet_skip
        go_big_quiet_skip
        (go_big_quiet_want; go_big_quiet_op; go_big_quiet_on)
        (go_big_quiet_want; go_big_quiet_op; go_big_quiet_on)
        (refine wpQuiet_nil ?_; intro w2 hw2; rw [HC.out] at hw2)
        repeat any_goals (first | go_skip | go_guarded | go_step | go_upon | (simp only []; done))
        exact bodyPost_ret (v := .bool false) (by simp [results, Tryd.results27, go_sem]) rfl ⟨rfl, below_trans hB0 hw2⟩
      | true =>
        (obtain ⟨C_, hC⟩ : ∃ C : World → Prop, C = fun w' => Below (W0).heap.size (W0) w' := ⟨_, rfl⟩; have HC := Lib.hid hC; have hne : ∀ p : Prop, (∀ w1 : World, C_ w1 → p) = p := fun p => propext ⟨fun h => h (W0) (by rw [hC]; exact Below.refl _ _), fun h _ _ => h⟩; clear hC; refine wp_region_quiet_cls (C := C_) (by kernel_rfl) (by kernel_rfl) (by rw [HC.out]; exact (Below.refl _ _).drew) ?_)
        (go_big_quiet_want; refine ⟨.agg #[.int .i64 kind, .bool neg, .int .u64 (lm V 0 : Nat), .int .u64 (lm V 1 : Nat), .int .u64 (lm V 2 : Nat), .int .u64 (lm V 3 : Nat), .int .u64 (bits : Nat), .string text, .slice aL nL cL, .slice aK nK cK], fun w1 hw1 => ?_, ?_⟩; (rw [HC.out] at hw1; obtain ⟨_, _, _, _, _⟩ := (Va.out.below hw1).all; simp [Oper.quietAt, go_sem, *]); (try simp only [Act.put, List.setIfInBounds_toArray, List.set_cons_zero, List.set_cons_succ]); go_big_quiet_on)
        (go_big_quiet_want; go_big_quiet_op; refine ⟨.agg #[.int .i64 (kind), .bool (neg), .int .u64 (lm (V) 0 : Nat), .int .u64 (lm (V) 1 : Nat), .int .u64 (lm (V) 2 : Nat), .int .u64 (lm (V) 3 : Nat), .int .u64 ((bits : Nat)), .string (text)], fun w1 hw1 => ?_, ?_⟩; (rw [HC.out] at hw1 ⊢; with_reducible refine (VOf_any kind neg V bits text aL nL cL aK nK cK _).mono ?_; rintro e w4 ⟨rfl, hb4⟩; exact ⟨rfl, below_trans hw1 hb4⟩); go_big_quiet_on)
        (go_big_quiet_want; refine ⟨.agg #[.int .i64 kindB, .bool negB, .int .u64 (lm VB 0 : Nat), .int .u64 (lm VB 1 : Nat), .int .u64 (lm VB 2 : Nat), .int .u64 (lm VB 3 : Nat), .int .u64 (bitsB : Nat), .string textB, .slice aLB nLB cLB, .slice aKB nKB cKB], fun w1 hw1 => ?_, ?_⟩; (rw [HC.out] at hw1; obtain ⟨_, _, _, _, _⟩ := (Vb.out.below hw1).all; simp [Oper.quietAt, go_sem, *]); (try simp only [Act.put, List.setIfInBounds_toArray, List.set_cons_zero, List.set_cons_succ]); go_big_quiet_on)
        (go_big_quiet_want; go_big_quiet_op; refine ⟨.agg #[.int .i64 (kindB), .bool (negB), .int .u64 (lm (VB) 0 : Nat), .int .u64 (lm (VB) 1 : Nat), .int .u64 (lm (VB) 2 : Nat), .int .u64 (lm (VB) 3 : Nat), .int .u64 ((bitsB : Nat)), .string (textB)], fun w1 hw1 => ?_, ?_⟩; (rw [HC.out] at hw1 ⊢; with_reducible refine (VOf_any kindB negB VB bitsB textB aLB nLB cLB aKB nKB cKB _).mono ?_; rintro e w4 ⟨rfl, hb4⟩; exact ⟨rfl, below_trans hw1 hb4⟩); go_big_quiet_on)
        (go_big_quiet_want; go_big_quiet_op; go_big_quiet_on)
        (go_big_quiet_want; go_big_quiet_op; go_big_quiet_on)
        (go_big_quiet_want; go_big_quiet_op; go_big_quiet_on)
        (go_big_quiet_want; refine ⟨.slice aK nK cK, fun w1 hw1 => ?_, ?_⟩; (rw [HC.out] at hw1; obtain ⟨_, _, _, _, _⟩ := (Va.out.below hw1).all; simp [Oper.quietAt, go_sem, *]); (try simp only [Act.put, List.setIfInBounds_toArray, List.set_cons_zero, List.set_cons_succ]); go_big_quiet_on)
        (go_big_quiet_want; go_big_quiet_op; go_big_quiet_on)
        (go_big_quiet_want; refine ⟨.slice aKB nKB cKB, fun w1 hw1 => ?_, ?_⟩; (rw [HC.out] at hw1; obtain ⟨_, _, _, _, _⟩ := (Vb.out.below hw1).all; simp [Oper.quietAt, go_sem, *]); (try simp only [Act.put, List.setIfInBounds_toArray, List.set_cons_zero, List.set_cons_succ]); go_big_quiet_on)
        (go_big_quiet_want; go_big_quiet_op; refine ⟨.bool true, fun w1 hw1 => ?_, ?_⟩; (rw [HC.out] at hw1 ⊢; with_reducible refine (C1.out _ (below_trans hB0 hw1)).mono ?_; rintro e w4 ⟨rfl, hb4⟩; exact ⟨rfl, below_trans hw1 hb4⟩); go_big_quiet_on)
        (go_big_quiet_want; go_big_quiet_op; go_big_quiet_on)
        (go_big_quiet_want; go_big_quiet_op; go_big_quiet_on)
        (go_big_quiet_want; go_big_quiet_op; go_big_quiet_on)
        (go_big_quiet_want; refine ⟨.slice aL nL cL, fun w1 hw1 => ?_, ?_⟩; (rw [HC.out] at hw1; obtain ⟨_, _, _, _, _⟩ := (Va.out.below hw1).all; simp [Oper.quietAt, go_sem, *]); (try simp only [Act.put, List.setIfInBounds_toArray, List.set_cons_zero, List.set_cons_succ]); go_big_quiet_on)
        (go_big_quiet_want; go_big_quiet_op; go_big_quiet_on)
        (go_big_quiet_want; refine ⟨.slice aLB nLB cLB, fun w1 hw1 => ?_, ?_⟩; (rw [HC.out] at hw1; obtain ⟨_, _, _, _, _⟩ := (Vb.out.below hw1).all; simp [Oper.quietAt, go_sem, *]); (try simp only [Act.put, List.setIfInBounds_toArray, List.set_cons_zero, List.set_cons_succ]); go_big_quiet_on)
        (go_big_quiet_want; go_big_quiet_op; refine ⟨.bool x, fun w1 hw1 => ?_, ?_⟩; (rw [HC.out] at hw1 ⊢; with_reducible refine (C2.out _ (below_trans hB0 hw1)).mono ?_; rintro e w4 ⟨rfl, hb4⟩; exact ⟨rfl, below_trans hw1 hb4⟩); go_big_quiet_on)
        (go_big_quiet_want; go_big_quiet_op; go_big_quiet_on)
        (go_big_quiet_want; go_big_quiet_op; go_big_quiet_on)
        (refine wpQuiet_nil ?_; intro w2 hw2; rw [HC.out] at hw2)
        repeat any_goals (first | go_skip | go_guarded | go_step | go_upon | (simp only []; done))
        exact bodyPost_ret (v := .bool x) (by simp [results, Tryd.results27, go_sem]) rfl ⟨rfl, below_trans hB0 hw2⟩
end Go.Proofs.YtminijokbeclhaaDoor
