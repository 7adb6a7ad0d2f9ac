/- The law SpanForms. -/
import Derived.Test.YtekeedjhaakbhaaDoorFormR
import Derived.Test.YtekeedjhaakbhaaDoorAppC
namespace Go.Proofs.YtekeedjhaakbhaaDoor
open Go Go.RowKit
section
variable {P : Program} {w : World}
theorem step_append_any {ops : Array Oper} {o : Oper} {a : Act} {K : Act → World → Prop} {Q : Exit → Act → World → Prop} {E : Prop} (hg : o.guard = none) (s x : Operand) (t : TypeId)
    (ho : o.op = .call { callee := .builtin .append, args := #[s, x], argTypes := #[t, t] })
    (base : Nat) (e : TypeId) (i : TypeInfo) (z : Value) (size bytes : Nat) (ht : P.underlying t = some (.slice e)) (hi : P.info? e = some i) (hz : i.zero = some z)
    (hsize : i.size = size) (hby : i.bytes = bytes) (hzs : z.cells.size = size) (hsz : 0 < size)
    (v : Value) (n : Nat) (xs : List Value) (hs : a.eval s = v) (hown : w.ownsRow base e size v n xs)
    (xv : Value) (m : Nat) (news : List Value) (hx : a.eval x = xv) (hsrc : SrcOk w xv m size news)
    (h63 : n + m ≤ maxLen) (hbytes : (n + m) * bytes ≤ 140737488355328) (hbase : base ≤ w.heap.size)
    (h : ∀ v' w', w'.ownsRow base e size v' (n + m) (xs ++ news) → w.grownBy w' v.ownBlock → K (a.put o.dst v') w') :
    if Region.wanted o (yielded ops a.tmps) = true then Oper.wp P o a w K Q else E := by
  have hw : Region.wanted o (yielded ops a.tmps) = true := by simp [Region.wanted, hg]
  rw [if_pos hw]
  exact wp_append_any s x t ho base e i z size bytes ht hi hz hsize hby hzs hsz v n xs hs hown xv m news hx hsrc h63 hbytes hbase h
end
theorem form_grown {w wr w1 w2 : World} {T n : Nat} {v : Value} {xs : List Value} (h : Below w.heap.size w wr) (h1 : Below w.heap.size w w1) (hg : w1.grownBy w2 v.ownBlock) {wo : World} (ho : wo.ownsRow wr.heap.size T 12 v n xs) : Below w.heap.size w w2 :=
  h1.grown hg h1.size (fun k hk => by have := (ho.lt k hk).1; have := h.size; omega)
theorem src_zero {w : World} {size : Nat} (x : Option Addr) (y : Nat) : SrcOk w (.slice x 0 y) 0 size [] := by
  cases x with
  | none => exact .inr ⟨y, rfl, rfl, rfl⟩
  | some ad => exact .inl ⟨ad, y, rfl, by simp, fun j u hj => by simp at hj, fun u hu => by cases hu⟩
theorem stepUp_any (n : Bool) (V : Nat) (hV : V < 2 ^ 256) (w : World) :
    Calls Tryd.prog 13 #[.agg #[.bool (n ), .int .u64 (lm ( V) 0 : Nat), .int .u64 (lm ( V) 1 : Nat), .int .u64 (lm ( V) 2 : Nat), .int .u64 (lm ( V) 3 : Nat)], .bool true] w fun e w' => e = .returned (.tuple #[.agg #[.bool (sg (nx 1 n V) ), .int .u64 (lm ( ab (nx 1 n V)) 0 : Nat), .int .u64 (lm ( ab (nx 1 n V)) 1 : Nat), .int .u64 (lm ( ab (nx 1 n V)) 2 : Nat), .int .u64 (lm ( ab (nx 1 n V)) 3 : Nat)], .bool (nxOk 1 n V)]) ∧ Below w.heap.size w w' := by
  have h := RStep_any n true V hV w
  rw [if_pos rfl] at h
  exact h
set_option maxRecDepth 20000 in
set_option maxHeartbeats 8000000 in
theorem SpanForms_any (a : Option Addr) (n c : Nat) (S : Nat → Sp) (turn : Int) (w : World) (h : SRow w a n c S) (_ht0 : -9223372036854775808 ≤ turn) (_ht1 : turn < 9223372036854775808) (hT : Tabs w) :
    Calls Tryd.prog 3 #[.slice a n c, .int .i64 turn] w fun e w' => e = .returned (.bool true) ∧ Below w.heap.size w w' := by
  have H := Lib.hid h
  have HT := Lib.hid hT
  have hl := h.l
  have hlc := h.lc
  simp only [maxLen] at hlc
  obtain ⟨R, hR⟩ : ∃ R, R = mayR S n := ⟨_, rfl⟩
  have FW := Lib.hid fun wx => few_any a none n c 0 0 wx (by omega) (by omega)
  have M := Lib.hid fun wx (hx : SRow wx a n c S) => RMayS_any a n c S wx hx
  rw [← hR] at M
  have HR := Lib.hid hR
  have TL := Lib.hid fun wx (hb : Below w.heap.size w wx) => told_any wx (HT.out.below hb)
  clear h hT hR
  by_cases h12 : n ≤ 12
  · rw [decide_eq_true h12, decide_eq_true (Nat.zero_le 12), Bool.and_true] at FW
    cases R with
    | false =>
      go_enter Tryd.func3, Tryd.ntmps3
      repeat any_goals (first | (go_at_call 8; with_reducible refine (FW.out _).mono ?_; rintro e w1 ⟨rfl, hb1⟩) | (go_at_call 9; with_reducible refine (M.out _ (H.out.below hb1)).mono ?_; rintro e w2 ⟨rfl, hb2⟩) | (go_at_call 10; with_reducible refine (TL.out _ (by (repeat first | with_reducible exact Below.refl _ _ | with_reducible assumption | with_reducible refine Below.drew ?_ | with_reducible refine below_alloc ?_ _ | ((with_reducible refine Below.setCell ?_ ?_ _); rotate_left; (focus (first | with_reducible exact Nat.le_refl _ | (simp; done) | (simp; omega) | omega))) | (with_reducible refine below_trans ?_ (by assumption))))).mono ?_; rintro e w3 ⟨rfl, hb3⟩) | go_skip | go_guarded | go_step | go_upon | (dsimp only []))
      exact bodyPost_ret (v := .bool true) (by simp [results, Tryd.results3, go_sem]) rfl ⟨rfl, by (repeat first | with_reducible exact Below.refl _ _ | with_reducible assumption | with_reducible refine Below.drew ?_ | with_reducible refine below_alloc ?_ _ | ((with_reducible refine Below.setCell ?_ ?_ _); rotate_left; (focus (first | with_reducible exact Nat.le_refl _ | (simp; done) | (simp; omega) | omega))) | (with_reducible refine below_trans ?_ (by assumption)))⟩
    | true =>
      obtain ⟨i0, hi, hz0, hz1, hz2⟩ := info_parts infoS
      go_enter Tryd.func3, Tryd.ntmps3
      repeat any_goals (first | (go_at_call 8; with_reducible refine (FW.out _).mono ?_; rintro e w1 ⟨rfl, hb1⟩) | (go_at_call 9; with_reducible refine (M.out _ (H.out.below hb1)).mono ?_; rintro e w2 ⟨rfl, hb2⟩) | go_skip | go_guarded | go_step | go_upon | (dsimp only []))
      have hw2 : Below w.heap.size w w2 := hb1.trans (below_weak hb2 hb1.size)
      refine (Norm_any a n c S w2 (H.out.below hw2) (by omega)).mono ?_
      rintro e w3 ⟨v3, rfl, h3⟩
      obtain ⟨a3, c3, ls, rfl, r3, f3, hlen, hb3⟩ := h3.row
      dsimp only []
      have hw3 : Below w.heap.size w w3 := hw2.trans (below_weak hb3 hw2.size)
      obtain ⟨m, hm⟩ : ∃ m, m = ls.length := ⟨_, rfl⟩
      have FO := Lib.hid fun (k : Nat) (hk : k < ls.length) => form_one f3.nf hk
      have FT := Lib.hid fun (k : Nat) (hk : k + 1 < ls.length) (p s : Sp) (hp : nthS (ls.map opS) k = p) (hs : nthS (ls.map opS) (k + 1) = s) => form_two f3.nf hk hp hs
      have F3 := Lib.hid f3
      rw [← hm] at r3 FO FT hlen ⊢
      have R3 := Lib.hid r3
      have HMl := Lib.hid hm
      have HW3 := Lib.hid hw3
      clear hb1 hb2 hb3 hw2 r3 f3 hm hw3
      repeat any_goals (first | go_skip | go_guarded | go_step | go_upon | (simp only []; done))
      go_loopw [6] (fun i wr => ∃ k : Nat, k ≤ m ∧ i = .int .i64 k ∧ Below w3.heap.size w3 wr) (fun i _ => m - (intOf i).toNat)
      case atStart => exact ⟨0, Nat.zero_le _, rfl, Below.refl _ _⟩
      case round =>
        obtain ⟨k, hk, rfl, hW⟩ := hrel
        by_cases hkm : k < m
        · obtain ⟨b, off, hl', hh', nl, vl, nh, vh, e3, hb, hs, hc, hvl, hvh⟩ := sp_lit R3.out hkm hW
          subst e3
          have F1 := FO.out k hkm
          rw [hs] at F1
          have HF := Lib.hid F1
          have HS := Lib.hid hs
          obtain ⟨_, _, _, _, _, _, _, _, _, _, _, _⟩ := hc.all
          have i1 : (k : Int) < (m : Int) := by omega
          have i2 : (0 : Int) ≤ (k : Int) := by omega
          have i5 : (k : Int).toNat = k := rfl
          have i6 : wrap64 ((m : Int) - 1) = (m : Int) - 1 := by unfold wrap64; omega
          clear F1 hs hc
          by_cases h0 : k = 0
          · have i8 : ¬ (0 : Int) < (k : Int) := by omega
            have HK := Lib.hid h0
            clear h0
            cases hl' with
            | true =>
              cases hh' with
              | true =>
                obtain ⟨m1, m2, hz⟩ := HF.out.le rfl rfl
                obtain ⟨z1, hz1⟩ : ∃ z, cmpI nl vl nh vh = z := ⟨_, rfl⟩
                have C1 := Lib.hid fun wx => RCmp_any nl vl hvl nh vh hvh m1 m2 wx
                simp only at hz
                rw [hz1] at C1 hz
                have hz' : ¬ 0 < z1 := by omega
                clear hz1 m1 m2 hz
                repeat any_goals (first | (go_at_call 12; with_reducible refine (C1.out _).mono ?_; rintro e w4 ⟨rfl, hb4⟩; have X4 := Lib.hid (s12_hb hb4); obtain ⟨_, _, _, _, _, _, _, _, _, _, _, _⟩ := X4.out.all; have hw4 := Lib.hid (show Below wr.heap.size wr w4 from below_trans (by (repeat first | with_reducible exact Below.refl _ _ | with_reducible assumption | with_reducible refine Below.drew ?_ | with_reducible refine below_alloc ?_ _ | ((with_reducible refine Below.setCell ?_ ?_ _); rotate_left; (focus (first | with_reducible exact Nat.le_refl _ | (simp; done) | (simp; omega) | omega))) | (with_reducible refine below_trans ?_ (by assumption)))) hb4)) | go_skip | go_guarded | go_step | go_upon | (dsimp only []))
                go_roundw
                case rel => exact ⟨k + 1, by omega, rfl, by (repeat first | with_reducible exact Below.refl _ _ | with_reducible assumption | with_reducible refine Below.drew ?_ | with_reducible refine below_alloc ?_ _ | ((with_reducible refine Below.setCell ?_ ?_ _); rotate_left; (focus (first | with_reducible exact Nat.le_refl _ | (simp; done) | (simp; omega) | omega))) | (with_reducible refine below_trans ?_ (by assumption)))⟩
                case measure => simp [intOf]; omega
              | false =>
                have i9 : ¬ (k : Int) < (m : Int) - 1 := fun h => by have := HF.out.hi (by omega); cases this
                repeat any_goals (first | go_skip | go_guarded | go_step | go_upon | (simp only []; done))
                go_roundw
                case rel => exact ⟨k + 1, by omega, rfl, by (repeat first | with_reducible exact Below.refl _ _ | with_reducible assumption | with_reducible refine Below.drew ?_ | with_reducible refine below_alloc ?_ _ | ((with_reducible refine Below.setCell ?_ ?_ _); rotate_left; (focus (first | with_reducible exact Nat.le_refl _ | (simp; done) | (simp; omega) | omega))) | (with_reducible refine below_trans ?_ (by assumption)))⟩
                case measure => simp [intOf]; omega
            | false =>
              cases hh' with
              | true =>
                repeat any_goals (first | go_skip | go_guarded | go_step | go_upon | (simp only []; done))
                go_roundw
                case rel => exact ⟨k + 1, by omega, by (first | rfl | (rw [HK.out]; rfl)), by (repeat first | with_reducible exact Below.refl _ _ | with_reducible assumption | with_reducible refine Below.drew ?_ | with_reducible refine below_alloc ?_ _ | ((with_reducible refine Below.setCell ?_ ?_ _); rotate_left; (focus (first | with_reducible exact Nat.le_refl _ | (simp; done) | (simp; omega) | omega))) | (with_reducible refine below_trans ?_ (by assumption)))⟩
                case measure => simp [intOf]; omega
              | false =>
                have i9 : ¬ (k : Int) < (m : Int) - 1 := fun h => by have := HF.out.hi (by omega); cases this
                repeat any_goals (first | go_skip | go_guarded | go_step | go_upon | (simp only []; done))
                go_roundw
                case rel => exact ⟨k + 1, by omega, by (first | rfl | (rw [HK.out]; rfl)), by (repeat first | with_reducible exact Below.refl _ _ | with_reducible assumption | with_reducible refine Below.drew ?_ | with_reducible refine below_alloc ?_ _ | ((with_reducible refine Below.setCell ?_ ?_ _); rotate_left; (focus (first | with_reducible exact Nat.le_refl _ | (simp; done) | (simp; omega) | omega))) | (with_reducible refine below_trans ?_ (by assumption)))⟩
                case measure => simp [intOf]; omega
          · have i7 : (0 : Int) < (k : Int) := by omega
            have hkp : k - 1 + 1 = k := by omega
            obtain ⟨pb, po, phl, phh, pnl, pvl, pnh, pvh, e4, pbl, ps, pc, pv1, pv2⟩ := sp_lit R3.out (show k - 1 < m by omega) hW
            injection e4 with e4
            injection e4 with e5 e6 _
            subst e5 e6
            have T2 := FT.out (k - 1) (by omega) _ ⟨hl', hh', nl, vl, nh, vh⟩ ps (by rw [hkp]; exact HS.out)
            simp only at T2
            obtain ⟨t1, t2, t3⟩ := T2
            obtain ⟨rn, hrn⟩ : ∃ n, n = sg (nx 1 pnh pvh) := ⟨_, rfl⟩
            obtain ⟨rv, hrv⟩ : ∃ n, n = ab (nx 1 pnh pvh) := ⟨_, rfl⟩
            have C2 := Lib.hid fun wx => stepUp_any pnh pvh pv2 wx
            have C3 := Lib.hid fun wx => RCmp_any (sg (nx 1 pnh pvh)) (ab (nx 1 pnh pvh)) (nx_lt _ _ _) nl vl hvl (mayI_sg _) t2 wx
            obtain ⟨z3, hz3⟩ : ∃ z, cmpI (sg (nx 1 pnh pvh)) (ab (nx 1 pnh pvh)) nl vl = z := ⟨_, rfl⟩
            rw [hz3] at C3 t3
            rw [t1, ← hrn, ← hrv] at C2
            rw [← hrn, ← hrv] at C3
            have P0 := Lib.hid pc
            obtain ⟨_, _, _, _, _, _, _, _, _, _, _, _⟩ := pc.all
            have j1 : wrap64 ((k : Int) - 1) = (k : Int) - 1 := by unfold wrap64; omega
            have j2 : (0 : Int) ≤ (k : Int) - 1 := by omega
            have j3 : (k : Int) - 1 < (m : Int) := by omega
            have j4 : ((k : Int) - 1).toNat = k - 1 := by omega
            have j5 : ¬ z3 ≥ 0 := by omega
            have j6 : ¬ 0 ≤ z3 := by omega
            obtain rfl : hl' = true := HF.out.lo (by omega)
            have HK := Lib.hid h0
            clear t1 t2 t3 hz3 hrn hrv ps pc hkp h0
            cases hh' with
            | true =>
              obtain ⟨m1, m2, hz⟩ := HF.out.le rfl rfl
              obtain ⟨z1, hz1⟩ : ∃ z, cmpI nl vl nh vh = z := ⟨_, rfl⟩
              have C1 := Lib.hid fun wx => RCmp_any nl vl hvl nh vh hvh m1 m2 wx
              simp only at hz
              rw [hz1] at C1 hz
              have hz' : ¬ 0 < z1 := by omega
              clear hz1 m1 m2 hz
              repeat any_goals (first | (go_at_call 12; with_reducible refine (C1.out _).mono ?_; rintro e w4 ⟨rfl, hb4⟩; have X4 := Lib.hid (s12_hb hb4); obtain ⟨_, _, _, _, _, _, _, _, _, _, _, _⟩ := X4.out.all; have P4 := Lib.hid (P0.out.below (below_trans (by (repeat first | with_reducible exact Below.refl _ _ | with_reducible assumption | with_reducible refine Below.drew ?_ | with_reducible refine below_alloc ?_ _ | ((with_reducible refine Below.setCell ?_ ?_ _); rotate_left; (focus (first | with_reducible exact Nat.le_refl _ | (simp; done) | (simp; omega) | omega))) | (with_reducible refine below_trans ?_ (by assumption)))) hb4)); obtain ⟨_, _, _, _, _, _, _, _, _, _, _, _⟩ := P4.out.all; have hw4 := Lib.hid (show Below wr.heap.size wr w4 from below_trans (by (repeat first | with_reducible exact Below.refl _ _ | with_reducible assumption | with_reducible refine Below.drew ?_ | with_reducible refine below_alloc ?_ _ | ((with_reducible refine Below.setCell ?_ ?_ _); rotate_left; (focus (first | with_reducible exact Nat.le_refl _ | (simp; done) | (simp; omega) | omega))) | (with_reducible refine below_trans ?_ (by assumption)))) hb4)) | (go_at_call 13; with_reducible refine (C2.out _).mono ?_; rintro e w5 ⟨rfl, hb5⟩; have X5 := Lib.hid (X4.out.below hb5); obtain ⟨_, _, _, _, _, _, _, _, _, _, _, _⟩ := X5.out.all; have s5 : wr.heap.size < w5.heap.size := (by have := hw4.out.size; have := hb5.size; have := hb4.size; simp at *; omega)) | (go_at_call 12; with_reducible refine (C3.out _).mono ?_; rintro e w6 ⟨rfl, hb6⟩) | go_skip | go_guarded | go_step | go_upon | (dsimp only []))
              go_roundw
              case rel => exact ⟨k + 1, by omega, rfl, by (repeat first | with_reducible exact Below.refl _ _ | with_reducible assumption | with_reducible refine Below.drew ?_ | with_reducible refine below_alloc ?_ _ | ((with_reducible refine Below.setCell ?_ ?_ _); rotate_left; (focus (first | with_reducible exact Nat.le_refl _ | (simp; done) | (simp; omega) | omega))) | (with_reducible refine below_trans ?_ (by assumption)))⟩
              case measure => simp [intOf]; omega
            | false =>
              have i9 : ¬ (k : Int) < (m : Int) - 1 := fun h => by have := HF.out.hi (by omega); cases this
              repeat any_goals (first | (go_at_call 13; with_reducible refine (C2.out _).mono ?_; rintro e w5 ⟨rfl, hb5⟩; have X5 := Lib.hid (s12_hb hb5); obtain ⟨_, _, _, _, _, _, _, _, _, _, _, _⟩ := X5.out.all; have s5 : wr.heap.size < w5.heap.size := (by have := hb5.size; simp at *; omega)) | (go_at_call 12; with_reducible refine (C3.out _).mono ?_; rintro e w6 ⟨rfl, hb6⟩) | go_skip | go_guarded | go_step | go_upon | (dsimp only []))
              go_roundw
              case rel => exact ⟨k + 1, by omega, rfl, by (repeat first | with_reducible exact Below.refl _ _ | with_reducible assumption | with_reducible refine Below.drew ?_ | with_reducible refine below_alloc ?_ _ | ((with_reducible refine Below.setCell ?_ ?_ _); rotate_left; (focus (first | with_reducible exact Nat.le_refl _ | (simp; done) | (simp; omega) | omega))) | (with_reducible refine below_trans ?_ (by assumption)))⟩
              case measure => simp [intOf]; omega
        · have hk' : k = m := by omega
          have i1 : ¬ (k : Int) < (m : Int) := by omega
          have hW3 := HW3.out.trans (below_weak hW HW3.out.size)
          have HT3 := Lib.hid fun (wx : World) (hb : Below w3.heap.size w3 wx) => HW3.out.trans (below_weak hb HW3.out.size)
          by_cases hn0 : n = 0
          · subst hn0
            have own0 : (wr.alloc (.cells #[] 33)).ownsRow wr.heap.size 33 12 (.slice (some ⟨wr.heap.size, 0, none⟩) 0 0) 0 [] := World.ownsRow_lit wr #[] 0 (Nat.le_refl _) (by decide) rfl
            have hbW : Below w3.heap.size w3 (wr.alloc (.cells #[] 33)).drew := (below_alloc hW _).drew
            repeat any_goals (first | go_skip | go_guarded | go_step | go_upon | (simp only []; done))
            go_region_law (first | (refine step_append_any rfl (.tmp 99) (.tmp 102) 22 rfl wr.heap.size 33 i0 (.agg #[.bool false, .bool false, .bool false, .int .u64 0, .int .u64 0, .int .u64 0, .int .u64 0, .bool false, .int .u64 0, .int .u64 0, .int .u64 0, .int .u64 0]) 12 88 Tryd.underlying22 hi hz0 hz1 hz2 rfl (by decide) _ 0 [] (by first | rfl | simp [Act.eval]) (own0) _ 0 [] (by first | rfl | simp [Act.eval]) (src_zero _ _) (by decide) (by decide) (by simp) ?_; intro v1 wa hown1 hg1; have hbA := form_grown hW hbW hg1 own0; have hsA := hg1.size) | (refine step_append_any rfl (.tmp 103) (.tmp 106) 22 rfl wr.heap.size 33 i0 (.agg #[.bool false, .bool false, .bool false, .int .u64 0, .int .u64 0, .int .u64 0, .int .u64 0, .bool false, .int .u64 0, .int .u64 0, .int .u64 0, .int .u64 0]) 12 88 Tryd.underlying22 hi hz0 hz1 hz2 rfl (by decide) _ 0 [] (by first | rfl | simp [Act.eval]) (hown1) _ 0 [] (by first | rfl | simp [Act.eval]) (src_zero _ _) (by decide) (by decide) (by simp at hsA; omega) ?_; intro v2 wb hown2 hg2; have hbB := form_grown hW hbA hg2 hown1; have hsB := hg2.size))
            repeat any_goals (first | (at_builtin; refine wpList_append_any rfl (.tmp 108) (.tmp 109) 22 rfl wr.heap.size 33 i0 (.agg #[.bool false, .bool false, .bool false, .int .u64 0, .int .u64 0, .int .u64 0, .int .u64 0, .bool false, .int .u64 0, .int .u64 0, .int .u64 0, .int .u64 0]) 12 88 Tryd.underlying22 hi hz0 hz1 hz2 rfl (by decide) _ 0 [] rfl (hown2) _ 0 [] rfl (src_zero _ _) (by decide) (by decide) (by simp at hsA; omega) ?_; intro v3 we hown3 hg3; have hbE := form_grown hW hbB hg3 hown2) | go_skip | go_guarded | go_step | go_upon | (dsimp only []))
            obtain ⟨av, cv, e3, rb⟩ := own_row (l := []) hown3 (fun s hs => by cases hs)
            subst e3
            have RB := Lib.hid rb
            have LBi := Lib.hid (show ∀ z, InS (nthS []) ([] : List Sp).length z ↔ InS S 0 z from fun z => ⟨fun ⟨i, hi, _⟩ => absurd hi (Nat.not_lt_zero _), fun ⟨i, hi, _⟩ => absurd hi (Nat.not_lt_zero _)⟩)
            have LBm := Lib.hid (show mayR (nthS []) ([] : List Sp).length = true from rfl)
            have LBl := Lib.hid (show ([] : List Sp).length ≤ 24 by decide)
            clear rb hown1 hown2 hown3 own0
            repeat any_goals (first | (go_at_call 10; with_reducible refine (TL.out _ (HT3.out _ hbE)).mono ?_; rintro e wf ⟨rfl, hbf⟩) | go_skip | go_guarded | go_step | go_upon | (dsimp only []))
            have hbF := below_trans hbE hbf
            refine (Norm_any _ _ _ _ wf (RB.out.below hbf) (by have := LBl.out; omega)).mono ?_
            rintro e wg ⟨vg, rfl, hsg⟩
            obtain ⟨ag, cg, l5, rfl, r5, f5, -, hbg⟩ := hsg.row
            obtain rfl : l5 = ls := f5.unique F3.out fun z => by
              rw [LBi.out z, LBm.out, ← HR.out]
            have hbG := below_trans hbF hbg
            dsimp only []
            repeat any_goals (first | go_skip | go_guarded | go_step | go_upon | (simp only []; done))
            rw [← HMl.out] at r5 ⊢
            refine (RSameS_any ag m cg _ a3 m c3 _ wg r5 (R3.out.below hbG)).mono ?_
            rintro e wh ⟨q1, rfl, hq1, hbh⟩
            obtain rfl : q1 = true := hq1.2 ⟨rfl, fun _ _ => rfl⟩
            have hbH := below_trans hbG hbh
            dsimp only []
            repeat any_goals (first | go_skip | go_guarded | go_step | go_upon | (simp only []; done))
            refine (Norm_any _ m _ _ wh (R3.out.below hbH) (by omega)).mono ?_
            rintro e wi ⟨vi, rfl, hsi⟩
            obtain ⟨ai, ci, l6, rfl, r6, f6, -, hbi⟩ := hsi.row
            obtain rfl : l6 = l5 := f6.unique F3.out fun z => by
              rw [HMl.out, F3.out.ins z, mayR_row (by rw [← HMl.out]; omega)]
              exact ⟨fun h => h.2, fun h => ⟨rfl, h⟩⟩
            have hbI := below_trans hbH hbi
            dsimp only []
            repeat any_goals (first | go_skip | go_guarded | go_step | go_upon | (simp only []; done))
            rw [← HMl.out] at r6 ⊢
            refine (RSameS_any ai m ci _ a3 m c3 _ wi r6 (R3.out.below hbI)).mono ?_
            rintro e wj ⟨q2, rfl, hq2, hbj⟩
            obtain rfl : q2 = true := hq2.2 ⟨rfl, fun _ _ => rfl⟩
            have hbJ := below_trans hbI hbj
            dsimp only []
            repeat any_goals (first | go_skip | go_guarded | go_step | go_upon | (simp only []; done))
            exact bodyPost_ret (v := .bool true) (by simp [results, Tryd.results3, go_sem]) rfl ⟨rfl, HT3.out _ hbJ⟩
          · have i2 : (0 : Int) < (n : Int) := by omega
            obtain ⟨ab, ao, rfl, hab⟩ : ∃ b off, a = some ⟨b, off, none⟩ ∧ b < w.heap.size := by
              rcases H.out.c with h0 | ⟨b, off, e, hl, -⟩
              · omega
              · exact ⟨b, off, e, hl⟩
            obtain ⟨r, hr, hrn⟩ : ∃ r : Nat, wrap64 ((IntKind.u64.wrap turn).tmod (n : Int)) = (r : Int) ∧ r < n := by
              have h0 : 0 ≤ IntKind.u64.wrap turn := by rw [IntKind.wrap_u64]; omega
              have e : (IntKind.u64.wrap turn).tmod (n : Int) = IntKind.u64.wrap turn % (n : Int) := Int.tmod_eq_emod_of_nonneg h0
              have h1 := Int.emod_nonneg (IntKind.u64.wrap turn) (show (n : Int) ≠ 0 by omega)
              have h2 := Int.emod_lt_of_pos (IntKind.u64.wrap turn) i2
              refine ⟨(IntKind.u64.wrap turn % (n : Int)).toNat, ?_, by omega⟩
              rw [e]
              unfold wrap64
              omega
            have k1 : (0 : Int) ≤ (r : Int) := by omega
            have k2 : (r : Int) ≤ (n : Int) := by omega
            have k3 : (r : Int) ≤ (c : Int) := by omega
            have k4 : (n : Int) ≤ (c : Int) := by omega
            have own0 : (wr.alloc (.cells #[] 33)).ownsRow wr.heap.size 33 12 (.slice (some ⟨wr.heap.size, 0, none⟩) 0 0) 0 [] := World.ownsRow_lit wr #[] 0 (Nat.le_refl _) (by decide) rfl
            have hcr : ¬ c = r := by omega
            have hbW : Below w3.heap.size w3 (wr.alloc (.cells #[] 33)).drew := (below_alloc hW _).drew
            have src1 : SrcOk (wr.alloc (.cells #[] 33)).drew (.slice (some ⟨ab, ao + r * 12, none⟩) (n - r) (c - r)) (n - r) 12 (encS (rowL S r (n - r))) := row_src H.out (HT3.out _ hbW) r (n - r) _ _ (by omega) rfl
            repeat any_goals (first | go_skip | go_guarded | go_step | go_upon | (simp only []; done))
            go_region_law (first | (refine step_append_any rfl (.tmp 99) (.tmp 102) 22 rfl wr.heap.size 33 i0 (.agg #[.bool false, .bool false, .bool false, .int .u64 0, .int .u64 0, .int .u64 0, .int .u64 0, .bool false, .int .u64 0, .int .u64 0, .int .u64 0, .int .u64 0]) 12 88 Tryd.underlying22 hi hz0 hz1 hz2 rfl (by decide) _ (0) ([]) (by simp [Act.eval]) (own0) _ (n - r) (encS (rowL S r (n - r))) (by simp [Act.eval]) (src1) (by simp only [maxLen]; omega) (by omega) (by simp) ?_; intro v1 wa hown1 hg1; have hbA := form_grown hW hbW hg1 own0; have hsA := hg1.size) | (refine step_append_any rfl (.tmp 103) (.tmp 106) 22 rfl wr.heap.size 33 i0 (.agg #[.bool false, .bool false, .bool false, .int .u64 0, .int .u64 0, .int .u64 0, .int .u64 0, .bool false, .int .u64 0, .int .u64 0, .int .u64 0, .int .u64 0]) 12 88 Tryd.underlying22 hi hz0 hz1 hz2 rfl (by decide) _ (0 + (n - r)) ([] ++ encS (rowL S r (n - r))) (by simp [Act.eval]) (hown1) _ (r) (encS (rowL S 0 r)) (by simp [Act.eval]) (row_src H.out (HT3.out _ hbA) 0 r c ao (by omega) (by omega)) (by simp only [maxLen]; omega) (by omega) (by simp at hsA; omega) ?_; intro v2 wb hown2 hg2; have hbB := form_grown hW hbA hg2 hown1; have hsB := hg2.size))
            repeat any_goals (first | (at_builtin; refine wpList_append_any rfl (.tmp 108) (.tmp 109) 22 rfl wr.heap.size 33 i0 (.agg #[.bool false, .bool false, .bool false, .int .u64 0, .int .u64 0, .int .u64 0, .int .u64 0, .bool false, .int .u64 0, .int .u64 0, .int .u64 0, .int .u64 0]) 12 88 Tryd.underlying22 hi hz0 hz1 hz2 rfl (by decide) _ (0 + (n - r) + r) ([] ++ encS (rowL S r (n - r)) ++ encS (rowL S 0 r)) rfl (hown2) _ (n) (encS (rowL S 0 n)) rfl (row_src H.out (HT3.out _ hbB) 0 n c ao (by omega) (by omega)) (by simp only [maxLen]; omega) (by omega) (by simp at hsA; omega) ?_; intro v3 we hown3 hg3; have hbE := form_grown hW hbB hg3 hown2) | go_skip | go_guarded | go_step | go_upon | (dsimp only []))
            have hmx : we.ownsRow wr.heap.size 33 12 v3 (mixL S n r).length (encS (mixL S n r)) := by
              have e1 : (mixL S n r).length = 0 + (n - r) + r + n := by rw [mix_len S (by omega)]; omega
              have e2 : encS (mixL S n r) = [] ++ encS (rowL S r (n - r)) ++ encS (rowL S 0 r) ++ encS (rowL S 0 n) := by
                unfold mixL
                rw [encS_app, encS_app]
                rfl
              rw [e1, e2]
              exact hown3
            obtain ⟨av, cv, e3, rb⟩ := own_row hmx (fun s hs => by
              obtain ⟨j, hj, rfl⟩ := (mem_mix (by omega)).1 hs
              exact H.out.o j hj)
            subst e3
            have RB := Lib.hid rb
            have LBi := Lib.hid (mix_ins (S := S) (n := n) (r := r) (by omega))
            have LBm := Lib.hid (mix_may (S := S) (n := n) (r := r) (by omega) h12 HR.out.symm)
            have LBl := Lib.hid (show (mixL S n r).length ≤ 24 by rw [mix_len S (by omega)]; omega)
            clear rb hmx hown1 hown2 hown3 own0 src1 hr
            repeat any_goals (first | (go_at_call 10; with_reducible refine (TL.out _ (HT3.out _ hbE)).mono ?_; rintro e wf ⟨rfl, hbf⟩) | go_skip | go_guarded | go_step | go_upon | (dsimp only []))
            have hbF := below_trans hbE hbf
            refine (Norm_any _ _ _ _ wf (RB.out.below hbf) (by have := LBl.out; omega)).mono ?_
            rintro e wg ⟨vg, rfl, hsg⟩
            obtain ⟨ag, cg, l5, rfl, r5, f5, -, hbg⟩ := hsg.row
            obtain rfl : l5 = ls := f5.unique F3.out fun z => by
              rw [LBi.out z, LBm.out, ← HR.out]
            have hbG := below_trans hbF hbg
            dsimp only []
            repeat any_goals (first | go_skip | go_guarded | go_step | go_upon | (simp only []; done))
            rw [← HMl.out] at r5 ⊢
            refine (RSameS_any ag m cg _ a3 m c3 _ wg r5 (R3.out.below hbG)).mono ?_
            rintro e wh ⟨q1, rfl, hq1, hbh⟩
            obtain rfl : q1 = true := hq1.2 ⟨rfl, fun _ _ => rfl⟩
            have hbH := below_trans hbG hbh
            dsimp only []
            repeat any_goals (first | go_skip | go_guarded | go_step | go_upon | (simp only []; done))
            refine (Norm_any _ m _ _ wh (R3.out.below hbH) (by omega)).mono ?_
            rintro e wi ⟨vi, rfl, hsi⟩
            obtain ⟨ai, ci, l6, rfl, r6, f6, -, hbi⟩ := hsi.row
            obtain rfl : l6 = l5 := f6.unique F3.out fun z => by
              rw [HMl.out, F3.out.ins z, mayR_row (by rw [← HMl.out]; omega)]
              exact ⟨fun h => h.2, fun h => ⟨rfl, h⟩⟩
            have hbI := below_trans hbH hbi
            dsimp only []
            repeat any_goals (first | go_skip | go_guarded | go_step | go_upon | (simp only []; done))
            rw [← HMl.out] at r6 ⊢
            refine (RSameS_any ai m ci _ a3 m c3 _ wi r6 (R3.out.below hbI)).mono ?_
            rintro e wj ⟨q2, rfl, hq2, hbj⟩
            obtain rfl : q2 = true := hq2.2 ⟨rfl, fun _ _ => rfl⟩
            have hbJ := below_trans hbI hbj
            dsimp only []
            repeat any_goals (first | go_skip | go_guarded | go_step | go_upon | (simp only []; done))
            exact bodyPost_ret (v := .bool true) (by simp [results, Tryd.results3, go_sem]) rfl ⟨rfl, HT3.out _ hbJ⟩
  · rw [decide_eq_false h12, Bool.false_and] at FW
    go_enter Tryd.func3, Tryd.ntmps3
    repeat any_goals (first | (go_at_call 8; with_reducible refine (FW.out _).mono ?_; rintro e w1 ⟨rfl, hb1⟩) | (go_at_call 10; with_reducible refine (TL.out _ (by (repeat first | with_reducible exact Below.refl _ _ | with_reducible assumption | with_reducible refine Below.drew ?_ | with_reducible refine below_alloc ?_ _ | ((with_reducible refine Below.setCell ?_ ?_ _); rotate_left; (focus (first | with_reducible exact Nat.le_refl _ | (simp; done) | (simp; omega) | omega))) | (with_reducible refine below_trans ?_ (by assumption))))).mono ?_; rintro e w3 ⟨rfl, hb3⟩) | go_skip | go_guarded | go_step | go_upon | (dsimp only []))
    exact bodyPost_ret (v := .bool true) (by simp [results, Tryd.results3, go_sem]) rfl ⟨rfl, by (repeat first | with_reducible exact Below.refl _ _ | with_reducible assumption | with_reducible refine Below.drew ?_ | with_reducible refine below_alloc ?_ _ | ((with_reducible refine Below.setCell ?_ ?_ _); rotate_left; (focus (first | with_reducible exact Nat.le_refl _ | (simp; done) | (simp; omega) | omega))) | (with_reducible refine below_trans ?_ (by assumption)))⟩
end Go.Proofs.YtekeedjhaakbhaaDoor
