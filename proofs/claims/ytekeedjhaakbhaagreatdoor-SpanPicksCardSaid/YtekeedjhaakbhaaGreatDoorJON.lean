/- span.joined of the program. · span.open of the program: the spans of a row of closed intervals. · Norm of the program: what its answer is. -/
import Derived.Test.YtekeedjhaakbhaaGreatDoorClB
namespace Go.Proofs.YtekeedjhaakbhaaGreatDoor
open Go.RowKit
/-- an interval in a block of its own -/
structure K10 (w : World) (B : Nat) (n : Bool) (V : Nat) (m : Bool) (U : Nat) : Prop where
  all : w.cell? ⟨B, 0, none⟩ = some (.bool n) ∧ w.cell? ⟨B, 1, none⟩ = some (.int .u64 (lm V 0 : Nat)) ∧ w.cell? ⟨B, 2, none⟩ = some (.int .u64 (lm V 1 : Nat)) ∧ w.cell? ⟨B, 3, none⟩ = some (.int .u64 (lm V 2 : Nat)) ∧ w.cell? ⟨B, 4, none⟩ = some (.int .u64 (lm V 3 : Nat)) ∧ w.cell? ⟨B, 5, none⟩ = some (.bool m) ∧ w.cell? ⟨B, 6, none⟩ = some (.int .u64 (lm U 0 : Nat)) ∧ w.cell? ⟨B, 7, none⟩ = some (.int .u64 (lm U 1 : Nat)) ∧ w.cell? ⟨B, 8, none⟩ = some (.int .u64 (lm U 2 : Nat)) ∧ w.cell? ⟨B, 9, none⟩ = some (.int .u64 (lm U 3 : Nat))
theorem K10.below {w1 w2 : World} {B : Nat} {n m : Bool} {V U : Nat} (h : K10 w1 B n V m U) (hb : Below w1.heap.size w1 w2) : K10 w2 B n V m U := by
  obtain ⟨h0, h1, h2, h3, h4, h5, h6, h7, h8, h9⟩ := h.all
  exact ⟨keep_cell hb h0, keep_cell hb h1, keep_cell hb h2, keep_cell hb h3, keep_cell hb h4, keep_cell hb h5, keep_cell hb h6, keep_cell hb h7, keep_cell hb h8, keep_cell hb h9⟩
theorem k10_new {w : World} {t : TypeId} {nl nh : Bool} {vl vh : Nat} : K10 (w.alloc (.cells #[.bool nl, .int .u64 (lm vl 0 : Nat), .int .u64 (lm vl 1 : Nat), .int .u64 (lm vl 2 : Nat), .int .u64 (lm vl 3 : Nat), .bool nh, .int .u64 (lm vh 0 : Nat), .int .u64 (lm vh 1 : Nat), .int .u64 (lm vh 2 : Nat), .int .u64 (lm vh 3 : Nat)] t)) w.heap.size nl vl nh vh := ⟨by simp [go_sem]⟩
theorem ten_cells2 {w1 : World} {B : Nat} {t : TypeId} {v0 v1 v2 v3 v4 v5 v6 v7 v8 v9 : Value} (hB : B = w1.heap.size) : ∀ (j : Nat) (u : Value), [v0, v1, v2, v3, v4, v5, v6, v7, v8, v9][j]? = some u → (w1.alloc (.cells #[v0, v1, v2, v3, v4, v5, v6, v7, v8, v9] t)).cell? ((⟨B, 0, none⟩ : Addr).add j) = some u := by
  subst hB
  exact ten_cells
theorem nx_lt (d : Int) (n : Bool) (V : Nat) : ab (nx d n V) < 2 ^ 256 := by
  unfold nx
  split
  · rename_i h
    unfold nxOk at h
    simp only [Bool.and_eq_true, decide_eq_true_eq] at h
    exact h.2
  · decide
set_option maxRecDepth 20000 in
set_option maxHeartbeats 8000000 in
theorem joined_any (B : Nat) (v0 : Value) (l : List Cl) (w : World) (h : w.ownsRow B 51 10 v0 l.length (encs l)) (hn : l.length ≤ 1000000) :
    Calls Tryz.prog 62 #[v0] w fun e w' => ∃ v, e = .returned v ∧ w'.ownsRow w.heap.size 51 10 v (joinK l).length (encs (joinK l)) ∧ Below w.heap.size w w' := by
  have H := Lib.hid h
  clear h
  obtain ⟨n, hln⟩ : ∃ n, n = l.length := ⟨_, rfl⟩
  obtain ⟨a0, q0, e0⟩ : ∃ a c, v0 = .slice a n c := by
    rcases H.out.2 with ⟨rfl, h0⟩ | ⟨g, cap, cur, rfl, -⟩
    · exact ⟨none, 0, by rw [hln, h0]⟩
    · exact ⟨_, _, by rw [hln]⟩
  have HC := Lib.hid fun (k : Nat) (hk : k < l.length) (wr : World) (hb : Below w.heap.size w wr) => cl_lit H.out hk hb
  obtain ⟨i0, hi, hz0, hz1, hz2⟩ := info_parts infoC
  have HN := Lib.hid hln
  rw [← hln] at HC hn
  subst e0
  clear hln H
  go_enter Tryz.func62, Tryz.ntmps62
  repeat any_goals (first | go_skip | go_guarded | go_step | go_upon | (simp only []; done))
  go_loopw [3, 11] (fun v i wr => ∃ k : Nat, k ≤ n ∧ i = .int .i64 k ∧ JoinI w wr v ((l.take k).foldl stepJ [])) (fun _ i _ => n - (intOf i).toNat)
  case atStart =>
    exact ⟨0, Nat.zero_le _, rfl, ⟨World.ownsRow_nil _ _ _ _, Below.refl _ _⟩⟩
  case round =>
    obtain ⟨k, hk, rfl, I⟩ := hrel
    by_cases hkn : k < n
    · obtain ⟨g', cap', x, hv, hb, hx, hc1, hc2, hc⟩ := HC.out k hkn wr I.b
      injection hv with hv1 _ hv3
      subst hv1 hv3
      have hstep : (l.take (k + 1)).foldl stepJ [] = stepJ ((l.take k).foldl stepJ []) x := by
        rw [List.take_add_one, hx, List.foldl_append]
        rfl
      have hkl : ((l.take k).foldl stepJ []).length ≤ k := by
        have := foldJ_len (l.take k) []
        rw [List.length_take] at this
        simp only [List.length_nil] at this
        omega
      generalize (l.take k).foldl stepJ [] = ks at I hstep hkl
      have HS := Lib.hid hstep
      obtain ⟨nl, hnl⟩ : ∃ n, n = sg x.lo := ⟨_, rfl⟩
      obtain ⟨vl, hvl⟩ : ∃ n, n = ab x.lo := ⟨_, rfl⟩
      obtain ⟨nh, hnh⟩ : ∃ n, n = sg x.hi := ⟨_, rfl⟩
      obtain ⟨vh, hvh⟩ : ∃ n, n = ab x.hi := ⟨_, rfl⟩
      rw [← hnl, ← hvl, ← hnh, ← hvh] at hc
      have henc : [.bool nl, .int .u64 (lm vl 0 : Nat), .int .u64 (lm vl 1 : Nat), .int .u64 (lm vl 2 : Nat), .int .u64 (lm vl 3 : Nat), .bool nh, .int .u64 (lm vh 0 : Nat), .int .u64 (lm vh 1 : Nat), .int .u64 (lm vh 2 : Nat), .int .u64 (lm vh 3 : Nat)] = x.enc := by
        rw [hnl, hvl, hnh, hvh]
        rfl
      have HE := Lib.hid henc
      have HX := Lib.hid (And.intro hnl (And.intro hvl (And.intro hnh hvh)))
      obtain ⟨c0, c1, c2, c3, c4, c5, c6, c7, c8, c9⟩ := hc.all
      have i1 : (k : Int) < (n : Int) := by omega
      have i2 : (0 : Int) ≤ (k : Int) := by omega
      have i5 : (k : Int).toNat = k := rfl
      have hW := I.b
      clear hc hnl hvl hnh hvh hx hstep henc
      rcases List.eq_nil_or_concat ks with rfl | ⟨ks', y, rfl⟩
      · obtain ⟨a', c', rfl⟩ : ∃ a c, u3 = .slice a 0 c := by
          rcases I.o.2 with ⟨rfl, -⟩ | ⟨g, cap, cur, rfl, -⟩
          · exact ⟨none, 0, rfl⟩
          · exact ⟨_, _, rfl⟩
        have IH := Lib.hid I
        clear I
        repeat any_goals (first | (at_builtin; refine wpList_append_own _ rfl (.tmp 55) (.tmp 57) 49 rfl w.heap.size 51 i0 (.agg #[.bool false, .int .u64 0, .int .u64 0, .int .u64 0, .int .u64 0, .bool false, .int .u64 0, .int .u64 0, .int .u64 0, .int .u64 0]) 10 80 Tryz.underlying49 hi hz0 hz1 hz2 rfl (by decide) _ _ _ rfl ((IH.out.o.alloc _).alloc _) ⟨wr.heap.size + 1, 0, none⟩ 1 1 [.bool nl, .int .u64 (lm vl 0 : Nat), .int .u64 (lm vl 1 : Nat), .int .u64 (lm vl 2 : Nat), .int .u64 (lm vl 3 : Nat), .bool nh, .int .u64 (lm vh 0 : Nat), .int .u64 (lm vh 1 : Nat), .int .u64 (lm vh 2 : Nat), .int .u64 (lm vh 3 : Nat)] rfl rfl (ten_cells2 (by simp)) ten_one (by decide) (by decide) (by have := IH.out.b.size; simp; omega) ?_; intro v' w2 hown' hgrow _) | go_skip | go_guarded | go_step | go_upon | (dsimp only []))
        go_roundw
        case rel => exact ⟨k + 1, by omega, rfl, by rw [HS.out]; exact (IH.out.drop (below_alloc (Below.refl _ _) _)).keep rfl (by rw [← HE.out]; exact hown') hgrow⟩
        case measure => simp [intOf]; omega
      · rw [List.concat_eq_append] at I hkl HS
        obtain ⟨g, cap, hv, hg, hcc, hcm, hr⟩ := last_lit I.o (by simp) (Below.refl _ _)
        subst hv
        obtain ⟨m, hm⟩ : ∃ m, m = ks'.length := ⟨_, rfl⟩
        obtain ⟨N, hN⟩ : ∃ N, N = (ks' ++ [y]).length := ⟨_, rfl⟩
        have hNm : N = m + 1 := by rw [hN, hm]; simp
        rw [← hN] at I hcc ⊢
        rw [← hm] at hr
        have IH := Lib.hid I
        obtain ⟨yn, hyn⟩ : ∃ n, n = sg y.hi := ⟨_, rfl⟩
        obtain ⟨yv, hyv⟩ : ∃ n, n = ab y.hi := ⟨_, rfl⟩
        obtain ⟨zn, hzn⟩ : ∃ n, n = sg y.lo := ⟨_, rfl⟩
        obtain ⟨zv, hzv⟩ : ∃ n, n = ab y.lo := ⟨_, rfl⟩
        obtain ⟨q, hq⟩ : ∃ q, nxOk 1 (sg y.hi) (ab y.hi) = q := ⟨_, rfl⟩
        obtain ⟨rn, hrn⟩ : ∃ n, n = sg (nx 1 (sg y.hi) (ab y.hi)) := ⟨_, rfl⟩
        obtain ⟨rv, hrv⟩ : ∃ n, n = ab (nx 1 (sg y.hi) (ab y.hi)) := ⟨_, rfl⟩
        obtain ⟨z1, hz1⟩ : ∃ z, cmpI (sg x.lo) (ab x.lo) (sg (nx 1 (sg y.hi) (ab y.hi))) (ab (nx 1 (sg y.hi) (ab y.hi))) = z := ⟨_, rfl⟩
        obtain ⟨z2, hz2⟩ : ∃ z, cmpI (sg x.hi) (ab x.hi) (sg y.hi) (ab y.hi) = z := ⟨_, rfl⟩
        have J := Lib.hid (join_next q z1 hq hz1)
        have J2 := Lib.hid (join_up z2 hz2)
        have hrvb : ab (nx 1 (sg y.hi) (ab y.hi)) < 2 ^ 256 := nx_lt _ _ _
        have CN := Lib.hid fun wx => Next_any (sg y.hi) (ab y.hi) y.hh wx
        have C1 := Lib.hid fun wx => Cmp_any (sg x.lo) (ab x.lo) x.hl (sg (nx 1 (sg y.hi) (ab y.hi))) (ab (nx 1 (sg y.hi) (ab y.hi))) hrvb wx
        have C2 := Lib.hid fun wx => Cmp_any (sg x.hi) (ab x.hi) x.hh (sg y.hi) (ab y.hi) y.hh wx
        rw [hz1] at C1
        rw [hz2] at C2
        rw [hq, ← hrn, ← hrv, ← hyn, ← hyv] at CN
        rw [← HX.out.1, ← HX.out.2.1, ← hrn, ← hrv] at C1
        rw [← HX.out.2.2.1, ← HX.out.2.2.2, ← hyn, ← hyv] at C2
        rw [← hyn, ← hyv, ← hzn, ← hzv] at hr
        have hR := Lib.hid hr
        have HM := Lib.hid (And.intro hm (And.intro hN hNm))
        obtain ⟨d0, d1, d2, d3, d4, d5, d6, d7, d8, d9⟩ := hr.all
        have j1 : (0 : Int) < (N : Int) := by omega
        have j2 : wrap64 ((N : Int) - 1) = (m : Int) := by unfold wrap64; omega
        have j3 : (0 : Int) ≤ (m : Int) := by omega
        have j4 : (m : Int) < (N : Int) := by omega
        have j5 : (m : Int).toNat = m := rfl
        clear hr I hq hrn hrv hyn hyv hzn hzv hz1 hz2 hrvb hN hm hNm
        have bd1 : (ks' ++ [y]).length + 1 ≤ maxLen := by simp only [maxLen]; omega
        have bd2 : ((ks' ++ [y]).length + 1) * 80 ≤ 140737488355328 := by omega
        have BD := Lib.hid (And.intro bd1 bd2)
        clear bd1 bd2
        cases q with
        | false =>
          repeat any_goals (first | (go_at_call 64; with_reducible refine (CN.out _).mono ?_; rintro e w1 ⟨rfl, hb1⟩; have K1 := Lib.hid (k10_new.below hb1); have R1 := Lib.hid (hR.out.below (below_trans (by (repeat first | with_reducible exact Below.refl _ _ | with_reducible assumption | with_reducible refine Below.drew ?_ | with_reducible refine below_alloc ?_ _ | ((with_reducible refine Below.setCell ?_ ?_ _); rotate_left; (focus (first | with_reducible exact Nat.le_refl _ | (simp; done) | (simp; omega) | omega))) | (with_reducible refine below_trans ?_ (by assumption)))) hb1)); obtain ⟨_, _, _, _, _, _, _, _, _, _⟩ := K1.out.all; obtain ⟨_, _, _, _, _, _, _, _, _, _⟩ := R1.out.all; have s1 : wr.heap.size < w1.heap.size := (by have := hb1.size; simp at this; omega); have s2 : g < w1.heap.size := (by omega); have hw1 := Lib.hid (show Below wr.heap.size wr w1 from below_trans (by (repeat first | with_reducible exact Below.refl _ _ | with_reducible assumption | with_reducible refine Below.drew ?_ | with_reducible refine below_alloc ?_ _ | ((with_reducible refine Below.setCell ?_ ?_ _); rotate_left; (focus (first | with_reducible exact Nat.le_refl _ | (simp; done) | (simp; omega) | omega))) | (with_reducible refine below_trans ?_ (by assumption)))) hb1)) | go_skip | go_guarded | go_step | go_upon | (dsimp only []))
          have K5 := Lib.hid (K1.out.below (below_alloc (Below.refl _ w1) (.cells #[.bool rn, .int .u64 (lm rv 0 : Nat), .int .u64 (lm rv 1 : Nat), .int .u64 (lm rv 2 : Nat), .int .u64 (lm rv 3 : Nat)] 29)))
          have R5 := Lib.hid (R1.out.below (below_alloc (Below.refl _ w1) (.cells #[.bool rn, .int .u64 (lm rv 0 : Nat), .int .u64 (lm rv 1 : Nat), .int .u64 (lm rv 2 : Nat), .int .u64 (lm rv 3 : Nat)] 29)))
          have hw5 := Lib.hid (show Below wr.heap.size wr (w1.alloc (.cells #[.bool rn, .int .u64 (lm rv 0 : Nat), .int .u64 (lm rv 1 : Nat), .int .u64 (lm rv 2 : Nat), .int .u64 (lm rv 3 : Nat)] 29)) from below_alloc hw1.out _)
          have s3 : wr.heap.size < (w1.alloc (.cells #[.bool rn, .int .u64 (lm rv 0 : Nat), .int .u64 (lm rv 1 : Nat), .int .u64 (lm rv 2 : Nat), .int .u64 (lm rv 3 : Nat)] 29)).heap.size := by simp; omega
          generalize w1.alloc (.cells #[.bool rn, .int .u64 (lm rv 0 : Nat), .int .u64 (lm rv 1 : Nat), .int .u64 (lm rv 2 : Nat), .int .u64 (lm rv 3 : Nat)] 29) = w5 at *
          obtain ⟨_, _, _, _, _, _, _, _, _, _⟩ := K5.out.all
          obtain ⟨_, _, _, _, _, _, _, _, _, _⟩ := R5.out.all
          (obtain ⟨C_, hC⟩ : ∃ C : World → Prop, C = fun w' => Below (w5).heap.size (w5) w' := ⟨_, rfl⟩; have HC := Lib.hid hC; have hne : ∀ p : Prop, (∀ w1 : World, C_ w1 → p) = p := fun p => propext ⟨fun h => h (w5) (by rw [hC]; exact Below.refl _ _), fun h _ _ => h⟩; clear hC; refine wp_region_quiet_cls (C := C_) (by kernel_rfl) (by kernel_rfl) (by rw [HC.out]; exact (Below.refl _ _).drew) ?_)
          (go_big_quiet_want; go_big_quiet_op; go_big_quiet_on)
          (go_big_quiet_want; refine ⟨.agg #[.bool nh, .int .u64 (lm vh 0 : Nat), .int .u64 (lm vh 1 : Nat), .int .u64 (lm vh 2 : Nat), .int .u64 (lm vh 3 : Nat)], fun w1 hw1 => ?_, ?_⟩; (rw [HC.out] at hw1; obtain ⟨_, _, _, _, _⟩ := (K5.out.below hw1).all; simp [Oper.quietAt, go_sem, *]); (try simp only [Act.put, List.setIfInBounds_toArray, List.set_cons_zero, List.set_cons_succ]); go_big_quiet_on)
          (go_big_quiet_want; go_big_quiet_op; go_big_quiet_on)
          (go_big_quiet_want; go_big_quiet_op; go_big_quiet_on)
          (go_big_quiet_want; go_big_quiet_op; go_big_quiet_on)
          (go_big_quiet_want; refine ⟨.pointer (some ⟨g, m * 10, none⟩), fun w1 hw1 => ?_, ?_⟩; (rw [HC.out] at hw1; obtain ⟨_, _, _, _, _⟩ := (K5.out.below hw1).all; simp [Oper.quietAt, go_sem, *]); (try simp only [Act.put, List.setIfInBounds_toArray, List.set_cons_zero, List.set_cons_succ]); go_big_quiet_on)
          (go_big_quiet_want; go_big_quiet_op; go_big_quiet_on)
          (go_big_quiet_want; refine ⟨.agg #[.bool yn, .int .u64 (lm yv 0 : Nat), .int .u64 (lm yv 1 : Nat), .int .u64 (lm yv 2 : Nat), .int .u64 (lm yv 3 : Nat)], fun w1 hw1 => ?_, ?_⟩; (rw [HC.out] at hw1; obtain ⟨_, _, _, _, _⟩ := (R5.out.below hw1).all; simp [Oper.quietAt, go_sem, *]); (try simp only [Act.put, List.setIfInBounds_toArray, List.set_cons_zero, List.set_cons_succ]); go_big_quiet_on)
          (go_big_quiet_want; go_big_quiet_op; refine ⟨.int .i64 z2, fun w1 hw1 => ?_, ?_⟩; (rw [HC.out] at hw1 ⊢; with_reducible refine (C2.out _).mono ?_; rintro e w4 ⟨rfl, hb4⟩; exact ⟨rfl, below_trans hw1 hb4⟩); go_big_quiet_on)
          (go_big_quiet_want; refine ⟨.bool (decide (0 < z2)), fun w1 hw1 => ?_, ?_⟩; (rw [HC.out] at hw1; obtain ⟨_, _, _, _, _⟩ := (K5.out.below hw1).all; simp [Oper.quietAt, go_sem, *]); (try simp only [Act.put, List.setIfInBounds_toArray, List.set_cons_zero, List.set_cons_succ]); go_big_quiet_on)
          (refine wpQuiet_nil ?_; intro w2 hw2; rw [HC.out] at hw2)
          have K2 := Lib.hid (K5.out.below hw2)
          have R2 := Lib.hid (R5.out.below hw2)
          obtain ⟨_, _, _, _, _, _, _, _, _, _⟩ := K2.out.all
          obtain ⟨_, _, _, _, _, _, _, _, _, _⟩ := R2.out.all
          have hw6 : Below wr.heap.size wr w2 := (hw5.out).trans (below_weak hw2 (by omega))
          have I2 := Lib.hid (IH.out.drop hw6)
          have hfz : ∀ j, w2.frozen? ⟨g, j, none⟩ = false := fun j => by
            have o := I2.out.o
            rw [← HM.out.2.1] at o
            exact o.frozenAt j
          by_cases cz2 : 0 < z2
          · repeat any_goals (first | go_skip | go_guarded | go_step | go_upon | (simp only []; done))
            go_roundw
            case rel =>
              refine ⟨k + 1, by omega, rfl, ?_⟩
              rw [HS.out, stepJ_app, if_pos ((J.out).1 rfl)]
              have hp := JoinI.put I2.out HM.out.1 HM.out.2.2 ((J2.out).1 cz2)
              rw [← HX.out.2.2.1, ← HX.out.2.2.2] at hp
              exact hp
            case measure => simp [intOf]; omega
          · repeat any_goals (first | go_skip | go_guarded | go_step | go_upon | (simp only []; done))
            go_roundw
            case rel =>
              refine ⟨k + 1, by omega, rfl, ?_⟩
              rw [HS.out, stepJ_app, if_pos ((J.out).1 rfl), upTo_keep (fun c => cz2 ((J2.out).2 c))]
              exact I2.out
            case measure => simp [intOf]; omega
        | true =>
          by_cases cz : z1 ≤ 0
          · repeat any_goals (first | (go_at_call 64; with_reducible refine (CN.out _).mono ?_; rintro e w1 ⟨rfl, hb1⟩; have K1 := Lib.hid (k10_new.below hb1); have R1 := Lib.hid (hR.out.below (below_trans (by (repeat first | with_reducible exact Below.refl _ _ | with_reducible assumption | with_reducible refine Below.drew ?_ | with_reducible refine below_alloc ?_ _ | ((with_reducible refine Below.setCell ?_ ?_ _); rotate_left; (focus (first | with_reducible exact Nat.le_refl _ | (simp; done) | (simp; omega) | omega))) | (with_reducible refine below_trans ?_ (by assumption)))) hb1)); obtain ⟨_, _, _, _, _, _, _, _, _, _⟩ := K1.out.all; obtain ⟨_, _, _, _, _, _, _, _, _, _⟩ := R1.out.all; have s1 : wr.heap.size < w1.heap.size := (by have := hb1.size; simp at this; omega); have s2 : g < w1.heap.size := (by omega); have hw1 := Lib.hid (show Below wr.heap.size wr w1 from below_trans (by (repeat first | with_reducible exact Below.refl _ _ | with_reducible assumption | with_reducible refine Below.drew ?_ | with_reducible refine below_alloc ?_ _ | ((with_reducible refine Below.setCell ?_ ?_ _); rotate_left; (focus (first | with_reducible exact Nat.le_refl _ | (simp; done) | (simp; omega) | omega))) | (with_reducible refine below_trans ?_ (by assumption)))) hb1)) | (go_at_call 27; with_reducible refine (C1.out _).mono ?_; rintro e w5 ⟨rfl, hb5⟩; have K5 := Lib.hid ((K1.out.below (below_alloc (Below.refl _ _) _)).below hb5); have R5 := Lib.hid ((R1.out.below (below_alloc (Below.refl _ _) _)).below hb5); obtain ⟨_, _, _, _, _, _, _, _, _, _⟩ := K5.out.all; obtain ⟨_, _, _, _, _, _, _, _, _, _⟩ := R5.out.all; have s3 : wr.heap.size < w5.heap.size := (by have := hb5.size; simp at this; omega); have hw5 := Lib.hid (show Below wr.heap.size wr w5 from hw1.out.trans (below_weak (below_trans (by (repeat first | with_reducible exact Below.refl _ _ | with_reducible assumption | with_reducible refine Below.drew ?_ | with_reducible refine below_alloc ?_ _ | ((with_reducible refine Below.setCell ?_ ?_ _); rotate_left; (focus (first | with_reducible exact Nat.le_refl _ | (simp; done) | (simp; omega) | omega))) | (with_reducible refine below_trans ?_ (by assumption)))) hb5) (by omega)))) | go_skip | go_guarded | go_step | go_upon | (dsimp only []))
            (obtain ⟨C_, hC⟩ : ∃ C : World → Prop, C = fun w' => Below (w5).heap.size (w5) w' := ⟨_, rfl⟩; have HC := Lib.hid hC; have hne : ∀ p : Prop, (∀ w1 : World, C_ w1 → p) = p := fun p => propext ⟨fun h => h (w5) (by rw [hC]; exact Below.refl _ _), fun h _ _ => h⟩; clear hC; refine wp_region_quiet_cls (C := C_) (by kernel_rfl) (by kernel_rfl) (by rw [HC.out]; exact (Below.refl _ _).drew) ?_)
            (go_big_quiet_want; go_big_quiet_op; go_big_quiet_on)
            (go_big_quiet_want; refine ⟨.agg #[.bool nh, .int .u64 (lm vh 0 : Nat), .int .u64 (lm vh 1 : Nat), .int .u64 (lm vh 2 : Nat), .int .u64 (lm vh 3 : Nat)], fun w1 hw1 => ?_, ?_⟩; (rw [HC.out] at hw1; obtain ⟨_, _, _, _, _⟩ := (K5.out.below hw1).all; simp [Oper.quietAt, go_sem, *]); (try simp only [Act.put, List.setIfInBounds_toArray, List.set_cons_zero, List.set_cons_succ]); go_big_quiet_on)
            (go_big_quiet_want; go_big_quiet_op; go_big_quiet_on)
            (go_big_quiet_want; go_big_quiet_op; go_big_quiet_on)
            (go_big_quiet_want; go_big_quiet_op; go_big_quiet_on)
            (go_big_quiet_want; refine ⟨.pointer (some ⟨g, m * 10, none⟩), fun w1 hw1 => ?_, ?_⟩; (rw [HC.out] at hw1; obtain ⟨_, _, _, _, _⟩ := (K5.out.below hw1).all; simp [Oper.quietAt, go_sem, *]); (try simp only [Act.put, List.setIfInBounds_toArray, List.set_cons_zero, List.set_cons_succ]); go_big_quiet_on)
            (go_big_quiet_want; go_big_quiet_op; go_big_quiet_on)
            (go_big_quiet_want; refine ⟨.agg #[.bool yn, .int .u64 (lm yv 0 : Nat), .int .u64 (lm yv 1 : Nat), .int .u64 (lm yv 2 : Nat), .int .u64 (lm yv 3 : Nat)], fun w1 hw1 => ?_, ?_⟩; (rw [HC.out] at hw1; obtain ⟨_, _, _, _, _⟩ := (R5.out.below hw1).all; simp [Oper.quietAt, go_sem, *]); (try simp only [Act.put, List.setIfInBounds_toArray, List.set_cons_zero, List.set_cons_succ]); go_big_quiet_on)
            (go_big_quiet_want; go_big_quiet_op; refine ⟨.int .i64 z2, fun w1 hw1 => ?_, ?_⟩; (rw [HC.out] at hw1 ⊢; with_reducible refine (C2.out _).mono ?_; rintro e w4 ⟨rfl, hb4⟩; exact ⟨rfl, below_trans hw1 hb4⟩); go_big_quiet_on)
            (go_big_quiet_want; refine ⟨.bool (decide (0 < z2)), fun w1 hw1 => ?_, ?_⟩; (rw [HC.out] at hw1; obtain ⟨_, _, _, _, _⟩ := (K5.out.below hw1).all; simp [Oper.quietAt, go_sem, *]); (try simp only [Act.put, List.setIfInBounds_toArray, List.set_cons_zero, List.set_cons_succ]); go_big_quiet_on)
            (refine wpQuiet_nil ?_; intro w2 hw2; rw [HC.out] at hw2)
            have K2 := Lib.hid (K5.out.below hw2)
            have R2 := Lib.hid (R5.out.below hw2)
            obtain ⟨_, _, _, _, _, _, _, _, _, _⟩ := K2.out.all
            obtain ⟨_, _, _, _, _, _, _, _, _, _⟩ := R2.out.all
            have hw6 : Below wr.heap.size wr w2 := (hw5.out).trans (below_weak hw2 (by omega))
            have I2 := Lib.hid (IH.out.drop hw6)
            have hfz : ∀ j, w2.frozen? ⟨g, j, none⟩ = false := fun j => by
              have o := I2.out.o
              rw [← HM.out.2.1] at o
              exact o.frozenAt j
            by_cases cz2 : 0 < z2
            · repeat any_goals (first | go_skip | go_guarded | go_step | go_upon | (simp only []; done))
              go_roundw
              case rel =>
                refine ⟨k + 1, by omega, rfl, ?_⟩
                rw [HS.out, stepJ_app, if_pos (((J.out).2 rfl).1 cz)]
                have hp := JoinI.put I2.out HM.out.1 HM.out.2.2 ((J2.out).1 cz2)
                rw [← HX.out.2.2.1, ← HX.out.2.2.2] at hp
                exact hp
              case measure => simp [intOf]; omega
            · repeat any_goals (first | go_skip | go_guarded | go_step | go_upon | (simp only []; done))
              go_roundw
              case rel =>
                refine ⟨k + 1, by omega, rfl, ?_⟩
                rw [HS.out, stepJ_app, if_pos (((J.out).2 rfl).1 cz), upTo_keep (fun c => cz2 ((J2.out).2 c))]
                exact I2.out
              case measure => simp [intOf]; omega
          · repeat any_goals (first | (go_at_call 64; with_reducible refine (CN.out _).mono ?_; rintro e w1 ⟨rfl, hb1⟩; have K1 := Lib.hid (k10_new.below hb1); have R1 := Lib.hid (hR.out.below (below_trans (by (repeat first | with_reducible exact Below.refl _ _ | with_reducible assumption | with_reducible refine Below.drew ?_ | with_reducible refine below_alloc ?_ _ | ((with_reducible refine Below.setCell ?_ ?_ _); rotate_left; (focus (first | with_reducible exact Nat.le_refl _ | (simp; done) | (simp; omega) | omega))) | (with_reducible refine below_trans ?_ (by assumption)))) hb1)); obtain ⟨_, _, _, _, _, _, _, _, _, _⟩ := K1.out.all; obtain ⟨_, _, _, _, _, _, _, _, _, _⟩ := R1.out.all; have s1 : wr.heap.size < w1.heap.size := (by have := hb1.size; simp at this; omega); have s2 : g < w1.heap.size := (by omega); have hw1 := Lib.hid (show Below wr.heap.size wr w1 from below_trans (by (repeat first | with_reducible exact Below.refl _ _ | with_reducible assumption | with_reducible refine Below.drew ?_ | with_reducible refine below_alloc ?_ _ | ((with_reducible refine Below.setCell ?_ ?_ _); rotate_left; (focus (first | with_reducible exact Nat.le_refl _ | (simp; done) | (simp; omega) | omega))) | (with_reducible refine below_trans ?_ (by assumption)))) hb1)) | (go_at_call 27; with_reducible refine (C1.out _).mono ?_; rintro e w5 ⟨rfl, hb5⟩; have K5 := Lib.hid ((K1.out.below (below_alloc (Below.refl _ _) _)).below hb5); have R5 := Lib.hid ((R1.out.below (below_alloc (Below.refl _ _) _)).below hb5); obtain ⟨_, _, _, _, _, _, _, _, _, _⟩ := K5.out.all; obtain ⟨_, _, _, _, _, _, _, _, _, _⟩ := R5.out.all; have s3 : wr.heap.size < w5.heap.size := (by have := hb5.size; simp at this; omega); have hw5 := Lib.hid (show Below wr.heap.size wr w5 from hw1.out.trans (below_weak (below_trans (by (repeat first | with_reducible exact Below.refl _ _ | with_reducible assumption | with_reducible refine Below.drew ?_ | with_reducible refine below_alloc ?_ _ | ((with_reducible refine Below.setCell ?_ ?_ _); rotate_left; (focus (first | with_reducible exact Nat.le_refl _ | (simp; done) | (simp; omega) | omega))) | (with_reducible refine below_trans ?_ (by assumption)))) hb5) (by omega)))) | (at_builtin; refine wpList_append_own _ rfl (.tmp 55) (.tmp 57) 49 rfl w.heap.size 51 i0 (.agg #[.bool false, .int .u64 0, .int .u64 0, .int .u64 0, .int .u64 0, .bool false, .int .u64 0, .int .u64 0, .int .u64 0, .int .u64 0]) 10 80 Tryz.underlying49 hi hz0 hz1 hz2 rfl (by decide) _ _ _ rfl ((IH.out.drop hw5.out).o.alloc _) ⟨w5.heap.size, 0, none⟩ 1 1 [.bool nl, .int .u64 (lm vl 0 : Nat), .int .u64 (lm vl 1 : Nat), .int .u64 (lm vl 2 : Nat), .int .u64 (lm vl 3 : Nat), .bool nh, .int .u64 (lm vh 0 : Nat), .int .u64 (lm vh 1 : Nat), .int .u64 (lm vh 2 : Nat), .int .u64 (lm vh 3 : Nat)] rfl rfl ten_cells ten_one BD.out.1 BD.out.2 (by have := IH.out.b.size; have := hw5.out.size; simp; omega) ?_; intro v' w6 hown' hgrow _) | go_skip | go_guarded | go_step | go_upon | (dsimp only []))
            go_roundw
            case rel =>
              refine ⟨k + 1, by omega, rfl, ?_⟩
              rw [HS.out, stepJ_app, if_neg (fun c => cz (((J.out).2 rfl).2 c))]
              exact (IH.out.drop hw5.out).keep rfl (by rw [← HE.out]; exact hown') hgrow
            case measure => simp [intOf]; omega
    · have hk' : k = n := by omega
      subst hk'
      have i1 : ¬ (k : Int) < (k : Int) := by omega
      have ht : l.take k = l := by rw [HN.out, List.take_length]
      rw [ht] at I
      have IH := Lib.hid I
      have hW := I.b
      clear I ht
      repeat any_goals (first | go_skip | go_guarded | go_step | go_upon | (simp only []; done))
      exact bodyPost_ret (v := u3) (by simp [results, Tryz.results62, go_sem]) rfl ⟨_, rfl, IH.out.o, hW⟩
end Go.Proofs.YtekeedjhaakbhaaGreatDoor

namespace Go.Proofs.YtekeedjhaakbhaaGreatDoor
open Go.RowKit
theorem neqI_run (s t : Bool) (a0 a1 a2 a3 b0 b1 b2 b3 : Int) (w : World) :
    (binOp .neq 29 (.agg #[.bool s, .int .u64 a0, .int .u64 a1, .int .u64 a2, .int .u64 a3]) (.agg #[.bool t, .int .u64 b0, .int .u64 b1, .int .u64 b2, .int .u64 b3])).run Tryz.prog w = .ok (.bool (!eqI s t a0 a1 a2 a3 b0 b1 b2 b3)) w := by
  unfold eqI
  cases s <;> cases t <;> by_cases e0 : a0 = b0 <;> by_cases e1 : a1 = b1 <;> by_cases e2 : a2 = b2 <;> by_cases e3 : a3 = b3 <;> simp [go_sem, e0, e1, e2, e3]
theorem OpenI.keep2 {w wr wg w2 : World} {E m : Nat} {v v' : Value} {ks : List Sp} {x : Sp} (h : OpenI w wr E v ks) (hb : Below wr.heap.size wr wg) (hm : m = ks.length + 1)
    (h2 : w2.ownsRow (E + 1 + 1) 37 12 v' m (encS ks ++ x.cells)) (hg : wg.grownBy w2 v.ownBlock) : OpenI w w2 E v' (ks ++ [x]) := by
  subst hm
  have hs := hg.size
  have hle := h.l
  have hbs := hb.size
  have B2 : Below (E + 1 + 1) wr w2 := (below_weak hb hle.2).grown hg (by omega) (fun k hk => (h.o.lt _ hk).1)
  refine ⟨?_, h.e.below B2, h.b.trans (below_weak B2 (by omega)), by omega, by omega⟩
  have e : encS (ks ++ [x]) = encS ks ++ x.cells := by unfold encS; rw [List.flatMap_append]; simp
  rw [e, List.length_append]
  exact h2
theorem twelve_cells {w1 : World} {B : Nat} {t : TypeId} {v0 v1 v2 v3 v4 v5 v6 v7 v8 v9 v10 v11 : Value} (hB : B = w1.heap.size) : ∀ (j : Nat) (u : Value), [v0, v1, v2, v3, v4, v5, v6, v7, v8, v9, v10, v11][j]? = some u → (w1.alloc (.cells #[v0, v1, v2, v3, v4, v5, v6, v7, v8, v9, v10, v11] t)).cell? ((⟨B, 0, none⟩ : Addr).add j) = some u := by
  subst hB
  intro j u hj
  match j, hj with
  | 0, hj => simp at hj; subst hj; simp [Addr.add, go_sem]
  | 1, hj => simp at hj; subst hj; simp [Addr.add, go_sem]
  | 2, hj => simp at hj; subst hj; simp [Addr.add, go_sem]
  | 3, hj => simp at hj; subst hj; simp [Addr.add, go_sem]
  | 4, hj => simp at hj; subst hj; simp [Addr.add, go_sem]
  | 5, hj => simp at hj; subst hj; simp [Addr.add, go_sem]
  | 6, hj => simp at hj; subst hj; simp [Addr.add, go_sem]
  | 7, hj => simp at hj; subst hj; simp [Addr.add, go_sem]
  | 8, hj => simp at hj; subst hj; simp [Addr.add, go_sem]
  | 9, hj => simp at hj; subst hj; simp [Addr.add, go_sem]
  | 10, hj => simp at hj; subst hj; simp [Addr.add, go_sem]
  | 11, hj => simp at hj; subst hj; simp [Addr.add, go_sem]
  | n + 12, hj => simp at hj
theorem twelve_one {b0 b1 b2 b3 : Bool} {x0 x1 x2 x3 x4 x5 x6 x7 : Int} : ∀ u ∈ ([.bool b0, .bool b1, .bool b2, .int .u64 x0, .int .u64 x1, .int .u64 x2, .int .u64 x3, .bool b3, .int .u64 x4, .int .u64 x5, .int .u64 x6, .int .u64 x7] : List Value), u.oneCell' = true := by
  intro v hv
  simp only [List.mem_cons, List.not_mem_nil, or_false] at hv
  rcases hv with rfl | rfl | rfl | rfl | rfl | rfl | rfl | rfl | rfl | rfl | rfl | rfl <;> rfl
theorem open_enc {x : Cl} {nl nh b1 b2 : Bool} {vl vh : Nat} (h : nl = sg x.lo ∧ vl = ab x.lo ∧ nh = sg x.hi ∧ vh = ab x.hi)
    (q1 : eqI nl true (lm vl 0 : Nat) (lm vl 1 : Nat) (lm vl 2 : Nat) (lm vl 3 : Nat) (lm topN 0 : Nat) (lm topN 1 : Nat) (lm topN 2 : Nat) (lm topN 3 : Nat) = b1)
    (q2 : eqI nh false (lm vh 0 : Nat) (lm vh 1 : Nat) (lm vh 2 : Nat) (lm vh 3 : Nat) (lm topN 0 : Nat) (lm topN 1 : Nat) (lm topN 2 : Nat) (lm topN 3 : Nat) = b2) :
    (opS x).cells = [.bool (!b1), .bool (!b2), .bool (if b1 then false else nl), .int .u64 (if b1 then 0 else (lm vl 0 : Nat)), .int .u64 (if b1 then 0 else (lm vl 1 : Nat)), .int .u64 (if b1 then 0 else (lm vl 2 : Nat)), .int .u64 (if b1 then 0 else (lm vl 3 : Nat)),
      .bool (if b2 then false else nh), .int .u64 (if b2 then 0 else (lm vh 0 : Nat)), .int .u64 (if b2 then 0 else (lm vh 1 : Nat)), .int .u64 (if b2 then 0 else (lm vh 2 : Nat)), .int .u64 (if b2 then 0 else (lm vh 3 : Nat))] := by
  obtain ⟨rfl, rfl, rfl, rfl⟩ := h
  rw [eqI_num (show ab x.lo < 2 ^ 256 from x.hl) topN_lt] at q1
  rw [eqI_num (show ab x.hi < 2 ^ 256 from x.hh) topN_lt] at q2
  subst q1 q2
  have h1 : (sg x.lo = true ∧ ab x.lo = topN) ↔ (sg x.lo == true && ab x.lo == topN) = true := by simp
  have h2 : (sg x.hi = false ∧ ab x.hi = topN) ↔ (sg x.hi == false && ab x.hi == topN) = true := by simp
  unfold opS Sp.cells
  simp only [h1, h2]
  cases (sg x.lo == true && ab x.lo == topN) <;> cases (sg x.hi == false && ab x.hi == topN) <;> simp [lm_zero]
set_option maxRecDepth 20000 in
set_option maxHeartbeats 8000000 in
theorem open_walk (B : Nat) (v0 : Value) (l : List Cl) (w : World) (h : w.ownsRow B 51 10 v0 l.length (encs l)) (hn : l.length ≤ 1000000) :
    Calls Tryz.prog 61 #[v0] w fun e w' => ∃ v, e = .returned v ∧ w'.ownsRow w.heap.size 37 12 v l.length (encS (l.map opS)) ∧ Below w.heap.size w w' := by
  have H := Lib.hid h
  clear h
  obtain ⟨n, hln⟩ : ∃ n, n = l.length := ⟨_, rfl⟩
  obtain ⟨a0, q0, e0⟩ : ∃ a c, v0 = .slice a n c := by
    rcases H.out.2 with ⟨rfl, h0⟩ | ⟨g, cap, cur, rfl, -⟩
    · exact ⟨none, 0, by rw [hln, h0]⟩
    · exact ⟨_, _, by rw [hln]⟩
  obtain ⟨i0, hi, hz0, hz1, hz2⟩ := info_parts infoS
  have HC := Lib.hid fun (k : Nat) (hk : k < l.length) (wr : World) (hb : Below w.heap.size w wr) => cl_lit H.out hk hb
  have HN := Lib.hid hln
  rw [← hln] at HC hn ⊢
  subst e0
  clear hln H
  go_enter Tryz.func61, Tryz.ntmps61
  repeat any_goals (first | (go_at_call 54; with_reducible refine (Ends_any _).mono ?_; rintro e W1 ⟨rfl, hB1⟩) | go_skip | go_guarded | go_step | go_upon | (dsimp only []))
  go_loopw [5, 15] (fun v i wr => ∃ k : Nat, k ≤ n ∧ i = .int .i64 k ∧ OpenI w wr W1.heap.size v ((l.take k).map opS)) (fun _ i _ => n - (intOf i).toNat)
  case atStart =>
    exact ⟨0, Nat.zero_le _, rfl, ⟨World.ownsRow_nil _ _ _ _, ⟨by simp [go_sem], by simp [go_sem]⟩, by (repeat first | with_reducible exact Below.refl _ _ | with_reducible assumption | with_reducible refine Below.drew ?_ | with_reducible refine below_alloc ?_ _ | ((with_reducible refine Below.setCell ?_ ?_ _); rotate_left; (focus (first | with_reducible exact Nat.le_refl _ | (simp; done) | (simp; omega) | omega))) | (with_reducible refine below_trans ?_ (by assumption))), hB1.size, by simp⟩⟩
  case round =>
    obtain ⟨k, hk, rfl, I⟩ := hrel
    have IH := Lib.hid I
    clear I
    by_cases hkn : k < n
    · obtain ⟨g', cap', x, hv, hb, hx, hc1, hc2, hc⟩ := HC.out k hkn wr IH.out.b
      injection hv with hv1 _ hv3
      subst hv1 hv3
      have hE := Lib.hid IH.out.l
      obtain ⟨nl, hnl⟩ : ∃ n, n = sg x.lo := ⟨_, rfl⟩
      obtain ⟨vl, hvl⟩ : ∃ n, n = ab x.lo := ⟨_, rfl⟩
      obtain ⟨nh, hnh⟩ : ∃ n, n = sg x.hi := ⟨_, rfl⟩
      obtain ⟨vh, hvh⟩ : ∃ n, n = ab x.hi := ⟨_, rfl⟩
      rw [← hnl, ← hvl, ← hnh, ← hvh] at hc
      have HX := Lib.hid (And.intro hnl (And.intro hvl (And.intro hnh hvh)))
      have HL := Lib.hid hx
      obtain ⟨c0, c1, c2, c3, c4, c5, c6, c7, c8, c9⟩ := hc.all
      obtain ⟨e0, e1, e2, e3, e4⟩ := IH.out.e.a
      obtain ⟨g0, g1, g2, g3, g4⟩ := IH.out.e.b
      have x1 : W1.heap.size < wr.heap.size := by have := hE.out.2; omega
      have x2 : W1.heap.size + 1 < wr.heap.size := hE.out.2
      have i1 : (k : Int) < (n : Int) := by omega
      have i2 : (0 : Int) ≤ (k : Int) := by omega
      have i5 : (k : Int).toNat = k := rfl
      clear hc hnl hvl hnh hvh hx
      obtain ⟨b1, q1⟩ : ∃ b, eqI nl true (lm vl 0 : Nat) (lm vl 1 : Nat) (lm vl 2 : Nat) (lm vl 3 : Nat) (lm topN 0 : Nat) (lm topN 1 : Nat) (lm topN 2 : Nat) (lm topN 3 : Nat) = b := ⟨_, rfl⟩
      obtain ⟨b2, q2⟩ : ∃ b, eqI nh false (lm vh 0 : Nat) (lm vh 1 : Nat) (lm vh 2 : Nat) (lm vh 3 : Nat) (lm topN 0 : Nat) (lm topN 1 : Nat) (lm topN 2 : Nat) (lm topN 3 : Nat) = b := ⟨_, rfl⟩
      have N1 : ∀ wx : World, (binOp .neq 29 (.agg #[.bool (nl ), .int .u64 (lm ( vl) 0 : Nat), .int .u64 (lm ( vl) 1 : Nat), .int .u64 (lm ( vl) 2 : Nat), .int .u64 (lm ( vl) 3 : Nat)]) (.agg #[.bool (true ), .int .u64 (lm ( topN) 0 : Nat), .int .u64 (lm ( topN) 1 : Nat), .int .u64 (lm ( topN) 2 : Nat), .int .u64 (lm ( topN) 3 : Nat)])).run Tryz.prog wx = .ok (.bool (!b1)) wx := fun wx => by rw [neqI_run, q1]
      have N2 : ∀ wx : World, (binOp .neq 29 (.agg #[.bool (nh ), .int .u64 (lm ( vh) 0 : Nat), .int .u64 (lm ( vh) 1 : Nat), .int .u64 (lm ( vh) 2 : Nat), .int .u64 (lm ( vh) 3 : Nat)]) (.agg #[.bool (false ), .int .u64 (lm ( topN) 0 : Nat), .int .u64 (lm ( topN) 1 : Nat), .int .u64 (lm ( topN) 2 : Nat), .int .u64 (lm ( topN) 3 : Nat)])).run Tryz.prog wx = .ok (.bool (!b2)) wx := fun wx => by rw [neqI_run, q2]
      have Q1 := Lib.hid q1
      have Q2 := Lib.hid q2
      have hlen : ((l.take k).map opS).length = k := by
        rw [List.length_map, List.length_take, ← HN.out]
        omega
      have bd1 : ((l.take k).map opS).length + 1 ≤ maxLen := by rw [hlen]; simp only [maxLen]; omega
      have bd2 : (((l.take k).map opS).length + 1) * 88 ≤ 140737488355328 := by rw [hlen]; omega
      have BD := Lib.hid (And.intro bd1 bd2)
      have hS : ((l.take (k + 1)).map opS) = (l.take k).map opS ++ [opS x] := by
        rw [List.take_add_one, HL.out, List.map_append]
        rfl
      have HS := Lib.hid hS
      clear q1 q2 hlen bd1 bd2 hS
      cases b1 <;> cases b2
      all_goals simp only [Bool.not_true, Bool.not_false] at N1 N2
      · have EN := Lib.hid (open_enc (x := x) HX.out Q1.out Q2.out : (opS x).cells = [.bool true, .bool true, .bool nl, .int .u64 (lm vl 0 : Nat), .int .u64 (lm vl 1 : Nat), .int .u64 (lm vl 2 : Nat), .int .u64 (lm vl 3 : Nat), .bool nh, .int .u64 (lm vh 0 : Nat), .int .u64 (lm vh 1 : Nat), .int .u64 (lm vh 2 : Nat), .int .u64 (lm vh 3 : Nat)])
        repeat any_goals (first | go_skip | go_guarded | go_step | go_upon | (simp only []; done))
        go_region
        repeat any_goals (first | (at_builtin; refine wpList_append_own _ rfl (.tmp 38) (.tmp 40) 22 rfl (W1.heap.size + 1 + 1) 37 i0 (.agg #[.bool false, .bool false, .bool false, .int .u64 0, .int .u64 0, .int .u64 0, .int .u64 0, .bool false, .int .u64 0, .int .u64 0, .int .u64 0, .int .u64 0]) 12 88 Tryz.underlying22 hi hz0 hz1 hz2 rfl (by decide) _ _ _ rfl (own_below IH.out.o (by (repeat first | with_reducible exact Below.refl _ _ | with_reducible assumption | with_reducible refine Below.drew ?_ | with_reducible refine below_alloc ?_ _ | ((with_reducible refine Below.setCell ?_ ?_ _); rotate_left; (focus (first | with_reducible exact Nat.le_refl _ | (simp; done) | (simp; omega) | omega))) | (with_reducible refine below_trans ?_ (by assumption))))) ⟨wr.heap.size + 1 + 1, 0, none⟩ 1 1 [.bool true, .bool true, .bool nl, .int .u64 (lm vl 0 : Nat), .int .u64 (lm vl 1 : Nat), .int .u64 (lm vl 2 : Nat), .int .u64 (lm vl 3 : Nat), .bool nh, .int .u64 (lm vh 0 : Nat), .int .u64 (lm vh 1 : Nat), .int .u64 (lm vh 2 : Nat), .int .u64 (lm vh 3 : Nat)] rfl rfl (twelve_cells (by simp)) twelve_one BD.out.1 BD.out.2 (by have := hE.out.2; simp; omega) ?_; intro v' w2 hown' hgrow _) | go_skip | go_guarded | go_step | go_upon | (dsimp only []))
        go_roundw
        case rel => exact ⟨k + 1, by omega, rfl, by rw [HS.out]; exact OpenI.keep2 IH.out (by (repeat first | with_reducible exact Below.refl _ _ | with_reducible assumption | with_reducible refine Below.drew ?_ | with_reducible refine below_alloc ?_ _ | ((with_reducible refine Below.setCell ?_ ?_ _); rotate_left; (focus (first | with_reducible exact Nat.le_refl _ | (simp; done) | (simp; omega) | omega))) | (with_reducible refine below_trans ?_ (by assumption)))) rfl (by rw [EN.out]; exact hown') hgrow⟩
        case measure => simp [intOf]; omega
      · have EN := Lib.hid (open_enc (x := x) HX.out Q1.out Q2.out : (opS x).cells = [.bool true, .bool false, .bool nl, .int .u64 (lm vl 0 : Nat), .int .u64 (lm vl 1 : Nat), .int .u64 (lm vl 2 : Nat), .int .u64 (lm vl 3 : Nat), .bool false, .int .u64 0, .int .u64 0, .int .u64 0, .int .u64 0])
        repeat any_goals (first | go_skip | go_guarded | go_step | go_upon | (simp only []; done))
        go_region
        repeat any_goals (first | (at_builtin; refine wpList_append_own _ rfl (.tmp 38) (.tmp 40) 22 rfl (W1.heap.size + 1 + 1) 37 i0 (.agg #[.bool false, .bool false, .bool false, .int .u64 0, .int .u64 0, .int .u64 0, .int .u64 0, .bool false, .int .u64 0, .int .u64 0, .int .u64 0, .int .u64 0]) 12 88 Tryz.underlying22 hi hz0 hz1 hz2 rfl (by decide) _ _ _ rfl (own_below IH.out.o (by (repeat first | with_reducible exact Below.refl _ _ | with_reducible assumption | with_reducible refine Below.drew ?_ | with_reducible refine below_alloc ?_ _ | ((with_reducible refine Below.setCell ?_ ?_ _); rotate_left; (focus (first | with_reducible exact Nat.le_refl _ | (simp; done) | (simp; omega) | omega))) | (with_reducible refine below_trans ?_ (by assumption))))) ⟨wr.heap.size + 1 + 1, 0, none⟩ 1 1 [.bool true, .bool false, .bool nl, .int .u64 (lm vl 0 : Nat), .int .u64 (lm vl 1 : Nat), .int .u64 (lm vl 2 : Nat), .int .u64 (lm vl 3 : Nat), .bool false, .int .u64 0, .int .u64 0, .int .u64 0, .int .u64 0] rfl rfl (twelve_cells (by simp)) twelve_one BD.out.1 BD.out.2 (by have := hE.out.2; simp; omega) ?_; intro v' w2 hown' hgrow _) | go_skip | go_guarded | go_step | go_upon | (dsimp only []))
        go_roundw
        case rel => exact ⟨k + 1, by omega, rfl, by rw [HS.out]; exact OpenI.keep2 IH.out (by (repeat first | with_reducible exact Below.refl _ _ | with_reducible assumption | with_reducible refine Below.drew ?_ | with_reducible refine below_alloc ?_ _ | ((with_reducible refine Below.setCell ?_ ?_ _); rotate_left; (focus (first | with_reducible exact Nat.le_refl _ | (simp; done) | (simp; omega) | omega))) | (with_reducible refine below_trans ?_ (by assumption)))) rfl (by rw [EN.out]; exact hown') hgrow⟩
        case measure => simp [intOf]; omega
      · have EN := Lib.hid (open_enc (x := x) HX.out Q1.out Q2.out : (opS x).cells = [.bool false, .bool true, .bool false, .int .u64 0, .int .u64 0, .int .u64 0, .int .u64 0, .bool nh, .int .u64 (lm vh 0 : Nat), .int .u64 (lm vh 1 : Nat), .int .u64 (lm vh 2 : Nat), .int .u64 (lm vh 3 : Nat)])
        repeat any_goals (first | go_skip | go_guarded | go_step | go_upon | (simp only []; done))
        go_region
        repeat any_goals (first | (at_builtin; refine wpList_append_own _ rfl (.tmp 38) (.tmp 40) 22 rfl (W1.heap.size + 1 + 1) 37 i0 (.agg #[.bool false, .bool false, .bool false, .int .u64 0, .int .u64 0, .int .u64 0, .int .u64 0, .bool false, .int .u64 0, .int .u64 0, .int .u64 0, .int .u64 0]) 12 88 Tryz.underlying22 hi hz0 hz1 hz2 rfl (by decide) _ _ _ rfl (own_below IH.out.o (by (repeat first | with_reducible exact Below.refl _ _ | with_reducible assumption | with_reducible refine Below.drew ?_ | with_reducible refine below_alloc ?_ _ | ((with_reducible refine Below.setCell ?_ ?_ _); rotate_left; (focus (first | with_reducible exact Nat.le_refl _ | (simp; done) | (simp; omega) | omega))) | (with_reducible refine below_trans ?_ (by assumption))))) ⟨wr.heap.size + 1 + 1, 0, none⟩ 1 1 [.bool false, .bool true, .bool false, .int .u64 0, .int .u64 0, .int .u64 0, .int .u64 0, .bool nh, .int .u64 (lm vh 0 : Nat), .int .u64 (lm vh 1 : Nat), .int .u64 (lm vh 2 : Nat), .int .u64 (lm vh 3 : Nat)] rfl rfl (twelve_cells (by simp)) twelve_one BD.out.1 BD.out.2 (by have := hE.out.2; simp; omega) ?_; intro v' w2 hown' hgrow _) | go_skip | go_guarded | go_step | go_upon | (dsimp only []))
        go_roundw
        case rel => exact ⟨k + 1, by omega, rfl, by rw [HS.out]; exact OpenI.keep2 IH.out (by (repeat first | with_reducible exact Below.refl _ _ | with_reducible assumption | with_reducible refine Below.drew ?_ | with_reducible refine below_alloc ?_ _ | ((with_reducible refine Below.setCell ?_ ?_ _); rotate_left; (focus (first | with_reducible exact Nat.le_refl _ | (simp; done) | (simp; omega) | omega))) | (with_reducible refine below_trans ?_ (by assumption)))) rfl (by rw [EN.out]; exact hown') hgrow⟩
        case measure => simp [intOf]; omega
      · have EN := Lib.hid (open_enc (x := x) HX.out Q1.out Q2.out : (opS x).cells = [.bool false, .bool false, .bool false, .int .u64 0, .int .u64 0, .int .u64 0, .int .u64 0, .bool false, .int .u64 0, .int .u64 0, .int .u64 0, .int .u64 0])
        repeat any_goals (first | go_skip | go_guarded | go_step | go_upon | (simp only []; done))
        go_region
        repeat any_goals (first | (at_builtin; refine wpList_append_own _ rfl (.tmp 38) (.tmp 40) 22 rfl (W1.heap.size + 1 + 1) 37 i0 (.agg #[.bool false, .bool false, .bool false, .int .u64 0, .int .u64 0, .int .u64 0, .int .u64 0, .bool false, .int .u64 0, .int .u64 0, .int .u64 0, .int .u64 0]) 12 88 Tryz.underlying22 hi hz0 hz1 hz2 rfl (by decide) _ _ _ rfl (own_below IH.out.o (by (repeat first | with_reducible exact Below.refl _ _ | with_reducible assumption | with_reducible refine Below.drew ?_ | with_reducible refine below_alloc ?_ _ | ((with_reducible refine Below.setCell ?_ ?_ _); rotate_left; (focus (first | with_reducible exact Nat.le_refl _ | (simp; done) | (simp; omega) | omega))) | (with_reducible refine below_trans ?_ (by assumption))))) ⟨wr.heap.size + 1 + 1, 0, none⟩ 1 1 [.bool false, .bool false, .bool false, .int .u64 0, .int .u64 0, .int .u64 0, .int .u64 0, .bool false, .int .u64 0, .int .u64 0, .int .u64 0, .int .u64 0] rfl rfl (twelve_cells (by simp)) twelve_one BD.out.1 BD.out.2 (by have := hE.out.2; simp; omega) ?_; intro v' w2 hown' hgrow _) | go_skip | go_guarded | go_step | go_upon | (dsimp only []))
        go_roundw
        case rel => exact ⟨k + 1, by omega, rfl, by rw [HS.out]; exact OpenI.keep2 IH.out (by (repeat first | with_reducible exact Below.refl _ _ | with_reducible assumption | with_reducible refine Below.drew ?_ | with_reducible refine below_alloc ?_ _ | ((with_reducible refine Below.setCell ?_ ?_ _); rotate_left; (focus (first | with_reducible exact Nat.le_refl _ | (simp; done) | (simp; omega) | omega))) | (with_reducible refine below_trans ?_ (by assumption)))) rfl (by rw [EN.out]; exact hown') hgrow⟩
        case measure => simp [intOf]; omega
    · have hk' : k = n := by omega
      subst hk'
      have i1 : ¬ (k : Int) < (k : Int) := by omega
      have ht : l.take k = l := by rw [HN.out, List.take_length]
      have hr := IH.out.o
      rw [ht, List.length_map, ← HN.out] at hr
      have hr2 := Lib.hid (hr.mono (base' := w.heap.size) (by have := IH.out.l; omega))
      have hW := IH.out.b
      clear hr ht
      repeat any_goals (first | go_skip | go_guarded | go_step | go_upon | (simp only []; done))
      exact bodyPost_ret (v := u5) (by simp [results, Tryz.results61, go_sem]) rfl ⟨_, rfl, hr2.out, hW⟩
end Go.Proofs.YtekeedjhaakbhaaGreatDoor

namespace Go.Proofs.YtekeedjhaakbhaaGreatDoor
open Go.RowKit
/-- the answer is the set P in its one form, in a row of the call's own -/
def SOut (P : Int → Prop) (M : Nat) (w : World) (v : Value) (w' : World) : Prop :=
  ∃ l : List Cl, SetF l P ∧ l.length ≤ M ∧ w'.ownsRow w.heap.size 37 12 v l.length (encS (l.map opS)) ∧ Below w.heap.size w w'
/-- the same of closed intervals -/
def COut (P : Int → Prop) (M : Nat) (w : World) (v : Value) (w' : World) : Prop :=
  ∃ l : List Cl, SetF l P ∧ l.length ≤ M ∧ w'.ownsRow w.heap.size 51 10 v l.length (encs l) ∧ Below w.heap.size w w'
theorem mayR_i {S : Nat → Sp} {n i : Nat} (h : mayR S n = true) (hi : i < n) : mayS (S i) = true := by
  unfold mayR at h
  simp only [Bool.and_eq_true, Bool.not_eq_true'] at h
  have := anyN_no h.2 hi
  simpa using this
theorem mayS_n {s : Sp} (h : mayS s = true) : mayI s.nl s.vl = true ∧ mayI s.nh s.vh = true := by
  unfold mayS at h
  simp only [Bool.and_eq_true] at h
  exact ⟨h.1.1.1, h.1.1.2⟩
theorem mayR_n {S : Nat → Sp} {n : Nat} (h : mayR S n = true) : ∀ i, i < n → mayI (S i).nl (S i).vl = true ∧ mayI (S i).nh (S i).vh = true := fun _ hi => mayS_n (mayR_i h hi)
theorem mayR_le {S : Nat → Sp} {n : Nat} (h : mayR S n = true) : n ≤ 1000 := by
  unfold mayR at h
  simp only [Bool.and_eq_true, decide_eq_true_eq] at h
  exact h.1
theorem open_out {P : Int → Prop} {M : Nat} {w w1 : World} {v : Value} {l : List Cl} (hf : SetF l P) (hl : l.length ≤ M) (hM : M ≤ 1000000) (B : Nat) (ho : w1.ownsRow B 51 10 v l.length (encs l)) (hb : Below w.heap.size w w1) :
    Calls Tryz.prog 61 #[v] w1 fun e w' => ∃ v', e = .returned v' ∧ SOut P M w v' w' := by
  refine (open_walk B v l w1 ho (by omega)).mono ?_
  rintro e w2 ⟨v', rfl, h1, h2⟩
  exact ⟨v', rfl, l, hf, hl, h1.mono hb.size, hb.trans (below_weak h2 hb.size)⟩
theorem join_out {P : Int → Prop} {M : Nat} {w w1 : World} {v : Value} {l : List Cl} (h1 : ∀ c ∈ l.map Cl.iv, c.1 ≤ c.2) (h2 : Rise (l.map Cl.iv)) (h3 : ∀ z, MemL (l.map Cl.iv) z ↔ P z) (hl : l.length ≤ M) (hM : M ≤ 1000000) (B : Nat)
    (ho : w1.ownsRow B 51 10 v l.length (encs l)) (hb : Below w.heap.size w w1) :
    Calls Tryz.prog 62 #[v] w1 fun e w' => ∃ v', e = .returned v' ∧ COut P M w v' w' := by
  refine (joined_any B v l w1 ho (by omega)).mono ?_
  rintro e w2 ⟨v', rfl, h4, h5⟩
  have hk := foldJ_len l []
  exact ⟨v', rfl, joinK l, joinK_set h1 h2 h3, by unfold joinK; simp only [List.length_nil] at hk; omega, h4.mono hb.size, hb.trans (below_weak h5 hb.size)⟩
/-- closeAll's answer: a rising row of the set -/
def ROut (P : Int → Prop) (M : Nat) (w : World) (v : Value) (w' : World) : Prop :=
  ∃ l : List Cl, (∀ c ∈ l.map Cl.iv, c.1 ≤ c.2) ∧ Rise (l.map Cl.iv) ∧ (∀ z, MemL (l.map Cl.iv) z ↔ P z) ∧ l.length ≤ M ∧ w'.ownsRow w.heap.size 51 10 v l.length (encs l) ∧ Below w.heap.size w w'
theorem close_out (a : Option Addr) (n c : Nat) (S : Nat → Sp) (w w1 : World) (h : SRow w1 a n c S) (hn : n ≤ 1000000) (hM : mayR S n = true) (hb : Below w.heap.size w w1) :
    Calls Tryz.prog 25 #[.slice a n c] w1 fun e w' => ∃ v, e = .returned v ∧ ROut (InS S n) n w v w' := by
  refine (closeAll_any a n c S w1 h hn (mayR_n hM)).mono ?_
  rintro e w2 ⟨v, l, rfl, ⟨l0, h0, hp⟩, hr, ho, h5⟩
  have hs := closed_spec h0 hp
  have hle : l.length ≤ n := by
    have e1 : l0.length = (ivs S n).length := by rw [← h0, List.length_map]
    have := ivs_le S n
    rw [hp.length_eq]
    omega
  exact ⟨v, rfl, l, hs.1, hr, hs.2, hle, ho.mono hb.size, hb.trans (below_weak h5 hb.size)⟩
set_option maxRecDepth 20000 in
set_option maxHeartbeats 1600000 in
/-- **Norm.** -/
theorem Norm_any (a : Option Addr) (n c : Nat) (S : Nat → Sp) (w : World) (h : SRow w a n c S) (hn : n ≤ 1000000) :
    Calls Tryz.prog 34 #[.slice a n c] w fun e w' => ∃ v, e = .returned v ∧ SOut (fun z => mayR S n = true ∧ InS S n z) n w v w' := by
  have H := Lib.hid h
  obtain ⟨R, hR⟩ : ∃ R, R = mayR S n := ⟨_, rfl⟩
  have M := Lib.hid fun wx (hx : SRow wx a n c S) => PMayS_any a n c S wx hx
  rw [← hR] at M
  have HR := Lib.hid hR
  clear h hR
  go_enter Tryz.func34, Tryz.ntmps34
  cases R with
  | false =>
    repeat any_goals (first | (go_at_call 16; with_reducible refine (M.out _ H.out).mono ?_; rintro e w1 ⟨rfl, hb1⟩) | go_skip | go_guarded | go_step | go_upon | (dsimp only []))
    exact bodyPost_ret (v := .slice none 0 0) (by simp [results, Tryz.results34, go_sem]) rfl ⟨_, rfl, [], SetF.nil (fun z hz => by rw [← HR.out] at hz; cases hz.1), Nat.zero_le _, World.ownsRow_nil _ _ _ _, by (repeat first | with_reducible exact Below.refl _ _ | with_reducible assumption | with_reducible refine Below.drew ?_ | with_reducible refine below_alloc ?_ _ | ((with_reducible refine Below.setCell ?_ ?_ _); rotate_left; (focus (first | with_reducible exact Nat.le_refl _ | (simp; done) | (simp; omega) | omega))) | (with_reducible refine below_trans ?_ (by assumption)))⟩
  | true =>
    repeat any_goals (first | (go_at_call 16; with_reducible refine (M.out _ H.out).mono ?_; rintro e w1 ⟨rfl, hb1⟩) | (go_at_call 25; with_reducible refine (close_out a n c S w w1 (H.out.below hb1) hn HR.out.symm hb1).mono ?_; rintro e w2 ⟨v2, rfl, h2⟩; dsimp only []) | (go_at_call 62; obtain ⟨l2, q1, q2, q3, q4, q5, q6⟩ := h2; with_reducible refine (join_out q1 q2 q3 q4 hn _ q5 q6).mono ?_; rintro e w3 ⟨v3, rfl, h3⟩; dsimp only []) | (go_at_call 61; obtain ⟨l3, r1, r2, r3, r4⟩ := h3; with_reducible refine (open_out r1 r2 hn _ r3 r4).mono ?_; rintro e w4 ⟨v4, rfl, h4⟩; dsimp only []) | go_skip | go_guarded | go_step | go_upon | (dsimp only []))
    exact bodyPost_ret (v := v4) (by simp [results, Tryz.results34, go_sem]) rfl ⟨_, rfl, by
      obtain ⟨l4, s1, s2, s3, s4⟩ := h4
      exact ⟨l4, s1.congr (fun z => ⟨fun hz => ⟨HR.out.symm, hz⟩, fun hz => hz.2⟩), s2, s3, s4⟩⟩
end Go.Proofs.YtekeedjhaakbhaaGreatDoor
