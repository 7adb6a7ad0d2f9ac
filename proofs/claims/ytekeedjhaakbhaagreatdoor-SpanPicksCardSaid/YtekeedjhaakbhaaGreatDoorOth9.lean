/- Others, Not of the program. -/
import Derived.Test.YtekeedjhaakbhaaGreatDoorOthN
import Derived.Test.YtekeedjhaakbhaaGreatDoorAppC
namespace Go.Proofs.YtekeedjhaakbhaaGreatDoor
open Go.RowKit
theorem oth_ne {w : World} {B E T n : Nat} {v : Value} {xs : List Value} (h : w.ownsRow B T 10 v n xs) (hB : E < B) : v.ownBlock = none ∨ v.ownBlock ≠ some E := by
  by_cases c : v.ownBlock = none
  · exact .inl c
  · refine .inr fun e => ?_
    have := (h.lt E e).1
    omega
theorem oth_ne2 {w : World} {B E T n : Nat} {v : Value} {xs : List Value} (h : w.ownsRow B T 10 v n xs) (hB : w.heap.size ≤ E) : some E ≠ v.ownBlock := by
  intro e
  have := (h.lt E e.symm).2
  omega
theorem oth_bw {w w3 wr : World} {E : Nat} (hb : Below w.heap.size w w3) (h1 : w.heap.size ≤ E) (h2 : E + 1 < w3.heap.size) (hg : w3.grownBy wr (some E)) : Below w.heap.size w wr :=
  hb.grown hg (by omega) (fun k hk => by cases hk; exact h1)
theorem oth_enc {fr : Int} {x : Cl} {b : fr.natAbs < 2 ^ 256} {fn pn : Bool} {fv pv : Nat} (c : fr ≤ x.lo - 1) (hf : fn = sg fr ∧ fv = ab fr) (hp : pn = sg (x.lo - 1) ∧ pv = ab (x.lo - 1)) :
    (cutC fr x b c).enc = [.bool fn, .int .u64 (lm fv 0 : Nat), .int .u64 (lm fv 1 : Nat), .int .u64 (lm fv 2 : Nat), .int .u64 (lm fv 3 : Nat), .bool pn, .int .u64 (lm pv 0 : Nat), .int .u64 (lm pv 1 : Nat), .int .u64 (lm pv 2 : Nat), .int .u64 (lm pv 3 : Nat)] := by
  obtain ⟨rfl, rfl⟩ := hf
  obtain ⟨rfl, rfl⟩ := hp
  rfl
set_option maxRecDepth 20000 in
set_option maxHeartbeats 8000000 in
theorem Others_any (a : Option Addr) (n0 c : Nat) (S : Nat → Sp) (w : World) (h : SRow w a n0 c S) (hn0 : n0 ≤ 400000) (hM0 : mayR S n0 = true) :
    Calls Tryz.prog 35 #[.slice a n0 c] w fun e w' => ∃ v, e = .returned v ∧ SOut (fun z => inR z ∧ ¬ InS S n0 z) (n0 + 1) w v w' := by
  have H := Lib.hid h
  have HM := Lib.hid hM0
  clear h hM0
  obtain ⟨i0, hi, hz0, hz1, hz2⟩ := info_parts infoC
  go_enter Tryz.func35, Tryz.ntmps35
  repeat any_goals (first | (go_at_call 54; with_reducible refine (Ends_any _).mono ?_; rintro e W1 ⟨rfl, hB1⟩) | go_skip | go_guarded | go_step | go_upon | (dsimp only []))
  have FE := Lib.hid ((@iboxF_new W1 true topN 29).alloc (.cells #[.bool false, .int .u64 (lm topN 0 : Nat), .int .u64 (lm topN 1 : Nat), .int .u64 (lm topN 2 : Nat), .int .u64 (lm topN 3 : Nat)] 29))
  have FT := Lib.hid (@iboxF_new (W1.alloc (.cells #[.bool true, .int .u64 (lm topN 0 : Nat), .int .u64 (lm topN 1 : Nat), .int .u64 (lm topN 2 : Nat), .int .u64 (lm topN 3 : Nat)] 29)) false topN 29)
  have HB := Lib.hid (show Below w.heap.size w ((W1.alloc (.cells #[.bool true, .int .u64 (lm topN 0 : Nat), .int .u64 (lm topN 1 : Nat), .int .u64 (lm topN 2 : Nat), .int .u64 (lm topN 3 : Nat)] 29)).alloc (.cells #[.bool false, .int .u64 (lm topN 0 : Nat), .int .u64 (lm topN 1 : Nat), .int .u64 (lm topN 2 : Nat), .int .u64 (lm topN 3 : Nat)] 29)) from by (repeat first | with_reducible exact Below.refl _ _ | with_reducible assumption | with_reducible refine Below.drew ?_ | with_reducible refine below_alloc ?_ _ | ((with_reducible refine Below.setCell ?_ ?_ _); rotate_left; (focus (first | with_reducible exact Nat.le_refl _ | (simp; done) | (simp; omega) | omega))) | (with_reducible refine below_trans ?_ (by assumption))))
  have HE := Lib.hid (show W1.heap.size + 2 = ((W1.alloc (.cells #[.bool true, .int .u64 (lm topN 0 : Nat), .int .u64 (lm topN 1 : Nat), .int .u64 (lm topN 2 : Nat), .int .u64 (lm topN 3 : Nat)] 29)).alloc (.cells #[.bool false, .int .u64 (lm topN 0 : Nat), .int .u64 (lm topN 1 : Nat), .int .u64 (lm topN 2 : Nat), .int .u64 (lm topN 3 : Nat)] 29)).heap.size from by simp)
  rw [show (W1.alloc (.cells #[.bool true, .int .u64 (lm topN 0 : Nat), .int .u64 (lm topN 1 : Nat), .int .u64 (lm topN 2 : Nat), .int .u64 (lm topN 3 : Nat)] 29)).heap.size = W1.heap.size + 1 from by simp] at FT
  generalize (W1.alloc (.cells #[.bool true, .int .u64 (lm topN 0 : Nat), .int .u64 (lm topN 1 : Nat), .int .u64 (lm topN 2 : Nat), .int .u64 (lm topN 3 : Nat)] 29)).alloc (.cells #[.bool false, .int .u64 (lm topN 0 : Nat), .int .u64 (lm topN 1 : Nat), .int .u64 (lm topN 2 : Nat), .int .u64 (lm topN 3 : Nat)] 29) = w0 at *
  obtain ⟨E, hEe⟩ : ∃ E, E = W1.heap.size := ⟨_, rfl⟩
  rw [← hEe] at FE FT HE ⊢
  have hE1 := Lib.hid (show w.heap.size ≤ E by rw [hEe]; exact hB1.size)
  clear hEe hB1
  refine (close_out a n0 c S w0 _ (H.out.below HB.out) (by omega) HM.out (Below.refl _ _)).mono ?_
  rintro e w1 ⟨v1, rfl, h1⟩
  dsimp only []
  repeat any_goals (first | go_skip | go_guarded | go_step | go_upon | (simp only []; done))
  obtain ⟨l1, p1, p2, p3, p4, p5, p6⟩ := h1
  refine (join_out p1 p2 p3 p4 (by omega) _ p5 p6).mono ?_
  rintro e w3 ⟨v3, rfl, h3⟩
  obtain ⟨l, q1, q2, q3, q4⟩ := h3
  obtain ⟨a3, c3, rfl⟩ := own_shape q3
  dsimp only []
  have SF := Lib.hid q1
  have H3 := Lib.hid q3
  obtain ⟨n, hln⟩ : ∃ n, n = l.length := ⟨_, rfl⟩
  have HC := Lib.hid fun (k : Nat) (hk : k < l.length) (wr : World) (hg : w3.grownBy wr (some E)) => cl_lit (H3.out.kept hg (oth_ne H3.out (by have := HE.out; omega))) hk (Below.refl _ _)
  have HN := Lib.hid hln
  rw [← hln] at HC q2 ⊢
  have hn : n ≤ 400000 := by omega
  have HQ := Lib.hid (And.intro q2 q4)
  have FT3 := Lib.hid (FT.out.below q4)
  have FE3 := Lib.hid (FE.out.below q4)
  have HE3 := Lib.hid (show E + 1 < w3.heap.size by have := HE.out; have := q4.size; omega)
  have HB3 := Lib.hid (show Below w.heap.size w w3 from HB.out.trans (below_weak q4 (HB.out.size)))
  have f0 : sg (-tI) = true := by decide +kernel
  have f1 : ab (-tI) = topN := by decide +kernel
  clear p1 p2 p3 p4 p5 p6 q1 q2 q3 q4 hln FE FT H
  repeat any_goals (first | go_skip | go_guarded | go_step | go_upon | (simp only []; done))
  go_loopw [5, 20] (fun v i wr => ∃ (k : Nat) (ks : List Cl) (fr : Int), k ≤ n ∧ i = .int .i64 k ∧ OthI w3 wr E v ks fr ∧ OthP l ks k fr) (fun _ i _ => n - (intOf i).toNat)
  case atStart =>
    exact ⟨0, [], -tI, Nat.zero_le _, rfl, ⟨World.ownsRow_nil _ _ _ _, World.grownBy.refl _ _, by rw [f0, f1]; exact FE3.out, HE3.out⟩, OthP.start l⟩
  case round =>
    obtain ⟨k, ks, fr, hk, rfl, I, OP⟩ := hrel
    have IH := Lib.hid I
    have HP := Lib.hid OP
    obtain ⟨fn, hfn⟩ : ∃ n, n = sg fr := ⟨_, rfl⟩
    obtain ⟨fv, hfv⟩ : ∃ n, n = ab fr := ⟨_, rfl⟩
    have hIa := I.a
    rw [← hfn, ← hfv] at hIa
    have A0 := Lib.hid hIa
    have HF := Lib.hid (And.intro hfn hfv)
    have bd1 : ks.length + 1 ≤ maxLen := by have := OP.len; simp only [maxLen]; omega
    have bd2 : (ks.length + 1) * 80 ≤ 140737488355328 := by have := OP.len; omega
    have BD := Lib.hid (And.intro bd1 bd2)
    have hEr : E < wr.heap.size := hIa.b.l
    obtain ⟨_, _, _, _, _⟩ := hIa.all
    clear I OP hIa bd1 bd2 hfn hfv
    by_cases hkn : k < n
    · obtain ⟨g', cap', x, hv, hb, hx, hc1, hc2, hc⟩ := HC.out k hkn wr IH.out.g
      injection hv with hv1 _ hv3
      subst hv1 hv3
      obtain ⟨nl, hnl⟩ : ∃ n, n = sg x.lo := ⟨_, rfl⟩
      obtain ⟨vl, hvl⟩ : ∃ n, n = ab x.lo := ⟨_, rfl⟩
      obtain ⟨nh, hnh⟩ : ∃ n, n = sg x.hi := ⟨_, rfl⟩
      obtain ⟨vh, hvh⟩ : ∃ n, n = ab x.hi := ⟨_, rfl⟩
      obtain ⟨q1, hq1⟩ : ∃ q, nxOk (-1) (sg x.lo) (ab x.lo) = q := ⟨_, rfl⟩
      obtain ⟨q2, hq2⟩ : ∃ q, nxOk 1 (sg x.hi) (ab x.hi) = q := ⟨_, rfl⟩
      obtain ⟨pn, hpn⟩ : ∃ n, n = sg (nx (-1) (sg x.lo) (ab x.lo)) := ⟨_, rfl⟩
      obtain ⟨pv, hpv⟩ : ∃ n, n = ab (nx (-1) (sg x.lo) (ab x.lo)) := ⟨_, rfl⟩
      obtain ⟨rn, hrn⟩ : ∃ n, n = sg (nx 1 (sg x.hi) (ab x.hi)) := ⟨_, rfl⟩
      obtain ⟨rv, hrv⟩ : ∃ n, n = ab (nx 1 (sg x.hi) (ab x.hi)) := ⟨_, rfl⟩
      obtain ⟨z, hz⟩ : ∃ z, cmpI (sg fr) (ab fr) (sg (nx (-1) (sg x.lo) (ab x.lo))) (ab (nx (-1) (sg x.lo) (ab x.lo))) = z := ⟨_, rfl⟩
      have J1 := Lib.hid (oth_prev HP.out.b q1 z hq1 hz)
      have J2 := Lib.hid (oth_next q2 hq2)
      have CP := Lib.hid fun wx => Prev_any (sg x.lo) (ab x.lo) x.hl wx
      have CN := Lib.hid fun wx => Next_any (sg x.hi) (ab x.hi) x.hh wx
      have CC := Lib.hid fun wx => Cmp_any (sg fr) (ab fr) HP.out.b (sg (nx (-1) (sg x.lo) (ab x.lo))) (ab (nx (-1) (sg x.lo) (ab x.lo))) (nx_lt _ _ _) wx
      rw [hz] at CC
      rw [hq1] at CP
      rw [hq2] at CN
      rw [← hpn, ← hpv, ← hnl, ← hvl] at CP
      rw [← hrn, ← hrv, ← hnh, ← hvh] at CN
      rw [← hpn, ← hpv, ← HF.out.1, ← HF.out.2] at CC
      rw [← hnl, ← hvl, ← hnh, ← hvh] at hc
      have HX := Lib.hid (And.intro hpn (And.intro hpv (And.intro hrn hrv)))
      have ST := Lib.hid (HP.out.step hx)
      obtain ⟨c0, c1, c2, c3, c4, c5, c6, c7, c8, c9⟩ := hc.all
      have i1 : (k : Int) < (n : Int) := by omega
      have i2 : (0 : Int) ≤ (k : Int) := by omega
      have i5 : (k : Int).toNat = k := rfl
      clear hc hnl hvl hnh hvh hpn hpv hrn hrv hx hq1 hq2 hz
      cases q1 with
      | false =>
        have cnd := J1.out.1 rfl
        cases q2 with
        | false =>
          repeat any_goals (first | (go_at_call 63; with_reducible refine (CP.out _).mono ?_; rintro e wp ⟨rfl, hbp⟩; have Kp := Lib.hid (k10_new.below hbp); have Ap := Lib.hid (A0.out.below (below_trans (by (repeat first | with_reducible exact Below.refl _ _ | with_reducible assumption | with_reducible refine Below.drew ?_ | with_reducible refine below_alloc ?_ _ | ((with_reducible refine Below.setCell ?_ ?_ _); rotate_left; (focus (first | with_reducible exact Nat.le_refl _ | (simp; done) | (simp; omega) | omega))) | (with_reducible refine below_trans ?_ (by assumption)))) hbp)); have hwp := Lib.hid (show Below wr.heap.size wr wp from below_trans (by (repeat first | with_reducible exact Below.refl _ _ | with_reducible assumption | with_reducible refine Below.drew ?_ | with_reducible refine below_alloc ?_ _ | ((with_reducible refine Below.setCell ?_ ?_ _); rotate_left; (focus (first | with_reducible exact Nat.le_refl _ | (simp; done) | (simp; omega) | omega))) | (with_reducible refine below_trans ?_ (by assumption)))) hbp); obtain ⟨_, _, _, _, _, _, _, _, _, _⟩ := Kp.out.all; obtain ⟨_, _, _, _, _⟩ := Ap.out.all; have s1 : wr.heap.size < wp.heap.size := (by have := hbp.size; simp at this; omega); have s2 : E < wp.heap.size := (by omega)) | (go_at_call 64; with_reducible refine (CN.out _).mono ?_; rintro e wn ⟨rfl, hbn⟩; have In := Lib.hid ((IH.out.drop hwp.out).drop (below_trans (by (repeat first | with_reducible exact Below.refl _ _ | with_reducible assumption | with_reducible refine Below.drew ?_ | with_reducible refine below_alloc ?_ _ | ((with_reducible refine Below.setCell ?_ ?_ _); rotate_left; (focus (first | with_reducible exact Nat.le_refl _ | (simp; done) | (simp; omega) | omega))) | (with_reducible refine below_trans ?_ (by assumption)))) hbn)); obtain ⟨_, _, _, _, _⟩ := In.out.a.all) | go_skip | go_guarded | go_step | go_upon | (dsimp only []))
          refine (open_out (w := w) (M := n0 + 1) (oth_set SF.out ((ST.out.2 cnd).2 (J2.out.1 rfl))) (by have := HP.out.len; have := HQ.out.1; simp; omega) (by omega) _ (In.out.drop (by (repeat first | with_reducible exact Below.refl _ _ | with_reducible assumption | with_reducible refine Below.drew ?_ | with_reducible refine below_alloc ?_ _ | ((with_reducible refine Below.setCell ?_ ?_ _); rotate_left; (focus (first | with_reducible exact Nat.le_refl _ | (simp; done) | (simp; omega) | omega))) | (with_reducible refine below_trans ?_ (by assumption))))).o (oth_bw HB3.out hE1.out HE3.out (In.out.drop (by (repeat first | with_reducible exact Below.refl _ _ | with_reducible assumption | with_reducible refine Below.drew ?_ | with_reducible refine below_alloc ?_ _ | ((with_reducible refine Below.setCell ?_ ?_ _); rotate_left; (focus (first | with_reducible exact Nat.le_refl _ | (simp; done) | (simp; omega) | omega))) | (with_reducible refine below_trans ?_ (by assumption))))).g)).mono ?_
          rintro e wz ⟨vz, rfl, hz⟩
          dsimp only []
          repeat any_goals (first | go_skip | go_guarded | go_step | go_upon | (simp only []; done))
          exact bodyPost_ret (v := vz) (by simp [results, Tryz.results35, go_sem]) rfl ⟨_, rfl, hz⟩
        | true =>
          repeat any_goals (first | (go_at_call 63; with_reducible refine (CP.out _).mono ?_; rintro e wp ⟨rfl, hbp⟩; have Kp := Lib.hid (k10_new.below hbp); have Ap := Lib.hid (A0.out.below (below_trans (by (repeat first | with_reducible exact Below.refl _ _ | with_reducible assumption | with_reducible refine Below.drew ?_ | with_reducible refine below_alloc ?_ _ | ((with_reducible refine Below.setCell ?_ ?_ _); rotate_left; (focus (first | with_reducible exact Nat.le_refl _ | (simp; done) | (simp; omega) | omega))) | (with_reducible refine below_trans ?_ (by assumption)))) hbp)); have hwp := Lib.hid (show Below wr.heap.size wr wp from below_trans (by (repeat first | with_reducible exact Below.refl _ _ | with_reducible assumption | with_reducible refine Below.drew ?_ | with_reducible refine below_alloc ?_ _ | ((with_reducible refine Below.setCell ?_ ?_ _); rotate_left; (focus (first | with_reducible exact Nat.le_refl _ | (simp; done) | (simp; omega) | omega))) | (with_reducible refine below_trans ?_ (by assumption)))) hbp); obtain ⟨_, _, _, _, _, _, _, _, _, _⟩ := Kp.out.all; obtain ⟨_, _, _, _, _⟩ := Ap.out.all; have s1 : wr.heap.size < wp.heap.size := (by have := hbp.size; simp at this; omega); have s2 : E < wp.heap.size := (by omega)) | (go_at_call 64; with_reducible refine (CN.out _).mono ?_; rintro e wn ⟨rfl, hbn⟩; have In := Lib.hid ((IH.out.drop hwp.out).drop (below_trans (by (repeat first | with_reducible exact Below.refl _ _ | with_reducible assumption | with_reducible refine Below.drew ?_ | with_reducible refine below_alloc ?_ _ | ((with_reducible refine Below.setCell ?_ ?_ _); rotate_left; (focus (first | with_reducible exact Nat.le_refl _ | (simp; done) | (simp; omega) | omega))) | (with_reducible refine below_trans ?_ (by assumption)))) hbn)); obtain ⟨_, _, _, _, _⟩ := In.out.a.all) | go_skip | go_guarded | go_step | go_upon | (dsimp only []))
          refine ⟨⟨k + 1, _, x.hi + 1, by omega, rfl, (In.out.put (by rw [← (J2.out.2 rfl).2]; exact HX.out.2.2.1) (by rw [← (J2.out.2 rfl).2]; exact HX.out.2.2.2)).drop (below_alloc (Below.refl _ _) _), (ST.out.2 cnd).1 (J2.out.2 rfl).1⟩, ?_⟩
          simp [intOf]
          omega
      | true =>
        by_cases cz : z ≤ 0
        · have cnd := (J1.out.2 rfl).1.1 cz
          have EN := Lib.hid (show (cutC fr x HP.out.b cnd).enc = [.bool fn, .int .u64 (lm fv 0 : Nat), .int .u64 (lm fv 1 : Nat), .int .u64 (lm fv 2 : Nat), .int .u64 (lm fv 3 : Nat), .bool pn, .int .u64 (lm pv 0 : Nat), .int .u64 (lm pv 1 : Nat), .int .u64 (lm pv 2 : Nat), .int .u64 (lm pv 3 : Nat)] from oth_enc cnd HF.out (by rw [← (J1.out.2 rfl).2]; exact ⟨HX.out.1, HX.out.2.1⟩))
          cases q2 with
          | false =>
            repeat any_goals (first | (go_at_call 63; with_reducible refine (CP.out _).mono ?_; rintro e wp ⟨rfl, hbp⟩; have Kp := Lib.hid (k10_new.below hbp); have Ap := Lib.hid (A0.out.below (below_trans (by (repeat first | with_reducible exact Below.refl _ _ | with_reducible assumption | with_reducible refine Below.drew ?_ | with_reducible refine below_alloc ?_ _ | ((with_reducible refine Below.setCell ?_ ?_ _); rotate_left; (focus (first | with_reducible exact Nat.le_refl _ | (simp; done) | (simp; omega) | omega))) | (with_reducible refine below_trans ?_ (by assumption)))) hbp)); have hwp := Lib.hid (show Below wr.heap.size wr wp from below_trans (by (repeat first | with_reducible exact Below.refl _ _ | with_reducible assumption | with_reducible refine Below.drew ?_ | with_reducible refine below_alloc ?_ _ | ((with_reducible refine Below.setCell ?_ ?_ _); rotate_left; (focus (first | with_reducible exact Nat.le_refl _ | (simp; done) | (simp; omega) | omega))) | (with_reducible refine below_trans ?_ (by assumption)))) hbp); obtain ⟨_, _, _, _, _, _, _, _, _, _⟩ := Kp.out.all; obtain ⟨_, _, _, _, _⟩ := Ap.out.all; have s1 : wr.heap.size < wp.heap.size := (by have := hbp.size; simp at this; omega); have s2 : E < wp.heap.size := (by omega)) | (go_at_call 27; with_reducible refine (CC.out _).mono ?_; rintro e wc ⟨rfl, hbc⟩; have Kc := Lib.hid ((Kp.out.below (below_alloc (Below.refl _ _) _)).below hbc); have Ac := Lib.hid ((Ap.out.alloc _).below hbc); have Gc := Lib.hid ((@ibox_new wp pn pv 29).below hbc); have hwc := Lib.hid (show Below wr.heap.size wr wc from hwp.out.trans (below_weak (below_trans (by (repeat first | with_reducible exact Below.refl _ _ | with_reducible assumption | with_reducible refine Below.drew ?_ | with_reducible refine below_alloc ?_ _ | ((with_reducible refine Below.setCell ?_ ?_ _); rotate_left; (focus (first | with_reducible exact Nat.le_refl _ | (simp; done) | (simp; omega) | omega))) | (with_reducible refine below_trans ?_ (by assumption)))) hbc) hwp.out.size)); obtain ⟨_, _, _, _, _, _, _, _, _, _⟩ := Kc.out.all; obtain ⟨_, _, _, _, _⟩ := Ac.out.all; obtain ⟨_, _, _, _, _⟩ := Gc.out.all) | (at_builtin; refine wpList_append_own _ rfl (.tmp 37) (.tmp 41) 49 rfl w3.heap.size 51 i0 (.agg #[.bool false, .int .u64 0, .int .u64 0, .int .u64 0, .int .u64 0, .bool false, .int .u64 0, .int .u64 0, .int .u64 0, .int .u64 0]) 10 80 Tryz.underlying49 hi hz0 hz1 hz2 rfl (by decide) _ _ _ rfl ((IH.out.drop hwc.out).o.alloc _) ⟨wc.heap.size, 0, none⟩ 1 1 [.bool fn, .int .u64 (lm fv 0 : Nat), .int .u64 (lm fv 1 : Nat), .int .u64 (lm fv 2 : Nat), .int .u64 (lm fv 3 : Nat), .bool pn, .int .u64 (lm pv 0 : Nat), .int .u64 (lm pv 1 : Nat), .int .u64 (lm pv 2 : Nat), .int .u64 (lm pv 3 : Nat)] rfl rfl ten_cells ten_one BD.out.1 BD.out.2 (by have := IH.out.g.size; have := hwc.out.size; simp; omega) ?_; intro v' wa hown' hgrow _; have Ka := Lib.hid (k10_grown (Kc.out.below (below_alloc (Below.refl _ _) _)) hgrow (oth_ne2 IH.out.o (Nat.le_refl _))); have Ia := Lib.hid (IH.out.keep (hwc.out.trans (below_weak (below_alloc (Below.refl _ _) _) hwc.out.size)) rfl (EN.out ▸ hown') hgrow); obtain ⟨_, _, _, _, _, _, _, _, _, _⟩ := Ka.out.all) | (go_at_call 64; with_reducible refine (CN.out _).mono ?_; rintro e wn ⟨rfl, hbn⟩; have In := Lib.hid (Ia.out.drop (below_trans (by (repeat first | with_reducible exact Below.refl _ _ | with_reducible assumption | with_reducible refine Below.drew ?_ | with_reducible refine below_alloc ?_ _ | ((with_reducible refine Below.setCell ?_ ?_ _); rotate_left; (focus (first | with_reducible exact Nat.le_refl _ | (simp; done) | (simp; omega) | omega))) | (with_reducible refine below_trans ?_ (by assumption)))) hbn)); obtain ⟨_, _, _, _, _⟩ := In.out.a.all) | go_skip | go_guarded | go_step | go_upon | (dsimp only []))
            refine (open_out (w := w) (M := n0 + 1) (oth_set SF.out ((ST.out.1 cnd).2 (J2.out.1 rfl))) (by have := HP.out.len; have := HQ.out.1; simp; omega) (by omega) _ (In.out.drop (by (repeat first | with_reducible exact Below.refl _ _ | with_reducible assumption | with_reducible refine Below.drew ?_ | with_reducible refine below_alloc ?_ _ | ((with_reducible refine Below.setCell ?_ ?_ _); rotate_left; (focus (first | with_reducible exact Nat.le_refl _ | (simp; done) | (simp; omega) | omega))) | (with_reducible refine below_trans ?_ (by assumption))))).o (oth_bw HB3.out hE1.out HE3.out (In.out.drop (by (repeat first | with_reducible exact Below.refl _ _ | with_reducible assumption | with_reducible refine Below.drew ?_ | with_reducible refine below_alloc ?_ _ | ((with_reducible refine Below.setCell ?_ ?_ _); rotate_left; (focus (first | with_reducible exact Nat.le_refl _ | (simp; done) | (simp; omega) | omega))) | (with_reducible refine below_trans ?_ (by assumption))))).g)).mono ?_
            rintro e wz ⟨vz, rfl, hz⟩
            dsimp only []
            repeat any_goals (first | go_skip | go_guarded | go_step | go_upon | (simp only []; done))
            exact bodyPost_ret (v := vz) (by simp [results, Tryz.results35, go_sem]) rfl ⟨_, rfl, hz⟩
          | true =>
            repeat any_goals (first | (go_at_call 63; with_reducible refine (CP.out _).mono ?_; rintro e wp ⟨rfl, hbp⟩; have Kp := Lib.hid (k10_new.below hbp); have Ap := Lib.hid (A0.out.below (below_trans (by (repeat first | with_reducible exact Below.refl _ _ | with_reducible assumption | with_reducible refine Below.drew ?_ | with_reducible refine below_alloc ?_ _ | ((with_reducible refine Below.setCell ?_ ?_ _); rotate_left; (focus (first | with_reducible exact Nat.le_refl _ | (simp; done) | (simp; omega) | omega))) | (with_reducible refine below_trans ?_ (by assumption)))) hbp)); have hwp := Lib.hid (show Below wr.heap.size wr wp from below_trans (by (repeat first | with_reducible exact Below.refl _ _ | with_reducible assumption | with_reducible refine Below.drew ?_ | with_reducible refine below_alloc ?_ _ | ((with_reducible refine Below.setCell ?_ ?_ _); rotate_left; (focus (first | with_reducible exact Nat.le_refl _ | (simp; done) | (simp; omega) | omega))) | (with_reducible refine below_trans ?_ (by assumption)))) hbp); obtain ⟨_, _, _, _, _, _, _, _, _, _⟩ := Kp.out.all; obtain ⟨_, _, _, _, _⟩ := Ap.out.all; have s1 : wr.heap.size < wp.heap.size := (by have := hbp.size; simp at this; omega); have s2 : E < wp.heap.size := (by omega)) | (go_at_call 27; with_reducible refine (CC.out _).mono ?_; rintro e wc ⟨rfl, hbc⟩; have Kc := Lib.hid ((Kp.out.below (below_alloc (Below.refl _ _) _)).below hbc); have Ac := Lib.hid ((Ap.out.alloc _).below hbc); have Gc := Lib.hid ((@ibox_new wp pn pv 29).below hbc); have hwc := Lib.hid (show Below wr.heap.size wr wc from hwp.out.trans (below_weak (below_trans (by (repeat first | with_reducible exact Below.refl _ _ | with_reducible assumption | with_reducible refine Below.drew ?_ | with_reducible refine below_alloc ?_ _ | ((with_reducible refine Below.setCell ?_ ?_ _); rotate_left; (focus (first | with_reducible exact Nat.le_refl _ | (simp; done) | (simp; omega) | omega))) | (with_reducible refine below_trans ?_ (by assumption)))) hbc) hwp.out.size)); obtain ⟨_, _, _, _, _, _, _, _, _, _⟩ := Kc.out.all; obtain ⟨_, _, _, _, _⟩ := Ac.out.all; obtain ⟨_, _, _, _, _⟩ := Gc.out.all) | (at_builtin; refine wpList_append_own _ rfl (.tmp 37) (.tmp 41) 49 rfl w3.heap.size 51 i0 (.agg #[.bool false, .int .u64 0, .int .u64 0, .int .u64 0, .int .u64 0, .bool false, .int .u64 0, .int .u64 0, .int .u64 0, .int .u64 0]) 10 80 Tryz.underlying49 hi hz0 hz1 hz2 rfl (by decide) _ _ _ rfl ((IH.out.drop hwc.out).o.alloc _) ⟨wc.heap.size, 0, none⟩ 1 1 [.bool fn, .int .u64 (lm fv 0 : Nat), .int .u64 (lm fv 1 : Nat), .int .u64 (lm fv 2 : Nat), .int .u64 (lm fv 3 : Nat), .bool pn, .int .u64 (lm pv 0 : Nat), .int .u64 (lm pv 1 : Nat), .int .u64 (lm pv 2 : Nat), .int .u64 (lm pv 3 : Nat)] rfl rfl ten_cells ten_one BD.out.1 BD.out.2 (by have := IH.out.g.size; have := hwc.out.size; simp; omega) ?_; intro v' wa hown' hgrow _; have Ka := Lib.hid (k10_grown (Kc.out.below (below_alloc (Below.refl _ _) _)) hgrow (oth_ne2 IH.out.o (Nat.le_refl _))); have Ia := Lib.hid (IH.out.keep (hwc.out.trans (below_weak (below_alloc (Below.refl _ _) _) hwc.out.size)) rfl (EN.out ▸ hown') hgrow); obtain ⟨_, _, _, _, _, _, _, _, _, _⟩ := Ka.out.all) | (go_at_call 64; with_reducible refine (CN.out _).mono ?_; rintro e wn ⟨rfl, hbn⟩; have In := Lib.hid (Ia.out.drop (below_trans (by (repeat first | with_reducible exact Below.refl _ _ | with_reducible assumption | with_reducible refine Below.drew ?_ | with_reducible refine below_alloc ?_ _ | ((with_reducible refine Below.setCell ?_ ?_ _); rotate_left; (focus (first | with_reducible exact Nat.le_refl _ | (simp; done) | (simp; omega) | omega))) | (with_reducible refine below_trans ?_ (by assumption)))) hbn)); obtain ⟨_, _, _, _, _⟩ := In.out.a.all) | go_skip | go_guarded | go_step | go_upon | (dsimp only []))
            refine ⟨⟨k + 1, _, x.hi + 1, by omega, rfl, (In.out.put (by rw [← (J2.out.2 rfl).2]; exact HX.out.2.2.1) (by rw [← (J2.out.2 rfl).2]; exact HX.out.2.2.2)).drop (below_alloc (Below.refl _ _) _), (ST.out.1 cnd).1 (J2.out.2 rfl).1⟩, ?_⟩
            simp [intOf]
            omega
        · have cnd := fun c => cz ((J1.out.2 rfl).1.2 c)
          cases q2 with
          | false =>
            repeat any_goals (first | (go_at_call 63; with_reducible refine (CP.out _).mono ?_; rintro e wp ⟨rfl, hbp⟩; have Kp := Lib.hid (k10_new.below hbp); have Ap := Lib.hid (A0.out.below (below_trans (by (repeat first | with_reducible exact Below.refl _ _ | with_reducible assumption | with_reducible refine Below.drew ?_ | with_reducible refine below_alloc ?_ _ | ((with_reducible refine Below.setCell ?_ ?_ _); rotate_left; (focus (first | with_reducible exact Nat.le_refl _ | (simp; done) | (simp; omega) | omega))) | (with_reducible refine below_trans ?_ (by assumption)))) hbp)); have hwp := Lib.hid (show Below wr.heap.size wr wp from below_trans (by (repeat first | with_reducible exact Below.refl _ _ | with_reducible assumption | with_reducible refine Below.drew ?_ | with_reducible refine below_alloc ?_ _ | ((with_reducible refine Below.setCell ?_ ?_ _); rotate_left; (focus (first | with_reducible exact Nat.le_refl _ | (simp; done) | (simp; omega) | omega))) | (with_reducible refine below_trans ?_ (by assumption)))) hbp); obtain ⟨_, _, _, _, _, _, _, _, _, _⟩ := Kp.out.all; obtain ⟨_, _, _, _, _⟩ := Ap.out.all; have s1 : wr.heap.size < wp.heap.size := (by have := hbp.size; simp at this; omega); have s2 : E < wp.heap.size := (by omega)) | (go_at_call 27; with_reducible refine (CC.out _).mono ?_; rintro e wc ⟨rfl, hbc⟩; have Kc := Lib.hid ((Kp.out.below (below_alloc (Below.refl _ _) _)).below hbc); have Ac := Lib.hid ((Ap.out.alloc _).below hbc); have Gc := Lib.hid ((@ibox_new wp pn pv 29).below hbc); have hwc := Lib.hid (show Below wr.heap.size wr wc from hwp.out.trans (below_weak (below_trans (by (repeat first | with_reducible exact Below.refl _ _ | with_reducible assumption | with_reducible refine Below.drew ?_ | with_reducible refine below_alloc ?_ _ | ((with_reducible refine Below.setCell ?_ ?_ _); rotate_left; (focus (first | with_reducible exact Nat.le_refl _ | (simp; done) | (simp; omega) | omega))) | (with_reducible refine below_trans ?_ (by assumption)))) hbc) hwp.out.size)); obtain ⟨_, _, _, _, _, _, _, _, _, _⟩ := Kc.out.all; obtain ⟨_, _, _, _, _⟩ := Ac.out.all; obtain ⟨_, _, _, _, _⟩ := Gc.out.all) | (go_at_call 64; with_reducible refine (CN.out _).mono ?_; rintro e wn ⟨rfl, hbn⟩; have In := Lib.hid ((IH.out.drop hwc.out).drop (below_trans (by (repeat first | with_reducible exact Below.refl _ _ | with_reducible assumption | with_reducible refine Below.drew ?_ | with_reducible refine below_alloc ?_ _ | ((with_reducible refine Below.setCell ?_ ?_ _); rotate_left; (focus (first | with_reducible exact Nat.le_refl _ | (simp; done) | (simp; omega) | omega))) | (with_reducible refine below_trans ?_ (by assumption)))) hbn)); obtain ⟨_, _, _, _, _⟩ := In.out.a.all) | go_skip | go_guarded | go_step | go_upon | (dsimp only []))
            refine (open_out (w := w) (M := n0 + 1) (oth_set SF.out ((ST.out.2 cnd).2 (J2.out.1 rfl))) (by have := HP.out.len; have := HQ.out.1; simp; omega) (by omega) _ (In.out.drop (by (repeat first | with_reducible exact Below.refl _ _ | with_reducible assumption | with_reducible refine Below.drew ?_ | with_reducible refine below_alloc ?_ _ | ((with_reducible refine Below.setCell ?_ ?_ _); rotate_left; (focus (first | with_reducible exact Nat.le_refl _ | (simp; done) | (simp; omega) | omega))) | (with_reducible refine below_trans ?_ (by assumption))))).o (oth_bw HB3.out hE1.out HE3.out (In.out.drop (by (repeat first | with_reducible exact Below.refl _ _ | with_reducible assumption | with_reducible refine Below.drew ?_ | with_reducible refine below_alloc ?_ _ | ((with_reducible refine Below.setCell ?_ ?_ _); rotate_left; (focus (first | with_reducible exact Nat.le_refl _ | (simp; done) | (simp; omega) | omega))) | (with_reducible refine below_trans ?_ (by assumption))))).g)).mono ?_
            rintro e wz ⟨vz, rfl, hz⟩
            dsimp only []
            repeat any_goals (first | go_skip | go_guarded | go_step | go_upon | (simp only []; done))
            exact bodyPost_ret (v := vz) (by simp [results, Tryz.results35, go_sem]) rfl ⟨_, rfl, hz⟩
          | true =>
            repeat any_goals (first | (go_at_call 63; with_reducible refine (CP.out _).mono ?_; rintro e wp ⟨rfl, hbp⟩; have Kp := Lib.hid (k10_new.below hbp); have Ap := Lib.hid (A0.out.below (below_trans (by (repeat first | with_reducible exact Below.refl _ _ | with_reducible assumption | with_reducible refine Below.drew ?_ | with_reducible refine below_alloc ?_ _ | ((with_reducible refine Below.setCell ?_ ?_ _); rotate_left; (focus (first | with_reducible exact Nat.le_refl _ | (simp; done) | (simp; omega) | omega))) | (with_reducible refine below_trans ?_ (by assumption)))) hbp)); have hwp := Lib.hid (show Below wr.heap.size wr wp from below_trans (by (repeat first | with_reducible exact Below.refl _ _ | with_reducible assumption | with_reducible refine Below.drew ?_ | with_reducible refine below_alloc ?_ _ | ((with_reducible refine Below.setCell ?_ ?_ _); rotate_left; (focus (first | with_reducible exact Nat.le_refl _ | (simp; done) | (simp; omega) | omega))) | (with_reducible refine below_trans ?_ (by assumption)))) hbp); obtain ⟨_, _, _, _, _, _, _, _, _, _⟩ := Kp.out.all; obtain ⟨_, _, _, _, _⟩ := Ap.out.all; have s1 : wr.heap.size < wp.heap.size := (by have := hbp.size; simp at this; omega); have s2 : E < wp.heap.size := (by omega)) | (go_at_call 27; with_reducible refine (CC.out _).mono ?_; rintro e wc ⟨rfl, hbc⟩; have Kc := Lib.hid ((Kp.out.below (below_alloc (Below.refl _ _) _)).below hbc); have Ac := Lib.hid ((Ap.out.alloc _).below hbc); have Gc := Lib.hid ((@ibox_new wp pn pv 29).below hbc); have hwc := Lib.hid (show Below wr.heap.size wr wc from hwp.out.trans (below_weak (below_trans (by (repeat first | with_reducible exact Below.refl _ _ | with_reducible assumption | with_reducible refine Below.drew ?_ | with_reducible refine below_alloc ?_ _ | ((with_reducible refine Below.setCell ?_ ?_ _); rotate_left; (focus (first | with_reducible exact Nat.le_refl _ | (simp; done) | (simp; omega) | omega))) | (with_reducible refine below_trans ?_ (by assumption)))) hbc) hwp.out.size)); obtain ⟨_, _, _, _, _, _, _, _, _, _⟩ := Kc.out.all; obtain ⟨_, _, _, _, _⟩ := Ac.out.all; obtain ⟨_, _, _, _, _⟩ := Gc.out.all) | (go_at_call 64; with_reducible refine (CN.out _).mono ?_; rintro e wn ⟨rfl, hbn⟩; have In := Lib.hid ((IH.out.drop hwc.out).drop (below_trans (by (repeat first | with_reducible exact Below.refl _ _ | with_reducible assumption | with_reducible refine Below.drew ?_ | with_reducible refine below_alloc ?_ _ | ((with_reducible refine Below.setCell ?_ ?_ _); rotate_left; (focus (first | with_reducible exact Nat.le_refl _ | (simp; done) | (simp; omega) | omega))) | (with_reducible refine below_trans ?_ (by assumption)))) hbn)); obtain ⟨_, _, _, _, _⟩ := In.out.a.all) | go_skip | go_guarded | go_step | go_upon | (dsimp only []))
            refine ⟨⟨k + 1, _, x.hi + 1, by omega, rfl, (In.out.put (by rw [← (J2.out.2 rfl).2]; exact HX.out.2.2.1) (by rw [← (J2.out.2 rfl).2]; exact HX.out.2.2.2)).drop (below_alloc (Below.refl _ _) _), (ST.out.2 cnd).1 (J2.out.2 rfl).1⟩, ?_⟩
            simp [intOf]
            omega
    · have hk' : k = n := by omega
      have i1 : ¬ (k : Int) < (n : Int) := by omega
      have GT := Lib.hid (iboxF_grown FT3.out IH.out.g (by simp))
      obtain ⟨_, _, _, _, _⟩ := GT.out.all
      have hTe : sg tI = false := by decide +kernel
      have hTa : ab tI = topN := by decide +kernel
      have EN := Lib.hid (show (endC fr HP.out.b).enc = [.bool fn, .int .u64 (lm fv 0 : Nat), .int .u64 (lm fv 1 : Nat), .int .u64 (lm fv 2 : Nat), .int .u64 (lm fv 3 : Nat), .bool false, .int .u64 (lm topN 0 : Nat), .int .u64 (lm topN 1 : Nat), .int .u64 (lm topN 2 : Nat), .int .u64 (lm topN 3 : Nat)] from by
        unfold endC Cl.enc
        rw [HF.out.1, HF.out.2, hTe, hTa])
      have FN := Lib.hid (HP.out.fin (by rw [← HN.out]; exact hk'))
      have hz' := Lib.hid (show (ks ++ [endC fr HP.out.b]).length ≤ n0 + 1 from by have := HP.out.len; have := HQ.out.1; simp; omega)
      repeat any_goals (first | (at_builtin; refine wpList_append_own _ rfl (.tmp 55) (.tmp 59) 49 rfl w3.heap.size 51 i0 (.agg #[.bool false, .int .u64 0, .int .u64 0, .int .u64 0, .int .u64 0, .bool false, .int .u64 0, .int .u64 0, .int .u64 0, .int .u64 0]) 10 80 Tryz.underlying49 hi hz0 hz1 hz2 rfl (by decide) _ _ _ rfl (IH.out.o.alloc _) ⟨wr.heap.size, 0, none⟩ 1 1 [.bool fn, .int .u64 (lm fv 0 : Nat), .int .u64 (lm fv 1 : Nat), .int .u64 (lm fv 2 : Nat), .int .u64 (lm fv 3 : Nat), .bool false, .int .u64 (lm topN 0 : Nat), .int .u64 (lm topN 1 : Nat), .int .u64 (lm topN 2 : Nat), .int .u64 (lm topN 3 : Nat)] rfl rfl ten_cells ten_one BD.out.1 BD.out.2 (by have := IH.out.g.size; simp; omega) ?_; intro v' wa hown' hgrow _) | go_skip | go_guarded | go_step | go_upon | (dsimp only []))
      refine (open_out (w := w) (M := n0 + 1) (oth_set SF.out FN.out) hz'.out (by omega) w3.heap.size (by rw [encs_app, List.length_append, EN.out]; exact hown') (oth_bw HB3.out hE1.out HE3.out (gb_own (gb_below IH.out.g (below_alloc (Below.refl _ _) _)) hgrow (fun k hk => (IH.out.o.lt k hk).1)))).mono ?_
      rintro e wz ⟨vz, rfl, hz⟩
      dsimp only []
      repeat any_goals (first | go_skip | go_guarded | go_step | go_upon | (simp only []; done))
      exact bodyPost_ret (v := vz) (by simp [results, Tryz.results35, go_sem]) rfl ⟨_, rfl, hz⟩
end Go.Proofs.YtekeedjhaakbhaaGreatDoor
