/- Plain: what the document's Pick tries, and that its best is the best. · closer, Pick of the document. IBOX · The law SpanPicks. -/
import Derived.Test.YtekeedjhaakbhaaGreatDoorAnyB
import Derived.Test.YtekeedjhaakbhaaGreatDoorNearA9
import Derived.Test.YtekeedjhaakbhaaGreatDoorRNm9
import Derived.Test.YtekeedjhaakbhaaGreatDoorHasL
namespace Go.Proofs.YtekeedjhaakbhaaGreatDoor
open Go.RowKit
def fromX (x : Cl) : Int := if x.hi < (if 0 < x.lo then x.lo else 0) then x.hi else (if 0 < x.lo then x.lo else 0)
theorem fromX_in (x : Cl) : inR (fromX x) := by
  have h1 := x.inL
  have h2 := x.inH
  unfold fromX inR
  split
  · unfold tI at *; omega
  · split <;> unfold tI at * <;> omega
def candK (f : Int) (k : Nat) : Option Int := if k < 2 then eo (k % 2 == 0) f else some (rgZ (k % 2 == 0) f)
def onK (xa ra : Bool) (k : Nat) : Bool := if k < 2 then xa else ra
def stepK (xa ra : Bool) (x : Cl) (st : Option Int) (k : Nat) : Option Int := if onK xa ra k = true then (inC x.iv (candK (fromX x) k)).foldl pickS st else st
def elemK (xa ra : Bool) (x : Cl) (st : Option Int) (j : Nat) : Option Int := (List.range j).foldl (stepK xa ra x) st
theorem elemK_zero (xa ra : Bool) (x : Cl) (st : Option Int) : elemK xa ra x st 0 = st := rfl
theorem elemK_succ (xa ra : Bool) (x : Cl) (st : Option Int) (j : Nat) : elemK xa ra x st (j + 1) = stepK xa ra x (elemK xa ra x st j) j := by
  unfold elemK
  rw [List.range_succ, List.foldl_append]
  rfl
def candR (xa ra : Bool) (x : Cl) : List Int :=
  (if xa = true then inC x.iv (eo true (fromX x)) ++ inC x.iv (eo false (fromX x)) else []) ++ (if ra = true then inC x.iv (some (rgZ true (fromX x))) ++ inC x.iv (some (rgZ false (fromX x))) else [])
theorem elemK_all (xa ra : Bool) (x : Cl) (st : Option Int) : elemK xa ra x st 4 = (candR xa ra x).foldl pickS st := by
  rw [elemK_succ, elemK_succ, elemK_succ, elemK_succ, elemK_zero]
  unfold stepK onK candK candR
  cases xa <;> cases ra <;> simp [List.foldl_append]
theorem cand_isR {xa ra : Bool} {x : Cl} {a : Int} (h : a ∈ candR xa ra x) : (x.lo ≤ a ∧ a ≤ x.hi) ∧ want xa ra a := by
  unfold candR at h
  rcases List.mem_append.1 h with h | h
  · cases xa with
    | false => rw [if_neg Bool.false_ne_true] at h; cases h
    | true =>
      rw [if_pos rfl] at h
      rcases List.mem_append.1 h with h | h
      · obtain ⟨e, h1, h2⟩ := inC_mem.1 h
        have hu := eo_up (fromX_in x)
        rw [e] at hu
        exact ⟨⟨h1, h2⟩, .inl ⟨rfl, hu.1.2⟩⟩
      · obtain ⟨e, h1, h2⟩ := inC_mem.1 h
        have hu := eo_down (fromX_in x)
        rw [e] at hu
        exact ⟨⟨h1, h2⟩, .inl ⟨rfl, hu.1.2⟩⟩
  · cases ra with
    | false => rw [if_neg Bool.false_ne_true] at h; cases h
    | true =>
      rw [if_pos rfl] at h
      rcases List.mem_append.1 h with h | h
      · obtain ⟨e, h1, h2⟩ := inC_mem.1 h
        have hu := ro_up (fromX_in x)
        rw [e] at hu
        exact ⟨⟨h1, h2⟩, .inr ⟨rfl, hu.1.2⟩⟩
      · obtain ⟨e, h1, h2⟩ := inC_mem.1 h
        have hu := ro_down (fromX_in x)
        rw [e] at hu
        exact ⟨⟨h1, h2⟩, .inr ⟨rfl, hu.1.2⟩⟩
theorem cand_bestR {xa ra : Bool} {x : Cl} {z : Int} (h : x.lo ≤ z ∧ z ≤ x.hi) (hw : want xa ra z) : ∃ a, a ∈ candR xa ra x ∧ keyLe a z := by
  have hz : inR z := ⟨by have := x.inL; omega, by have := x.inH; omega⟩
  unfold candR
  rcases hw with ⟨rfl, hx⟩ | ⟨rfl, hx⟩
  · obtain ⟨a, h1, -, h3⟩ := near_one (c := x.iv) (f := fromX x) rfl (eo_up (fromX_in x)) (eo_down (fromX_in x)) (z := z) ⟨hz, hx⟩ h
    exact ⟨a, List.mem_append_left _ (by rw [if_pos rfl]; exact h1), h3⟩
  · obtain ⟨a, h1, -, h3⟩ := near_one (c := x.iv) (f := fromX x) rfl (ro_up (fromX_in x)) (ro_down (fromX_in x)) (z := z) ⟨hz, hx⟩ h
    exact ⟨a, List.mem_append_right _ (by rw [if_pos rfl]; exact h1), h3⟩
/-- the answer of the document's Pick -/
def bestR (xa ra : Bool) (l : List Cl) : Option Int := (l.flatMap (candR xa ra)).foldl pickS none
theorem bestR_best (xa ra : Bool) (l : List Cl) : IsBest (fun z => MemL (l.map Cl.iv) z ∧ want xa ra z) (bestR xa ra l) := by
  refine best_of (fun a ha => ?_) (fun z hz => ?_)
  · obtain ⟨x, hx, ha⟩ := List.mem_flatMap.1 ha
    have h := cand_isR ha
    exact ⟨⟨x.iv, List.mem_map.2 ⟨x, hx, rfl⟩, h.1⟩, h.2⟩
  · obtain ⟨⟨c, hc, h1, h2⟩, hw⟩ := hz
    obtain ⟨x, hx, rfl⟩ := List.mem_map.1 hc
    obtain ⟨a, ha, hk⟩ := cand_bestR (x := x) ⟨h1, h2⟩ hw
    exact ⟨a, List.mem_flatMap.2 ⟨x, hx, ha⟩, hk⟩
theorem bestR_take {xa ra : Bool} {l : List Cl} {k : Nat} {x : Cl} (hx : l[k]? = some x) : elemK xa ra x (bestR xa ra (l.take k)) 4 = bestR xa ra (l.take (k + 1)) := by
  rw [elemK_all]
  unfold bestR
  rw [List.take_add_one, hx, List.flatMap_append, List.foldl_append]
  simp
/-- closer -/
def closerB (an : Bool) (av : Nat) (bn : Bool) (bv : Nat) (has : Bool) : Bool := !has || (decide (av < bv) || (decide (av = bv) && bn && !an))
theorem closer_pick (st : Option Int) (a : Int) : (if closerB (sg a) (ab a) (bsN st) (bsV st) st.isSome = true then some a else st) = pickS st a := by
  cases st with
  | none => simp [closerB, pickS]
  | some y =>
    simp only [closerB, pickS, bsN, bsV, Option.isSome_some, Bool.not_true, Bool.false_or]
    unfold sg ab
    by_cases h1 : a.natAbs < y.natAbs
    · simp [h1]
    · by_cases h2 : a.natAbs = y.natAbs
      · by_cases h3 : 0 ≤ a
        · by_cases h4 : y < 0
          · have h5 : ¬ a < 0 := by omega
            simp [h2, h3, h4, h5]
          · have : a = y := by omega
            subst this
            simp [h4]
        · have h5 : a < 0 := by omega
          have h6 : ¬ 0 ≤ a := h3
          simp [h2, h5, h6]
      · simp [h1, h2]
/-- what Near gives in the j-th turn -/
theorem near_is (f : Int) (hf : inR f) (k : Nat) : ∃ (pn : Bool) (pv : Nat) (po : Bool), OptIs (candK f k) pn pv po ∧
    ((k < 2 → pn = sg (ex (k % 2 == 0) (sg f) (ab f)) ∧ pv = ab (ex (k % 2 == 0) (sg f) (ab f)) ∧ po = exOk (k % 2 == 0) (sg f) (ab f)) ∧
     (¬ k < 2 → pn = sg (rg (k % 2 == 0) (sg f) (ab f)) ∧ pv = ab (rg (k % 2 == 0) (sg f) (ab f)) ∧ po = mayI (sg f) (ab f))) := by
  unfold candK
  by_cases h : k < 2
  · rw [if_pos h]
    exact ⟨_, _, _, eo_is _, fun _ => ⟨rfl, rfl, rfl⟩, fun h' => absurd h h'⟩
  · rw [if_neg h]
    exact ⟨_, _, _, ro_is _ hf, fun h' => absurd h' h, fun _ => ⟨rfl, rfl, rfl⟩⟩
end Go.Proofs.YtekeedjhaakbhaaGreatDoor

namespace Go.Proofs.YtekeedjhaakbhaaGreatDoor
open Go.RowKit
set_option maxRecDepth 20000 in
set_option maxHeartbeats 3200000 in
/-- **closer** -/
theorem RCloser_any (an bn has : Bool) (av bv : Nat) (ha : av < 2 ^ 256) (hb : bv < 2 ^ 256) (w : World) :
    Calls Tryz.prog 22 #[.agg #[.bool (an ), .int .u64 (lm ( av) 0 : Nat), .int .u64 (lm ( av) 1 : Nat), .int .u64 (lm ( av) 2 : Nat), .int .u64 (lm ( av) 3 : Nat)], .agg #[.bool (bn ), .int .u64 (lm ( bv) 0 : Nat), .int .u64 (lm ( bv) 1 : Nat), .int .u64 (lm ( bv) 2 : Nat), .int .u64 (lm ( bv) 3 : Nat)], .bool has] w fun e w' => e = .returned (.bool (closerB an av bn bv has)) ∧ Below w.heap.size w w' := by
  obtain ⟨R, hR⟩ : ∃ R, R = closerB an av bn bv has := ⟨_, rfl⟩
  rw [← hR]
  have HR := Lib.hid hR
  obtain ⟨z, hz⟩ : ∃ z, cmpV av bv = z := ⟨_, rfl⟩
  have C1 := Lib.hid fun wx => DOf_any av ha wx
  have C2 := Lib.hid fun wx => DOf_any bv hb wx
  have C3 := Lib.hid (show ∀ (v1 v2 : Value) (wx : World), IsD wx v1 av → IsD wx v2 bv → Calls Tryz.prog 46 #[v1, v2] wx fun e w' => e = .returned (.int .i64 z) ∧ Below wx.heap.size wx w' from fun v1 v2 wx h1 h2 => by
    rw [← hz]
    exact CmpI_any v1 v2 av bv wx h1 h2)
  have J := Lib.hid (show (z < 0 ↔ av < bv) ∧ (z = 0 ↔ av = bv) by
    rw [← hz]
    unfold cmpV
    constructor
    · split
      · omega
      · split <;> omega
    · split
      · omega
      · split <;> omega)
  clear hR hz ha hb
  go_enter Tryz.func22, Tryz.ntmps22
  cases has with
  | false =>
    have e : R = true := by rw [HR.out]; simp [closerB]
    subst e
    repeat any_goals (first | go_skip | go_guarded | go_step | go_upon | (simp only []; done))
    exact bodyPost_ret (v := .bool true) (by simp [results, Tryz.results22, go_sem]) rfl ⟨rfl, by (repeat first | with_reducible exact Below.refl _ _ | with_reducible assumption | with_reducible refine Below.drew ?_ | with_reducible refine below_alloc ?_ _ | ((with_reducible refine Below.setCell ?_ ?_ _); rotate_left; (focus (first | with_reducible exact Nat.le_refl _ | (simp; done) | (simp; omega) | omega))) | (with_reducible refine below_trans ?_ (by assumption)))⟩
  | true =>
    go_upto_region 3 with fail
    have X0 := Lib.hid ((@ibox_new w an av 29).alloc (.cells #[.bool bn, .int .u64 (lm bv 0 : Nat), .int .u64 (lm bv 1 : Nat), .int .u64 (lm bv 2 : Nat), .int .u64 (lm bv 3 : Nat)] 29))
    have Y0 := Lib.hid (@ibox_new1 w bn bv 29 (.cells #[.bool an, .int .u64 (lm av 0 : Nat), .int .u64 (lm av 1 : Nat), .int .u64 (lm av 2 : Nat), .int .u64 (lm av 3 : Nat)] 29))
    have hW : Below w.heap.size w ((w.alloc (.cells #[.bool an, .int .u64 (lm av 0 : Nat), .int .u64 (lm av 1 : Nat), .int .u64 (lm av 2 : Nat), .int .u64 (lm av 3 : Nat)] 29)).alloc (.cells #[.bool bn, .int .u64 (lm bv 0 : Nat), .int .u64 (lm bv 1 : Nat), .int .u64 (lm bv 2 : Nat), .int .u64 (lm bv 3 : Nat)] 29)) := by (repeat first | with_reducible exact Below.refl _ _ | with_reducible assumption | with_reducible refine Below.drew ?_ | with_reducible refine below_alloc ?_ _ | ((with_reducible refine Below.setCell ?_ ?_ _); rotate_left; (focus (first | with_reducible exact Nat.le_refl _ | (simp; done) | (simp; omega) | omega))) | (with_reducible refine below_trans ?_ (by assumption)))
    generalize (w.alloc (.cells #[.bool an, .int .u64 (lm av 0 : Nat), .int .u64 (lm av 1 : Nat), .int .u64 (lm av 2 : Nat), .int .u64 (lm av 3 : Nat)] 29)).alloc (.cells #[.bool bn, .int .u64 (lm bv 0 : Nat), .int .u64 (lm bv 1 : Nat), .int .u64 (lm bv 2 : Nat), .int .u64 (lm bv 3 : Nat)] 29) = w0 at *
    have hq : Below w0.heap.size w0 w0.drew := (Below.refl _ _).drew
    go_region_held3 (fun w' => w'.cell? ⟨w.heap.size, 0, none⟩ = some (.bool an) ∧ w'.cell? ⟨w.heap.size, 1, none⟩ = some (.int .u64 (lm av 0 : Nat)) ∧ w'.cell? ⟨w.heap.size, 2, none⟩ = some (.int .u64 (lm av 1 : Nat)) ∧ w'.cell? ⟨w.heap.size, 3, none⟩ = some (.int .u64 (lm av 2 : Nat)) ∧ w'.cell? ⟨w.heap.size, 4, none⟩ = some (.int .u64 (lm av 3 : Nat)) ∧ w'.cell? ⟨(w.heap.size + 1), 0, none⟩ = some (.bool bn) ∧ w'.cell? ⟨(w.heap.size + 1), 1, none⟩ = some (.int .u64 (lm bv 0 : Nat)) ∧ w'.cell? ⟨(w.heap.size + 1), 2, none⟩ = some (.int .u64 (lm bv 1 : Nat)) ∧ w'.cell? ⟨(w.heap.size + 1), 3, none⟩ = some (.int .u64 (lm bv 2 : Nat)) ∧ w'.cell? ⟨(w.heap.size + 1), 4, none⟩ = some (.int .u64 (lm bv 3 : Nat))) (first | with_reducible assumption | (have hk_ := hq; with_reducible exact ⟨(X0.out.below hk_).c0, (X0.out.below hk_).c1, (X0.out.below hk_).c2, (X0.out.below hk_).c3, (X0.out.below hk_).c4, (Y0.out.below hk_).c0, (Y0.out.below hk_).c1, (Y0.out.below hk_).c2, (Y0.out.below hk_).c3, (Y0.out.below hk_).c4⟩) | (have hk_ := Below.refl (w0).heap.size (w0); with_reducible exact ⟨(X0.out.below hk_).c0, (X0.out.below hk_).c1, (X0.out.below hk_).c2, (X0.out.below hk_).c3, (X0.out.below hk_).c4, (Y0.out.below hk_).c0, (Y0.out.below hk_).c1, (Y0.out.below hk_).c2, (Y0.out.below hk_).c3, (Y0.out.below hk_).c4⟩) | (have hk_ := (Below.refl (w0).heap.size (w0)).drew; with_reducible exact ⟨(X0.out.below hk_).c0, (X0.out.below hk_).c1, (X0.out.below hk_).c2, (X0.out.below hk_).c3, (X0.out.below hk_).c4, (Y0.out.below hk_).c0, (Y0.out.below hk_).c1, (Y0.out.below hk_).c2, (Y0.out.below hk_).c3, (Y0.out.below hk_).c4⟩)) (first | (go_at_call 28; with_reducible refine (C1.out _).mono ?_; rintro e w1 ⟨u1, rfl, hu1, hb1⟩; (first | have hq := below_trans hq hb1 | have hq := below_trans (Below.refl _ _).drew hb1 | have hq := hb1)) | (go_at_call 28; with_reducible refine (C2.out _).mono ?_; rintro e w2 ⟨u2, rfl, hu2, hb2⟩; (first | have hq := below_trans hq hb2 | have hq := below_trans (Below.refl _ _).drew hb2 | have hq := hb2)) | (go_at_call 46; with_reducible refine (C3.out _ _ _ (hu1.below hb2) hu2).mono ?_; rintro e w3 ⟨rfl, hb3⟩; (first | have hq := below_trans hq hb3 | have hq := below_trans (Below.refl _ _).drew hb3 | have hq := hb3)))
    obtain ⟨_, _, _, _, _⟩ := (X0.out.below hq).all
    obtain ⟨_, _, _, _, _⟩ := (Y0.out.below hq).all
    have hW2 := hW.trans (below_weak hq hW.size)
    clear hq
    by_cases c1 : z < 0
    · have e : R = true := by rw [HR.out]; simp [closerB, J.out.1.1 c1]
      subst e
      repeat any_goals (first | go_skip | go_guarded | go_step | go_upon | (simp only []; done))
      exact bodyPost_ret (v := .bool true) (by simp [results, Tryz.results22, go_sem]) rfl ⟨rfl, hW2⟩
    · by_cases c2 : z = 0
      · subst c2
        have e : R = (bn && !an) := by rw [HR.out]; simp [closerB, J.out.2.1 rfl]
        subst e
        cases bn <;> cases an
        all_goals (
          (repeat any_goals (first | go_skip | go_guarded | go_step | go_upon | (simp only []; done)))
          exact bodyPost_ret (v := .bool _) (by simp [results, Tryz.results22, go_sem]) rfl ⟨rfl, hW2⟩)
      · have c3 : (z == 0) = false := beq_false_of_ne c2
        have e : R = false := by rw [HR.out]; have e1 : ¬ av < bv := fun h => c1 (J.out.1.2 h); have e2 : ¬ av = bv := fun h => c2 (J.out.2.2 h); simp [closerB, e1, e2]
        subst e
        repeat any_goals (first | go_skip | go_guarded | go_step | go_upon | (simp only []; done))
        exact bodyPost_ret (v := .bool false) (by simp [results, Tryz.results22, go_sem]) rfl ⟨rfl, hW2⟩
theorem cmpZ_nonpos (p q : Int) : cmpZ p q ≤ 0 ↔ p ≤ q := by have := cmpZ_pos p q; omega
/-- what stands in a round of Pick: Bb the best, Bl, Bh the ends, Bf the number that is looked from -/
structure PkR (w3 wr : World) (Bb Bl Bh Bf : Nat) (ln : Bool) (lv : Nat) (un : Bool) (uv : Nat) (fn : Bool) (fv : Nat) (sn : Bool) (sv : Nat) : Prop where
  k : But Bb Bb w3 wr
  s : IBoxF wr Bb sn sv
  m : sv < 2 ^ 256
  a : IBoxF wr Bl ln lv
  b : IBoxF wr Bh un uv
  f : IBoxF wr Bf fn fv
  l : Bb < w3.heap.size ∧ w3.heap.size ≤ Bl ∧ w3.heap.size ≤ Bh ∧ w3.heap.size ≤ Bf ∧ Bl ≠ Bh ∧ Bl ≠ Bf ∧ Bh ≠ Bf
theorem PkR.below {w3 wr : World} {Bb Bl Bh Bf lv uv fv sv : Nat} {ln un fn sn : Bool} {wx : World} (h : PkR w3 wr Bb Bl Bh Bf ln lv un uv fn fv sn sv) (hb : Below wr.heap.size wr wx) : PkR w3 wx Bb Bl Bh Bf ln lv un uv fn fv sn sv :=
  ⟨h.k.below hb, h.s.below hb, h.m, h.a.below hb, h.b.below hb, h.f.below hb, h.l⟩
theorem PkR.setF {w3 wr : World} {Bb Bl Bh Bf lv uv fv sv : Nat} {ln un fn sn : Bool} {V : Nat} {n : Bool} (h : PkR w3 wr Bb Bl Bh Bf ln lv un uv fn fv sn sv) : PkR w3 (((((wr.setCell ⟨Bf, 0, none⟩ (.bool n)).setCell ⟨Bf, 1, none⟩ (.int .u64 (lm V 0 : Nat))).setCell ⟨Bf, 2, none⟩ (.int .u64 (lm V 1 : Nat))).setCell ⟨Bf, 3, none⟩ (.int .u64 (lm V 2 : Nat))).setCell ⟨Bf, 4, none⟩ (.int .u64 (lm V 3 : Nat))) Bb Bl Bh Bf ln lv un uv n V sn sv := by
  obtain ⟨l1, l2, l3, l4, l5, l6, l7⟩ := h.l
  have k := but5 wr Bf (.bool n) (.int .u64 (lm V 0 : Nat)) (.int .u64 (lm V 1 : Nat)) (.int .u64 (lm V 2 : Nat)) (.int .u64 (lm V 3 : Nat))
  exact ⟨h.k.far k (by omega), h.s.but k (by omega) (by omega), h.m, h.a.but k (by omega) (by omega), h.b.but k (by omega) (by omega), h.f.set, h.l⟩
theorem PkR.put {w3 wr : World} {Bb Bl Bh Bf lv uv fv sv : Nat} {ln un fn sn : Bool} {V : Nat} {n : Bool} (h : PkR w3 wr Bb Bl Bh Bf ln lv un uv fn fv sn sv) (hV : V < 2 ^ 256) : PkR w3 (((((wr.setCell ⟨Bb, 0, none⟩ (.bool n)).setCell ⟨Bb, 1, none⟩ (.int .u64 (lm V 0 : Nat))).setCell ⟨Bb, 2, none⟩ (.int .u64 (lm V 1 : Nat))).setCell ⟨Bb, 3, none⟩ (.int .u64 (lm V 2 : Nat))).setCell ⟨Bb, 4, none⟩ (.int .u64 (lm V 3 : Nat))) Bb Bl Bh Bf ln lv un uv fn fv n V := by
  obtain ⟨l1, l2, l3, l4, l5, l6, l7⟩ := h.l
  have k := but5 wr Bb (.bool n) (.int .u64 (lm V 0 : Nat)) (.int .u64 (lm V 1 : Nat)) (.int .u64 (lm V 2 : Nat)) (.int .u64 (lm V 3 : Nat))
  exact ⟨h.k.trans k, h.s.set, hV, h.a.but k (by omega) (by omega), h.b.but k (by omega) (by omega), h.f.but k (by omega) (by omega), h.l⟩
theorem PkR.sz {w3 wr : World} {Bb Bl Bh Bf lv uv fv sv : Nat} {ln un fn sn : Bool} (h : PkR w3 wr Bb Bl Bh Bf ln lv un uv fn fv sn sv) : Bb < wr.heap.size ∧ Bl < wr.heap.size ∧ Bh < wr.heap.size ∧ Bf < wr.heap.size := ⟨h.s.b.l, h.a.b.l, h.b.b.l, h.f.b.l⟩
theorem own_but12 {w w1 : World} {b B T n : Nat} {v : Value} {xs : List Value} (h : w.ownsRow B T 12 v n xs) (k : But b b w w1) (hb : b < B) : w1.ownsRow B T 12 v n xs := by
  refine ⟨h.1, ?_⟩
  rcases h.2 with hn | ⟨g, cap, cur, rfl, hg, hgg, rest⟩
  · exact .inl hn
  · exact .inr ⟨g, cap, cur, rfl, hg, by rw [k.block g (Array.getElem?_eq_some_iff.1 hgg).1 (by omega) (by omega)]; exact hgg, rest⟩
theorem op_lit {w : World} {B i : Nat} {v : Value} {l : List Cl} {x : Cl} (h : w.ownsRow B 37 12 v l.length (encS (l.map opS))) (hx : l[i]? = some x) :
    ∃ (g cap : Nat) (hl hh nl : Bool) (vl : Nat) (nh : Bool) (vh : Nat), v = .slice (some ⟨g, 0, none⟩) l.length cap ∧ g < w.heap.size ∧ B ≤ g ∧ opS x = ⟨hl, hh, nl, vl, nh, vh⟩ ∧
      R12 w g (i * 12) (.bool hl) (.bool hh) (.bool nl) (.int .u64 (lm vl 0 : Nat)) (.int .u64 (lm vl 1 : Nat)) (.int .u64 (lm vl 2 : Nat)) (.int .u64 (lm vl 3 : Nat)) (.bool nh) (.int .u64 (lm vh 0 : Nat)) (.int .u64 (lm vh 1 : Nat)) (.int .u64 (lm vh 2 : Nat)) (.int .u64 (lm vh 3 : Nat)) := by
  have hi := (List.getElem?_eq_some_iff.1 hx).1
  rcases h.2 with ⟨-, h0⟩ | ⟨g, cap, cur, rfl, hB, hg, hc, hm, -⟩
  · omega
  · have hn : nthS (l.map opS) i = opS x := by
      unfold nthS
      rw [List.getD_eq_getElem?_getD, List.getElem?_map, hx]
      rfl
    have hw : ∀ j, j < 12 → w.cell? ⟨g, i * 12 + j, none⟩ = (opS x).cells[j]? := fun j hj => by
      rw [h.cellAt (i * 12 + j) (by omega), encS_get _ i j (by rw [List.length_map]; exact hi) hj, hn]
    exact ⟨g, cap, _, _, _, _, _, _, rfl, (Array.getElem?_eq_some_iff.1 hg).1, hB, rfl, ⟨⟨hw 0 (by omega), hw 1 (by omega), hw 2 (by omega), hw 3 (by omega), hw 4 (by omega), hw 5 (by omega), hw 6 (by omega), hw 7 (by omega), hw 8 (by omega), hw 9 (by omega), hw 10 (by omega), hw 11 (by omega)⟩⟩⟩
/-- ends of it -/
theorem op_ends {x : Cl} {hl hh nl nh : Bool} {vl vh : Nat} (hs : opS x = ⟨hl, hh, nl, vl, nh, vh⟩) : eln hl nl = sg x.lo ∧ elv hl vl = ab x.lo ∧ ehn hh nh = sg x.hi ∧ elv hh vh = ab x.hi := by
  have hm := ends_may (opS_may x)
  have hiv := ends_iv (opS x)
  rw [opS_iv] at hiv
  rw [hs] at hm hiv
  simp only [Cl.iv] at hm hiv
  exact ⟨by rw [← hiv.1, sg_zI hm.1], by rw [← hiv.1, ab_zI], by rw [← hiv.2, sg_zI hm.2], by rw [← hiv.2, ab_zI]⟩
/-- Near in the j-th turn -/
theorem near_call (f : Int) (hf : inR f) (j : Nat) (wt up : Bool) (hw : decide (j < 2) = wt) (hu : (j % 2 == 0) = up) : ∃ (pn : Bool) (pv : Nat) (po : Bool), OptIs (candK f j) pn pv po ∧
    ∀ w : World, Calls Tryz.prog 21 #[.agg #[.bool (sg f ), .int .u64 (lm ( ab f) 0 : Nat), .int .u64 (lm ( ab f) 1 : Nat), .int .u64 (lm ( ab f) 2 : Nat), .int .u64 (lm ( ab f) 3 : Nat)], .bool up, .bool wt] w fun e w' => e = .returned (.tuple #[.agg #[.bool (pn ), .int .u64 (lm ( pv) 0 : Nat), .int .u64 (lm ( pv) 1 : Nat), .int .u64 (lm ( pv) 2 : Nat), .int .u64 (lm ( pv) 3 : Nat)], .bool po]) ∧ Below w.heap.size w w' := by
  obtain ⟨pn, pv, po, ho, h1, h2⟩ := near_is f hf j
  refine ⟨pn, pv, po, ho, fun w => ?_⟩
  rw [hu] at h1 h2
  by_cases h : j < 2
  · obtain ⟨rfl, rfl, rfl⟩ := h1 h
    rw [decide_eq_true h] at hw
    subst hw
    exact NearE_any _ up _ (inR_ab.1 hf) w
  · obtain ⟨rfl, rfl, rfl⟩ := h2 h
    rw [decide_eq_false h] at hw
    subst hw
    exact NearR_any _ up _ (inR_ab.1 hf) w
theorem stepK_none {xa ra : Bool} {x : Cl} {st : Option Int} {j : Nat} (h : candK (fromX x) j = none) : stepK xa ra x st j = st := by
  unfold stepK
  rw [h]
  simp [inC]
theorem stepK_off {xa ra : Bool} {x : Cl} {st : Option Int} {j : Nat} (h : onK xa ra j = false) : stepK xa ra x st j = st := by
  unfold stepK
  rw [h]
  simp
theorem stepK_out {xa ra : Bool} {x : Cl} {st : Option Int} {j : Nat} {a : Int} (h : candK (fromX x) j = some a) (hc : ¬ (x.lo ≤ a ∧ a ≤ x.hi)) : stepK xa ra x st j = st := by
  have e : inC x.iv (some a) = [] := by
    simp only [inC]
    exact if_neg hc
  unfold stepK
  rw [h, e]
  simp
theorem stepK_in {xa ra : Bool} {x : Cl} {st : Option Int} {j : Nat} {a : Int} (h0 : onK xa ra j = true) (h : candK (fromX x) j = some a) (hc : x.lo ≤ a ∧ a ≤ x.hi) : stepK xa ra x st j = if closerB (sg a) (ab a) (bsN st) (bsV st) st.isSome = true then some a else st := by
  have e : inC x.iv (some a) = [a] := by
    simp only [inC]
    exact if_pos hc
  rw [closer_pick]
  unfold stepK
  rw [h0, h, e]
  simp
set_option maxRecDepth 20000 in
set_option maxHeartbeats 8000000 in
/-- **Pick** of the document. -/
theorem RPick_any (xa ra : Bool) (a : Option Addr) (n0 c : Nat) (S : Nat → Sp) (w : World) (h : SRow w a n0 c S) (hn0 : n0 ≤ 400) :
    Calls Tryz.prog 7 #[.slice a n0 c, .bool xa, .bool ra] w fun e w' => ∃ o : Option Int, PickO S n0 xa ra o ∧ e = .returned (.tuple #[.agg #[.bool (bsN o ), .int .u64 (lm ( bsV o) 0 : Nat), .int .u64 (lm ( bsV o) 1 : Nat), .int .u64 (lm ( bsV o) 2 : Nat), .int .u64 (lm ( bsV o) 3 : Nat)], .bool o.isSome]) ∧ Below w.heap.size w w' := by
  have H := Lib.hid h
  clear h
  go_enter Tryz.func7, Tryz.ntmps7
  repeat any_goals (first | go_skip | go_guarded | go_step | go_upon | (simp only []; done))
  have HB := Lib.hid (show Below w.heap.size w ((w.alloc (.cells #[.bool false, .int .u64 0, .int .u64 0, .int .u64 0, .int .u64 0] 29)).alloc (.cells #[.bool false, .int .u64 0, .int .u64 0, .int .u64 0, .int .u64 0] 29)) from by (repeat first | with_reducible exact Below.refl _ _ | with_reducible assumption | with_reducible refine Below.drew ?_ | with_reducible refine below_alloc ?_ _ | ((with_reducible refine Below.setCell ?_ ?_ _); rotate_left; (focus (first | with_reducible exact Nat.le_refl _ | (simp; done) | (simp; omega) | omega))) | (with_reducible refine below_trans ?_ (by assumption))))
  have SZ : w.heap.size + 2 = ((w.alloc (.cells #[.bool false, .int .u64 0, .int .u64 0, .int .u64 0, .int .u64 0] 29)).alloc (.cells #[.bool false, .int .u64 0, .int .u64 0, .int .u64 0, .int .u64 0] 29)).heap.size := by simp
  have FR := Lib.hid ((zbox_new w 29).alloc (.cells #[.bool false, .int .u64 0, .int .u64 0, .int .u64 0, .int .u64 0] 29))
  have FB : IBoxF ((w.alloc (.cells #[.bool false, .int .u64 0, .int .u64 0, .int .u64 0, .int .u64 0] 29)).alloc (.cells #[.bool false, .int .u64 0, .int .u64 0, .int .u64 0, .int .u64 0] 29)) (w.heap.size + 1) false 0 := by
    have e := zbox_new (w.alloc (.cells #[.bool false, .int .u64 0, .int .u64 0, .int .u64 0, .int .u64 0] 29)) 29
    rw [show (w.alloc (.cells #[.bool false, .int .u64 0, .int .u64 0, .int .u64 0, .int .u64 0] 29)).heap.size = w.heap.size + 1 from by simp] at e
    exact e
  have FB := Lib.hid FB
  generalize ((w.alloc (.cells #[.bool false, .int .u64 0, .int .u64 0, .int .u64 0, .int .u64 0] 29)).alloc (.cells #[.bool false, .int .u64 0, .int .u64 0, .int .u64 0, .int .u64 0] 29)) = w0 at *
  obtain ⟨Br, hBr⟩ : ∃ B, B = w.heap.size := ⟨_, rfl⟩
  rw [← hBr] at SZ FR FB ⊢
  obtain ⟨Bb, hBb⟩ : ∃ B, B = Br + 1 := ⟨_, rfl⟩
  rw [← hBb] at FB ⊢
  have HL := Lib.hid (show Br < w0.heap.size ∧ Bb < w0.heap.size ∧ Br ≠ Bb ∧ w.heap.size ≤ Bb ∧ w.heap.size ≤ Br by omega)
  have HBr := Lib.hid hBr
  clear hBr hBb SZ
  refine (RNorm_any a n0 c S w0 (H.out.below HB.out) (by omega)).mono ?_
  rintro e w3 ⟨v3, rfl, h3⟩
  obtain ⟨l, f3, le3, o3, b3⟩ := h3
  obtain ⟨a3, c3, rfl⟩ := own_shape o3
  dsimp only []
  have SF := Lib.hid f3.mem
  have H3 := Lib.hid o3
  obtain ⟨n, hln⟩ : ∃ n, n = l.length := ⟨_, rfl⟩
  have HC := Lib.hid fun (k : Nat) (x : Cl) (hx : l[k]? = some x) (wr : World) (hg : But Bb Bb w3 wr) => op_lit (own_but12 H3.out hg HL.out.2.1) hx
  have HN := Lib.hid hln
  rw [← hln] at HC le3 ⊢
  have FR3 := Lib.hid (FR.out.below b3)
  have FB3 := Lib.hid (FB.out.below b3)
  have HL3 := Lib.hid (show Bb < w3.heap.size by have := HL.out; have := b3.size; omega)
  have HB3 := Lib.hid (show Below w.heap.size w w3 from HB.out.trans (below_weak b3 HB.out.size))
  clear f3 o3 b3 hln FR FB HB H
  repeat any_goals (first | go_skip | go_guarded | go_step | go_upon | (simp only []; done))
  go_loopw [9, 11] (fun hs i wr => ∃ (k : Nat) (st : Option Int), k ≤ n ∧ i = .int .i64 k ∧ hs = .bool st.isSome ∧ But Bb Bb w3 wr ∧ IBoxF wr Bb (bsN st) (bsV st) ∧ bsV st < 2 ^ 256 ∧ st = bestR xa ra (l.take k)) (fun _ i _ => n - (intOf i).toNat)
  case atStart => exact ⟨0, none, Nat.zero_le _, rfl, rfl, But.of (Below.refl _ _), (by simpa [bsN, bsV, lm_zero] using FB3.out), (by decide), rfl⟩
  case round =>
    obtain ⟨k, st, hk, rfl, rfl, hB, hS, hm, hst⟩ := hrel
    have BH := Lib.hid hB
    have SH := Lib.hid hS
    have MH := Lib.hid hm
    have TH := Lib.hid hst
    clear hB hS hm hst
    have hs3 := BH.out.size
    by_cases hkn : k < n
    · obtain ⟨x, hx⟩ : ∃ x, l[k]? = some x := ⟨_, List.getElem?_eq_getElem (by rw [← HN.out]; exact hkn)⟩
      obtain ⟨g, cap, hl, hh, nl, vl, nh, vh, e1, hgl, hgB, hsx, hr⟩ := HC.out k x hx wr BH.out
      injection e1 with e1 _ e3
      subst e1 e3
      have HX := Lib.hid hx
      have hen := op_ends hsx
      have CE := Lib.hid fun wx => REnds_any hl hh nl nh vl vh wx
      rw [hen.1, hen.2.1, hen.2.2.1, hen.2.2.2] at CE
      obtain ⟨ln, hln⟩ : ∃ n, n = sg x.lo := ⟨_, rfl⟩
      obtain ⟨lv, hlv⟩ : ∃ n, n = ab x.lo := ⟨_, rfl⟩
      obtain ⟨un, hun⟩ : ∃ n, n = sg x.hi := ⟨_, rfl⟩
      obtain ⟨uv, huv⟩ : ∃ n, n = ab x.hi := ⟨_, rfl⟩
      rw [← hln, ← hlv, ← hun, ← huv] at CE
      have HE := Lib.hid (And.intro hln (And.intro hlv (And.intro hun huv)))
      obtain ⟨_, _, _, _, _, _, _, _, _, _, _, _⟩ := hr.all
      have i1 : (k : Int) < (n : Int) := by omega
      have i2 : (0 : Int) ≤ (k : Int) := by omega
      have i5 : (k : Int).toNat = k := rfl
      obtain ⟨z1, hz1⟩ : ∃ z, cmpI ln lv false 0 = z := ⟨_, rfl⟩
      obtain ⟨f1, hf1⟩ : ∃ f, f = (if 0 < x.lo then x.lo else 0) := ⟨_, rfl⟩
      have hf1r : inR f1 := by rw [hf1]; have h1 := x.inL; have h2 := x.inH; unfold inR; split <;> unfold tI at * <;> omega
      obtain ⟨fn1, hfn1⟩ : ∃ n, n = sg f1 := ⟨_, rfl⟩
      obtain ⟨fv1, hfv1⟩ : ∃ n, n = ab f1 := ⟨_, rfl⟩
      obtain ⟨fn, hfn⟩ : ∃ n, n = sg (fromX x) := ⟨_, rfl⟩
      obtain ⟨fv, hfv⟩ : ∃ n, n = ab (fromX x) := ⟨_, rfl⟩
      obtain ⟨z3, hz3⟩ : ∃ z, cmpI un uv fn1 fv1 = z := ⟨_, rfl⟩
      have hlh : lv < 2 ^ 256 := by rw [hlv]; exact x.hl
      have huh : uv < 2 ^ 256 := by rw [huv]; exact x.hh
      have mL : mayI ln lv = true := by rw [hln, hlv]; exact mayI_sg _
      have mU : mayI un uv = true := by rw [hun, huv]; exact mayI_sg _
      have C1 := Lib.hid fun wx => RCmp_any ln lv hlh false 0 (by decide) mL (by rfl) wx
      have C3 := Lib.hid fun wx => RCmp_any un uv huh fn1 fv1 (by rw [hfv1]; exact inR_ab.1 hf1r) mU (by rw [hfn1, hfv1]; exact mayI_sg _) wx
      rw [hz1] at C1
      rw [hz3] at C3
      have J1 := Lib.hid (show 0 < z1 ↔ 0 < x.lo by rw [← hz1, hln, hlv, show cmpI (sg x.lo) (ab x.lo) false 0 = cmpI (sg x.lo) (ab x.lo) (sg 0) (ab 0) from rfl, cmpI_sg]; exact cmpZ_pos _ _)
      have J3 := Lib.hid (show z3 < 0 ↔ x.hi < f1 by rw [← hz3, hun, huv, hfn1, hfv1, cmpI_sg]; exact cmpZ_neg2 _ _)
      have F1 := Lib.hid (And.intro hf1 (And.intro hfn1 (And.intro hfv1 (And.intro hfn hfv))))
      have LL := Lib.hid (And.intro hlh (And.intro huh (And.intro mL mU)))
      clear hr hen hln hlv hun huv hx hz1 hz3 hlh huh mL mU hsx hgB hf1 hf1r hfn1 hfv1 hfn hfv
      go_upto_region 8 with (go_at_call 19; with_reducible refine (CE.out _).mono ?_; rintro e w4 ⟨rfl, hb4⟩)
      have R5 : PkR w3 (((w4.alloc (.cells #[.bool ln, .int .u64 (lm lv 0 : Nat), .int .u64 (lm lv 1 : Nat), .int .u64 (lm lv 2 : Nat), .int .u64 (lm lv 3 : Nat)] 29)).alloc (.cells #[.bool un, .int .u64 (lm uv 0 : Nat), .int .u64 (lm uv 1 : Nat), .int .u64 (lm uv 2 : Nat), .int .u64 (lm uv 3 : Nat)] 29)).alloc (.cells #[.bool false, .int .u64 0, .int .u64 0, .int .u64 0, .int .u64 0] 29)) Bb w4.heap.size (w4.heap.size + 1) (w4.heap.size + 1 + 1) ln lv un uv false 0 (bsN st) (bsV st) := by
        have h4 := hb4.size
        have l3 := HL3.out
        refine ⟨BH.out.below (by (repeat first | with_reducible exact Below.refl _ _ | with_reducible assumption | with_reducible refine Below.drew ?_ | with_reducible refine below_alloc ?_ _ | ((with_reducible refine Below.setCell ?_ ?_ _); rotate_left; (focus (first | with_reducible exact Nat.le_refl _ | (simp; done) | (simp; omega) | omega))) | (with_reducible refine below_trans ?_ (by assumption)))), SH.out.below (by (repeat first | with_reducible exact Below.refl _ _ | with_reducible assumption | with_reducible refine Below.drew ?_ | with_reducible refine below_alloc ?_ _ | ((with_reducible refine Below.setCell ?_ ?_ _); rotate_left; (focus (first | with_reducible exact Nat.le_refl _ | (simp; done) | (simp; omega) | omega))) | (with_reducible refine below_trans ?_ (by assumption)))), MH.out, ?_, ?_, ?_, by omega⟩
        · exact ((@iboxF_new w4 ln lv 29).alloc _).alloc _
        · have e := (@iboxF_new (w4.alloc (.cells #[.bool ln, .int .u64 (lm lv 0 : Nat), .int .u64 (lm lv 1 : Nat), .int .u64 (lm lv 2 : Nat), .int .u64 (lm lv 3 : Nat)] 29)) un uv 29).alloc (.cells #[.bool false, .int .u64 0, .int .u64 0, .int .u64 0, .int .u64 0] 29)
          rw [show (w4.alloc (.cells #[.bool ln, .int .u64 (lm lv 0 : Nat), .int .u64 (lm lv 1 : Nat), .int .u64 (lm lv 2 : Nat), .int .u64 (lm lv 3 : Nat)] 29)).heap.size = w4.heap.size + 1 from by simp] at e
          exact e
        · have e := zbox_new ((w4.alloc (.cells #[.bool ln, .int .u64 (lm lv 0 : Nat), .int .u64 (lm lv 1 : Nat), .int .u64 (lm lv 2 : Nat), .int .u64 (lm lv 3 : Nat)] 29)).alloc (.cells #[.bool un, .int .u64 (lm uv 0 : Nat), .int .u64 (lm uv 1 : Nat), .int .u64 (lm uv 2 : Nat), .int .u64 (lm uv 3 : Nat)] 29)) 29
          rw [show ((w4.alloc (.cells #[.bool ln, .int .u64 (lm lv 0 : Nat), .int .u64 (lm lv 1 : Nat), .int .u64 (lm lv 2 : Nat), .int .u64 (lm lv 3 : Nat)] 29)).alloc (.cells #[.bool un, .int .u64 (lm uv 0 : Nat), .int .u64 (lm uv 1 : Nat), .int .u64 (lm uv 2 : Nat), .int .u64 (lm uv 3 : Nat)] 29)).heap.size = w4.heap.size + 1 + 1 from by simp] at e
          exact e
      have R5 := Lib.hid R5
      generalize (((w4.alloc (.cells #[.bool ln, .int .u64 (lm lv 0 : Nat), .int .u64 (lm lv 1 : Nat), .int .u64 (lm lv 2 : Nat), .int .u64 (lm lv 3 : Nat)] 29)).alloc (.cells #[.bool un, .int .u64 (lm uv 0 : Nat), .int .u64 (lm uv 1 : Nat), .int .u64 (lm uv 2 : Nat), .int .u64 (lm uv 3 : Nat)] 29)).alloc (.cells #[.bool false, .int .u64 0, .int .u64 0, .int .u64 0, .int .u64 0] 29)) = w5 at *
      obtain ⟨Bl, hBl⟩ : ∃ B, B = w4.heap.size := ⟨_, rfl⟩
      rw [← hBl] at R5 ⊢
      obtain ⟨Bh, hBh⟩ : ∃ B, B = Bl + 1 := ⟨_, rfl⟩
      rw [← hBh] at R5 ⊢
      obtain ⟨Bf, hBf⟩ : ∃ B, B = Bh + 1 := ⟨_, rfl⟩
      rw [← hBf] at R5 ⊢
      clear hBl hBh hBf hb4
      obtain ⟨_, _, _, _, _⟩ := R5.out.s.all; obtain ⟨_, _, _, _, _⟩ := R5.out.a.all; obtain ⟨_, _, _, _, _⟩ := R5.out.b.all; obtain ⟨_, _, _, _, _⟩ := R5.out.f.all; have hs_R5 := R5.out.sz
      go_upto_if 41 with (go_at_call 20; with_reducible refine (C1.out _).mono ?_; rintro e w6 ⟨rfl, hb6⟩; have R6 := Lib.hid (R5.out.below hb6); obtain ⟨_, _, _, _, _⟩ := R6.out.s.all; obtain ⟨_, _, _, _, _⟩ := R6.out.a.all; obtain ⟨_, _, _, _, _⟩ := R6.out.b.all; obtain ⟨_, _, _, _, _⟩ := R6.out.f.all; have hs_R6 := R6.out.sz)
      go_cut [] (fun wx => PkR w3 wx Bb Bl Bh Bf ln lv un uv fn1 fv1 (bsN st) (bsV st))
      case first =>
        have F2 := F1
        by_cases c1 : 0 < z1
        · have e : fn1 = ln ∧ fv1 = lv := by rw [F2.out.2.1, F2.out.2.2.1, F2.out.1, if_pos (J1.out.1 c1), HE.out.1, HE.out.2.1]; exact ⟨rfl, rfl⟩
          clear F2
          repeat any_goals (first | go_skip | go_guarded | go_step | go_upon | (simp only []; done))
          go_meet
          case rel => rw [e.1, e.2]; exact R6.out.setF
        · have e : fn1 = false ∧ fv1 = 0 := by rw [F2.out.2.1, F2.out.2.2.1, F2.out.1, if_neg (fun h => c1 (J1.out.2 h))]; exact ⟨rfl, rfl⟩
          clear F2
          repeat any_goals (first | go_skip | go_guarded | go_step | go_upon | (simp only []; done))
          go_meet
          case rel => rw [e.1, e.2]; exact R6.out
      case rest =>
        have R7 := Lib.hid hcut
        clear hcut
        obtain ⟨w7, rfl⟩ : ∃ w7, w7 = wc := ⟨_, rfl⟩
        obtain ⟨_, _, _, _, _⟩ := R7.out.s.all; obtain ⟨_, _, _, _, _⟩ := R7.out.a.all; obtain ⟨_, _, _, _, _⟩ := R7.out.b.all; obtain ⟨_, _, _, _, _⟩ := R7.out.f.all; have hs_R7 := R7.out.sz
        go_upto_if 46 with (go_at_call 20; with_reducible refine (C3.out _).mono ?_; rintro e w8 ⟨rfl, hb8⟩; have R8 := Lib.hid (R7.out.below hb8); obtain ⟨_, _, _, _, _⟩ := R8.out.s.all; obtain ⟨_, _, _, _, _⟩ := R8.out.a.all; obtain ⟨_, _, _, _, _⟩ := R8.out.b.all; obtain ⟨_, _, _, _, _⟩ := R8.out.f.all; have hs_R8 := R8.out.sz)
        go_cut [] (fun wx => PkR w3 wx Bb Bl Bh Bf ln lv un uv fn fv (bsN st) (bsV st))
        case first =>
          by_cases c1 : z3 < 0
          · have e : fn = un ∧ fv = uv := by rw [F1.out.2.2.2.1, F1.out.2.2.2.2]; unfold fromX; rw [← F1.out.1, if_pos (J3.out.1 c1), HE.out.2.2.1, HE.out.2.2.2]; exact ⟨rfl, rfl⟩
            repeat any_goals (first | go_skip | go_guarded | go_step | go_upon | (simp only []; done))
            go_meet
            case rel => rw [e.1, e.2]; exact R8.out.setF
          · have e : fn = fn1 ∧ fv = fv1 := by rw [F1.out.2.2.2.1, F1.out.2.2.2.2]; unfold fromX; rw [← F1.out.1, if_neg (fun h => c1 (J3.out.2 h)), F1.out.2.1, F1.out.2.2.1]; exact ⟨rfl, rfl⟩
            repeat any_goals (first | go_skip | go_guarded | go_step | go_upon | (simp only []; done))
            go_meet
            case rel => rw [e.1, e.2]; exact R8.out
        case rest =>
          have R9 := Lib.hid hcut
          clear hcut
          obtain ⟨w9, rfl⟩ : ∃ w9, w9 = wc := ⟨_, rfl⟩
          repeat any_goals (first | go_skip | go_guarded | go_step | go_upon | (simp only []; done))
          go_loopw [9, 15] (fun hs i wq => ∃ (j : Nat) (st2 : Option Int), j ≤ 4 ∧ i = .int .i64 j ∧ hs = .bool st2.isSome ∧ PkR w3 wq Bb Bl Bh Bf ln lv un uv fn fv (bsN st2) (bsV st2) ∧ st2 = elemK xa ra x st j) (fun _ i _ => 4 - (intOf i).toNat)
          case atStart => exact ⟨0, st, Nat.zero_le _, rfl, rfl, R9.out, rfl⟩
          case round =>
            obtain ⟨j, st2, hj, rfl, rfl, R, hst2⟩ := hrel
            have HT := Lib.hid hst2
            by_cases hj4 : j < 4
            · obtain ⟨sn, hsn⟩ : ∃ n, n = bsN st2 := ⟨_, rfl⟩
              obtain ⟨sv, hsv⟩ : ∃ n, n = bsV st2 := ⟨_, rfl⟩
              obtain ⟨so, hso⟩ : ∃ n, n = st2.isSome := ⟨_, rfl⟩
              rw [← hsn, ← hsv] at R
              rw [← hso]
              have SS := Lib.hid (And.intro hsn (And.intro hsv hso))
              have RH := Lib.hid R
              clear R hst2 hsn hsv hso
              obtain ⟨_, _, _, _, _⟩ := RH.out.s.all; obtain ⟨_, _, _, _, _⟩ := RH.out.a.all; obtain ⟨_, _, _, _, _⟩ := RH.out.b.all; obtain ⟨_, _, _, _, _⟩ := RH.out.f.all; have hs_RH := RH.out.sz
              rcases (show j = 0 ∨ j = 1 ∨ j = 2 ∨ j = 3 by omega) with rfl | rfl | rfl | rfl
              · obtain ⟨pn, pv, po, ho, hc⟩ := near_call (fromX x) (fromX_in x) 0 true true rfl rfl
                rw [← F1.out.2.2.2.1, ← F1.out.2.2.2.2] at hc
                have CN := Lib.hid hc
                have PO := Lib.hid ho
                clear hc ho
                cases xa with
                | false =>
                  have e := Lib.hid (show elemK false ra x st (0 + 1) = st2 by rw [elemK_succ, ← HT.out]; exact stepK_off rfl)
                  repeat any_goals (first | go_skip | go_guarded | go_step | go_upon | (simp only []; done))
                  go_roundw
                  case rel => exact ⟨0 + 1, st2, by omega, rfl, by rw [SS.out.2.2], by rw [← SS.out.1, ← SS.out.2.1]; exact RH.out, e.out.symm⟩
                  case measure => simp [intOf]
                | true => 
                  cases po with
                  | false =>
                    have hn : candK (fromX x) 0 = none := Option.isSome_eq_false_iff.1 PO.out.is.symm |> Option.isNone_iff_eq_none.1
                    have e := Lib.hid (show elemK true ra x st (0 + 1) = st2 by rw [elemK_succ, ← HT.out]; exact stepK_none hn)
                    clear hn
                    repeat any_goals (first | (go_at_call 21; with_reducible refine (CN.out _).mono ?_; rintro e wa ⟨rfl, hba⟩; have RA := Lib.hid (RH.out.below (below_alloc hba (.cells #[.bool pn, .int .u64 (lm pv 0 : Nat), .int .u64 (lm pv 1 : Nat), .int .u64 (lm pv 2 : Nat), .int .u64 (lm pv 3 : Nat)] 29))); have XA := Lib.hid (@ibox_new wa pn pv 29); obtain ⟨_, _, _, _, _⟩ := RA.out.s.all; obtain ⟨_, _, _, _, _⟩ := RA.out.a.all; obtain ⟨_, _, _, _, _⟩ := RA.out.b.all; obtain ⟨_, _, _, _, _⟩ := RA.out.f.all; have hs_RA := RA.out.sz; obtain ⟨_, _, _, _, _⟩ := XA.out.all) | go_skip | go_guarded | go_step | go_upon | (dsimp only []))
                    go_roundw
                    case rel => exact ⟨0 + 1, st2, by omega, rfl, by rw [SS.out.2.2], by rw [← SS.out.1, ← SS.out.2.1]; exact RA.out, e.out.symm⟩
                    case measure => simp [intOf]
                  | true =>
                    obtain ⟨m, hm⟩ : ∃ m, candK (fromX x) 0 = some m := Option.isSome_iff_exists.1 PO.out.is.symm
                    obtain ⟨hmn, hmv, hmr⟩ := PO.out.val m hm
                    obtain ⟨z4, hz4⟩ : ∃ z, cmpI ln lv pn pv = z := ⟨_, rfl⟩
                    obtain ⟨z5, hz5⟩ : ∃ z, cmpI pn pv un uv = z := ⟨_, rfl⟩
                    obtain ⟨q, hq⟩ : ∃ q, closerB pn pv sn sv so = q := ⟨_, rfl⟩
                    have hpv : pv < 2 ^ 256 := by rw [hmv]; exact hmr
                    have hpm : mayI pn pv = true := by rw [hmn, hmv]; exact mayI_sg _
                    have C4 := Lib.hid fun wx => RCmp_any ln lv LL.out.1 pn pv hpv LL.out.2.2.1 hpm wx
                    have C5 := Lib.hid fun wx => RCmp_any pn pv hpv un uv LL.out.2.1 hpm LL.out.2.2.2 wx
                    have C6 := Lib.hid fun wx => RCloser_any pn sn so pv sv hpv RH.out.m wx
                    rw [hz4] at C4
                    rw [hz5] at C5
                    rw [hq] at C6
                    have J4 := Lib.hid (show z4 ≤ 0 ↔ x.lo ≤ m by rw [← hz4, hmn, hmv, HE.out.1, HE.out.2.1, cmpI_sg]; exact cmpZ_nonpos _ _)
                    have J5 := Lib.hid (show z5 ≤ 0 ↔ m ≤ x.hi by rw [← hz5, hmn, hmv, HE.out.2.2.1, HE.out.2.2.2, cmpI_sg]; exact cmpZ_nonpos _ _)
                    have HM := Lib.hid (And.intro hm (And.intro hmn (And.intro hmv hpv)))
                    have HQ := Lib.hid hq
                    clear hm hmn hmv hmr hz4 hz5 hq hpv hpm
                    by_cases c4 : z4 ≤ 0
                    · by_cases c5 : z5 ≤ 0
                      · have e := Lib.hid (show elemK true ra x st (0 + 1) = if q = true then some m else st2 by
                          rw [elemK_succ, ← HT.out, ← HQ.out, SS.out.1, SS.out.2.1, SS.out.2.2, HM.out.2.1, HM.out.2.2.1]
                          exact stepK_in rfl HM.out.1 ⟨J4.out.1 c4, J5.out.1 c5⟩)
                        cases q with
                        | false =>
                          repeat any_goals (first | (go_at_call 21; with_reducible refine (CN.out _).mono ?_; rintro e wa ⟨rfl, hba⟩; have RA := Lib.hid (RH.out.below (below_alloc hba (.cells #[.bool pn, .int .u64 (lm pv 0 : Nat), .int .u64 (lm pv 1 : Nat), .int .u64 (lm pv 2 : Nat), .int .u64 (lm pv 3 : Nat)] 29))); have XA := Lib.hid (@ibox_new wa pn pv 29); obtain ⟨_, _, _, _, _⟩ := RA.out.s.all; obtain ⟨_, _, _, _, _⟩ := RA.out.a.all; obtain ⟨_, _, _, _, _⟩ := RA.out.b.all; obtain ⟨_, _, _, _, _⟩ := RA.out.f.all; have hs_RA := RA.out.sz; obtain ⟨_, _, _, _, _⟩ := XA.out.all) | (go_at_call 20; with_reducible refine (C4.out _).mono ?_; rintro e wb ⟨rfl, hbb⟩; have RB := Lib.hid (RA.out.below hbb); have XB := Lib.hid (XA.out.below hbb); obtain ⟨_, _, _, _, _⟩ := RB.out.s.all; obtain ⟨_, _, _, _, _⟩ := RB.out.a.all; obtain ⟨_, _, _, _, _⟩ := RB.out.b.all; obtain ⟨_, _, _, _, _⟩ := RB.out.f.all; have hs_RB := RB.out.sz; obtain ⟨_, _, _, _, _⟩ := XB.out.all) | (go_at_call 20; with_reducible refine (C5.out _).mono ?_; rintro e wd ⟨rfl, hbd⟩; have RC := Lib.hid (RB.out.below hbd); have XC := Lib.hid (XB.out.below hbd); obtain ⟨_, _, _, _, _⟩ := RC.out.s.all; obtain ⟨_, _, _, _, _⟩ := RC.out.a.all; obtain ⟨_, _, _, _, _⟩ := RC.out.b.all; obtain ⟨_, _, _, _, _⟩ := RC.out.f.all; have hs_RC := RC.out.sz; obtain ⟨_, _, _, _, _⟩ := XC.out.all) | (go_at_call 22; with_reducible refine (C6.out _).mono ?_; rintro e we ⟨rfl, hbe⟩; have RD := Lib.hid (RC.out.below hbe); have XD := Lib.hid (XC.out.below hbe); obtain ⟨_, _, _, _, _⟩ := RD.out.s.all; obtain ⟨_, _, _, _, _⟩ := RD.out.a.all; obtain ⟨_, _, _, _, _⟩ := RD.out.b.all; obtain ⟨_, _, _, _, _⟩ := RD.out.f.all; have hs_RD := RD.out.sz; obtain ⟨_, _, _, _, _⟩ := XD.out.all) | go_skip | go_guarded | go_step | go_upon | (dsimp only []))
                          go_roundw
                          case rel => exact ⟨0 + 1, st2, by omega, rfl, by rw [SS.out.2.2], by rw [← SS.out.1, ← SS.out.2.1]; exact RD.out, by rw [e.out]; rfl⟩
                          case measure => simp [intOf]
                        | true =>
                          repeat any_goals (first | (go_at_call 21; with_reducible refine (CN.out _).mono ?_; rintro e wa ⟨rfl, hba⟩; have RA := Lib.hid (RH.out.below (below_alloc hba (.cells #[.bool pn, .int .u64 (lm pv 0 : Nat), .int .u64 (lm pv 1 : Nat), .int .u64 (lm pv 2 : Nat), .int .u64 (lm pv 3 : Nat)] 29))); have XA := Lib.hid (@ibox_new wa pn pv 29); obtain ⟨_, _, _, _, _⟩ := RA.out.s.all; obtain ⟨_, _, _, _, _⟩ := RA.out.a.all; obtain ⟨_, _, _, _, _⟩ := RA.out.b.all; obtain ⟨_, _, _, _, _⟩ := RA.out.f.all; have hs_RA := RA.out.sz; obtain ⟨_, _, _, _, _⟩ := XA.out.all) | (go_at_call 20; with_reducible refine (C4.out _).mono ?_; rintro e wb ⟨rfl, hbb⟩; have RB := Lib.hid (RA.out.below hbb); have XB := Lib.hid (XA.out.below hbb); obtain ⟨_, _, _, _, _⟩ := RB.out.s.all; obtain ⟨_, _, _, _, _⟩ := RB.out.a.all; obtain ⟨_, _, _, _, _⟩ := RB.out.b.all; obtain ⟨_, _, _, _, _⟩ := RB.out.f.all; have hs_RB := RB.out.sz; obtain ⟨_, _, _, _, _⟩ := XB.out.all) | (go_at_call 20; with_reducible refine (C5.out _).mono ?_; rintro e wd ⟨rfl, hbd⟩; have RC := Lib.hid (RB.out.below hbd); have XC := Lib.hid (XB.out.below hbd); obtain ⟨_, _, _, _, _⟩ := RC.out.s.all; obtain ⟨_, _, _, _, _⟩ := RC.out.a.all; obtain ⟨_, _, _, _, _⟩ := RC.out.b.all; obtain ⟨_, _, _, _, _⟩ := RC.out.f.all; have hs_RC := RC.out.sz; obtain ⟨_, _, _, _, _⟩ := XC.out.all) | (go_at_call 22; with_reducible refine (C6.out _).mono ?_; rintro e we ⟨rfl, hbe⟩; have RD := Lib.hid (RC.out.below hbe); have XD := Lib.hid (XC.out.below hbe); obtain ⟨_, _, _, _, _⟩ := RD.out.s.all; obtain ⟨_, _, _, _, _⟩ := RD.out.a.all; obtain ⟨_, _, _, _, _⟩ := RD.out.b.all; obtain ⟨_, _, _, _, _⟩ := RD.out.f.all; have hs_RD := RD.out.sz; obtain ⟨_, _, _, _, _⟩ := XD.out.all) | go_skip | go_guarded | go_step | go_upon | (dsimp only []))
                          go_roundw
                          case rel => exact ⟨0 + 1, some m, by omega, rfl, rfl, by rw [show bsN (some m) = pn from HM.out.2.1.symm, show bsV (some m) = pv from HM.out.2.2.1.symm]; exact RD.out.put HM.out.2.2.2, by rw [e.out]; rfl⟩
                          case measure => simp [intOf]
                      · have e := Lib.hid (show elemK true ra x st (0 + 1) = st2 by rw [elemK_succ, ← HT.out]; exact stepK_out HM.out.1 (fun h => c5 (J5.out.2 h.2)))
                        repeat any_goals (first | (go_at_call 21; with_reducible refine (CN.out _).mono ?_; rintro e wa ⟨rfl, hba⟩; have RA := Lib.hid (RH.out.below (below_alloc hba (.cells #[.bool pn, .int .u64 (lm pv 0 : Nat), .int .u64 (lm pv 1 : Nat), .int .u64 (lm pv 2 : Nat), .int .u64 (lm pv 3 : Nat)] 29))); have XA := Lib.hid (@ibox_new wa pn pv 29); obtain ⟨_, _, _, _, _⟩ := RA.out.s.all; obtain ⟨_, _, _, _, _⟩ := RA.out.a.all; obtain ⟨_, _, _, _, _⟩ := RA.out.b.all; obtain ⟨_, _, _, _, _⟩ := RA.out.f.all; have hs_RA := RA.out.sz; obtain ⟨_, _, _, _, _⟩ := XA.out.all) | (go_at_call 20; with_reducible refine (C4.out _).mono ?_; rintro e wb ⟨rfl, hbb⟩; have RB := Lib.hid (RA.out.below hbb); have XB := Lib.hid (XA.out.below hbb); obtain ⟨_, _, _, _, _⟩ := RB.out.s.all; obtain ⟨_, _, _, _, _⟩ := RB.out.a.all; obtain ⟨_, _, _, _, _⟩ := RB.out.b.all; obtain ⟨_, _, _, _, _⟩ := RB.out.f.all; have hs_RB := RB.out.sz; obtain ⟨_, _, _, _, _⟩ := XB.out.all) | (go_at_call 20; with_reducible refine (C5.out _).mono ?_; rintro e wd ⟨rfl, hbd⟩; have RC := Lib.hid (RB.out.below hbd); have XC := Lib.hid (XB.out.below hbd); obtain ⟨_, _, _, _, _⟩ := RC.out.s.all; obtain ⟨_, _, _, _, _⟩ := RC.out.a.all; obtain ⟨_, _, _, _, _⟩ := RC.out.b.all; obtain ⟨_, _, _, _, _⟩ := RC.out.f.all; have hs_RC := RC.out.sz; obtain ⟨_, _, _, _, _⟩ := XC.out.all) | go_skip | go_guarded | go_step | go_upon | (dsimp only []))
                        go_roundw
                        case rel => exact ⟨0 + 1, st2, by omega, rfl, by rw [SS.out.2.2], by rw [← SS.out.1, ← SS.out.2.1]; exact RC.out, e.out.symm⟩
                        case measure => simp [intOf]
                    · have e := Lib.hid (show elemK true ra x st (0 + 1) = st2 by rw [elemK_succ, ← HT.out]; exact stepK_out HM.out.1 (fun h => c4 (J4.out.2 h.1)))
                      repeat any_goals (first | (go_at_call 21; with_reducible refine (CN.out _).mono ?_; rintro e wa ⟨rfl, hba⟩; have RA := Lib.hid (RH.out.below (below_alloc hba (.cells #[.bool pn, .int .u64 (lm pv 0 : Nat), .int .u64 (lm pv 1 : Nat), .int .u64 (lm pv 2 : Nat), .int .u64 (lm pv 3 : Nat)] 29))); have XA := Lib.hid (@ibox_new wa pn pv 29); obtain ⟨_, _, _, _, _⟩ := RA.out.s.all; obtain ⟨_, _, _, _, _⟩ := RA.out.a.all; obtain ⟨_, _, _, _, _⟩ := RA.out.b.all; obtain ⟨_, _, _, _, _⟩ := RA.out.f.all; have hs_RA := RA.out.sz; obtain ⟨_, _, _, _, _⟩ := XA.out.all) | (go_at_call 20; with_reducible refine (C4.out _).mono ?_; rintro e wb ⟨rfl, hbb⟩; have RB := Lib.hid (RA.out.below hbb); have XB := Lib.hid (XA.out.below hbb); obtain ⟨_, _, _, _, _⟩ := RB.out.s.all; obtain ⟨_, _, _, _, _⟩ := RB.out.a.all; obtain ⟨_, _, _, _, _⟩ := RB.out.b.all; obtain ⟨_, _, _, _, _⟩ := RB.out.f.all; have hs_RB := RB.out.sz; obtain ⟨_, _, _, _, _⟩ := XB.out.all) | go_skip | go_guarded | go_step | go_upon | (dsimp only []))
                      go_roundw
                      case rel => exact ⟨0 + 1, st2, by omega, rfl, by rw [SS.out.2.2], by rw [← SS.out.1, ← SS.out.2.1]; exact RB.out, e.out.symm⟩
                      case measure => simp [intOf]
              · obtain ⟨pn, pv, po, ho, hc⟩ := near_call (fromX x) (fromX_in x) 1 true false rfl rfl
                rw [← F1.out.2.2.2.1, ← F1.out.2.2.2.2] at hc
                have CN := Lib.hid hc
                have PO := Lib.hid ho
                clear hc ho
                cases xa with
                | false =>
                  have e := Lib.hid (show elemK false ra x st (1 + 1) = st2 by rw [elemK_succ, ← HT.out]; exact stepK_off rfl)
                  repeat any_goals (first | go_skip | go_guarded | go_step | go_upon | (simp only []; done))
                  go_roundw
                  case rel => exact ⟨1 + 1, st2, by omega, rfl, by rw [SS.out.2.2], by rw [← SS.out.1, ← SS.out.2.1]; exact RH.out, e.out.symm⟩
                  case measure => simp [intOf]
                | true => 
                  cases po with
                  | false =>
                    have hn : candK (fromX x) 1 = none := Option.isSome_eq_false_iff.1 PO.out.is.symm |> Option.isNone_iff_eq_none.1
                    have e := Lib.hid (show elemK true ra x st (1 + 1) = st2 by rw [elemK_succ, ← HT.out]; exact stepK_none hn)
                    clear hn
                    repeat any_goals (first | (go_at_call 21; with_reducible refine (CN.out _).mono ?_; rintro e wa ⟨rfl, hba⟩; have RA := Lib.hid (RH.out.below (below_alloc hba (.cells #[.bool pn, .int .u64 (lm pv 0 : Nat), .int .u64 (lm pv 1 : Nat), .int .u64 (lm pv 2 : Nat), .int .u64 (lm pv 3 : Nat)] 29))); have XA := Lib.hid (@ibox_new wa pn pv 29); obtain ⟨_, _, _, _, _⟩ := RA.out.s.all; obtain ⟨_, _, _, _, _⟩ := RA.out.a.all; obtain ⟨_, _, _, _, _⟩ := RA.out.b.all; obtain ⟨_, _, _, _, _⟩ := RA.out.f.all; have hs_RA := RA.out.sz; obtain ⟨_, _, _, _, _⟩ := XA.out.all) | go_skip | go_guarded | go_step | go_upon | (dsimp only []))
                    go_roundw
                    case rel => exact ⟨1 + 1, st2, by omega, rfl, by rw [SS.out.2.2], by rw [← SS.out.1, ← SS.out.2.1]; exact RA.out, e.out.symm⟩
                    case measure => simp [intOf]
                  | true =>
                    obtain ⟨m, hm⟩ : ∃ m, candK (fromX x) 1 = some m := Option.isSome_iff_exists.1 PO.out.is.symm
                    obtain ⟨hmn, hmv, hmr⟩ := PO.out.val m hm
                    obtain ⟨z4, hz4⟩ : ∃ z, cmpI ln lv pn pv = z := ⟨_, rfl⟩
                    obtain ⟨z5, hz5⟩ : ∃ z, cmpI pn pv un uv = z := ⟨_, rfl⟩
                    obtain ⟨q, hq⟩ : ∃ q, closerB pn pv sn sv so = q := ⟨_, rfl⟩
                    have hpv : pv < 2 ^ 256 := by rw [hmv]; exact hmr
                    have hpm : mayI pn pv = true := by rw [hmn, hmv]; exact mayI_sg _
                    have C4 := Lib.hid fun wx => RCmp_any ln lv LL.out.1 pn pv hpv LL.out.2.2.1 hpm wx
                    have C5 := Lib.hid fun wx => RCmp_any pn pv hpv un uv LL.out.2.1 hpm LL.out.2.2.2 wx
                    have C6 := Lib.hid fun wx => RCloser_any pn sn so pv sv hpv RH.out.m wx
                    rw [hz4] at C4
                    rw [hz5] at C5
                    rw [hq] at C6
                    have J4 := Lib.hid (show z4 ≤ 0 ↔ x.lo ≤ m by rw [← hz4, hmn, hmv, HE.out.1, HE.out.2.1, cmpI_sg]; exact cmpZ_nonpos _ _)
                    have J5 := Lib.hid (show z5 ≤ 0 ↔ m ≤ x.hi by rw [← hz5, hmn, hmv, HE.out.2.2.1, HE.out.2.2.2, cmpI_sg]; exact cmpZ_nonpos _ _)
                    have HM := Lib.hid (And.intro hm (And.intro hmn (And.intro hmv hpv)))
                    have HQ := Lib.hid hq
                    clear hm hmn hmv hmr hz4 hz5 hq hpv hpm
                    by_cases c4 : z4 ≤ 0
                    · by_cases c5 : z5 ≤ 0
                      · have e := Lib.hid (show elemK true ra x st (1 + 1) = if q = true then some m else st2 by
                          rw [elemK_succ, ← HT.out, ← HQ.out, SS.out.1, SS.out.2.1, SS.out.2.2, HM.out.2.1, HM.out.2.2.1]
                          exact stepK_in rfl HM.out.1 ⟨J4.out.1 c4, J5.out.1 c5⟩)
                        cases q with
                        | false =>
                          repeat any_goals (first | (go_at_call 21; with_reducible refine (CN.out _).mono ?_; rintro e wa ⟨rfl, hba⟩; have RA := Lib.hid (RH.out.below (below_alloc hba (.cells #[.bool pn, .int .u64 (lm pv 0 : Nat), .int .u64 (lm pv 1 : Nat), .int .u64 (lm pv 2 : Nat), .int .u64 (lm pv 3 : Nat)] 29))); have XA := Lib.hid (@ibox_new wa pn pv 29); obtain ⟨_, _, _, _, _⟩ := RA.out.s.all; obtain ⟨_, _, _, _, _⟩ := RA.out.a.all; obtain ⟨_, _, _, _, _⟩ := RA.out.b.all; obtain ⟨_, _, _, _, _⟩ := RA.out.f.all; have hs_RA := RA.out.sz; obtain ⟨_, _, _, _, _⟩ := XA.out.all) | (go_at_call 20; with_reducible refine (C4.out _).mono ?_; rintro e wb ⟨rfl, hbb⟩; have RB := Lib.hid (RA.out.below hbb); have XB := Lib.hid (XA.out.below hbb); obtain ⟨_, _, _, _, _⟩ := RB.out.s.all; obtain ⟨_, _, _, _, _⟩ := RB.out.a.all; obtain ⟨_, _, _, _, _⟩ := RB.out.b.all; obtain ⟨_, _, _, _, _⟩ := RB.out.f.all; have hs_RB := RB.out.sz; obtain ⟨_, _, _, _, _⟩ := XB.out.all) | (go_at_call 20; with_reducible refine (C5.out _).mono ?_; rintro e wd ⟨rfl, hbd⟩; have RC := Lib.hid (RB.out.below hbd); have XC := Lib.hid (XB.out.below hbd); obtain ⟨_, _, _, _, _⟩ := RC.out.s.all; obtain ⟨_, _, _, _, _⟩ := RC.out.a.all; obtain ⟨_, _, _, _, _⟩ := RC.out.b.all; obtain ⟨_, _, _, _, _⟩ := RC.out.f.all; have hs_RC := RC.out.sz; obtain ⟨_, _, _, _, _⟩ := XC.out.all) | (go_at_call 22; with_reducible refine (C6.out _).mono ?_; rintro e we ⟨rfl, hbe⟩; have RD := Lib.hid (RC.out.below hbe); have XD := Lib.hid (XC.out.below hbe); obtain ⟨_, _, _, _, _⟩ := RD.out.s.all; obtain ⟨_, _, _, _, _⟩ := RD.out.a.all; obtain ⟨_, _, _, _, _⟩ := RD.out.b.all; obtain ⟨_, _, _, _, _⟩ := RD.out.f.all; have hs_RD := RD.out.sz; obtain ⟨_, _, _, _, _⟩ := XD.out.all) | go_skip | go_guarded | go_step | go_upon | (dsimp only []))
                          go_roundw
                          case rel => exact ⟨1 + 1, st2, by omega, rfl, by rw [SS.out.2.2], by rw [← SS.out.1, ← SS.out.2.1]; exact RD.out, by rw [e.out]; rfl⟩
                          case measure => simp [intOf]
                        | true =>
                          repeat any_goals (first | (go_at_call 21; with_reducible refine (CN.out _).mono ?_; rintro e wa ⟨rfl, hba⟩; have RA := Lib.hid (RH.out.below (below_alloc hba (.cells #[.bool pn, .int .u64 (lm pv 0 : Nat), .int .u64 (lm pv 1 : Nat), .int .u64 (lm pv 2 : Nat), .int .u64 (lm pv 3 : Nat)] 29))); have XA := Lib.hid (@ibox_new wa pn pv 29); obtain ⟨_, _, _, _, _⟩ := RA.out.s.all; obtain ⟨_, _, _, _, _⟩ := RA.out.a.all; obtain ⟨_, _, _, _, _⟩ := RA.out.b.all; obtain ⟨_, _, _, _, _⟩ := RA.out.f.all; have hs_RA := RA.out.sz; obtain ⟨_, _, _, _, _⟩ := XA.out.all) | (go_at_call 20; with_reducible refine (C4.out _).mono ?_; rintro e wb ⟨rfl, hbb⟩; have RB := Lib.hid (RA.out.below hbb); have XB := Lib.hid (XA.out.below hbb); obtain ⟨_, _, _, _, _⟩ := RB.out.s.all; obtain ⟨_, _, _, _, _⟩ := RB.out.a.all; obtain ⟨_, _, _, _, _⟩ := RB.out.b.all; obtain ⟨_, _, _, _, _⟩ := RB.out.f.all; have hs_RB := RB.out.sz; obtain ⟨_, _, _, _, _⟩ := XB.out.all) | (go_at_call 20; with_reducible refine (C5.out _).mono ?_; rintro e wd ⟨rfl, hbd⟩; have RC := Lib.hid (RB.out.below hbd); have XC := Lib.hid (XB.out.below hbd); obtain ⟨_, _, _, _, _⟩ := RC.out.s.all; obtain ⟨_, _, _, _, _⟩ := RC.out.a.all; obtain ⟨_, _, _, _, _⟩ := RC.out.b.all; obtain ⟨_, _, _, _, _⟩ := RC.out.f.all; have hs_RC := RC.out.sz; obtain ⟨_, _, _, _, _⟩ := XC.out.all) | (go_at_call 22; with_reducible refine (C6.out _).mono ?_; rintro e we ⟨rfl, hbe⟩; have RD := Lib.hid (RC.out.below hbe); have XD := Lib.hid (XC.out.below hbe); obtain ⟨_, _, _, _, _⟩ := RD.out.s.all; obtain ⟨_, _, _, _, _⟩ := RD.out.a.all; obtain ⟨_, _, _, _, _⟩ := RD.out.b.all; obtain ⟨_, _, _, _, _⟩ := RD.out.f.all; have hs_RD := RD.out.sz; obtain ⟨_, _, _, _, _⟩ := XD.out.all) | go_skip | go_guarded | go_step | go_upon | (dsimp only []))
                          go_roundw
                          case rel => exact ⟨1 + 1, some m, by omega, rfl, rfl, by rw [show bsN (some m) = pn from HM.out.2.1.symm, show bsV (some m) = pv from HM.out.2.2.1.symm]; exact RD.out.put HM.out.2.2.2, by rw [e.out]; rfl⟩
                          case measure => simp [intOf]
                      · have e := Lib.hid (show elemK true ra x st (1 + 1) = st2 by rw [elemK_succ, ← HT.out]; exact stepK_out HM.out.1 (fun h => c5 (J5.out.2 h.2)))
                        repeat any_goals (first | (go_at_call 21; with_reducible refine (CN.out _).mono ?_; rintro e wa ⟨rfl, hba⟩; have RA := Lib.hid (RH.out.below (below_alloc hba (.cells #[.bool pn, .int .u64 (lm pv 0 : Nat), .int .u64 (lm pv 1 : Nat), .int .u64 (lm pv 2 : Nat), .int .u64 (lm pv 3 : Nat)] 29))); have XA := Lib.hid (@ibox_new wa pn pv 29); obtain ⟨_, _, _, _, _⟩ := RA.out.s.all; obtain ⟨_, _, _, _, _⟩ := RA.out.a.all; obtain ⟨_, _, _, _, _⟩ := RA.out.b.all; obtain ⟨_, _, _, _, _⟩ := RA.out.f.all; have hs_RA := RA.out.sz; obtain ⟨_, _, _, _, _⟩ := XA.out.all) | (go_at_call 20; with_reducible refine (C4.out _).mono ?_; rintro e wb ⟨rfl, hbb⟩; have RB := Lib.hid (RA.out.below hbb); have XB := Lib.hid (XA.out.below hbb); obtain ⟨_, _, _, _, _⟩ := RB.out.s.all; obtain ⟨_, _, _, _, _⟩ := RB.out.a.all; obtain ⟨_, _, _, _, _⟩ := RB.out.b.all; obtain ⟨_, _, _, _, _⟩ := RB.out.f.all; have hs_RB := RB.out.sz; obtain ⟨_, _, _, _, _⟩ := XB.out.all) | (go_at_call 20; with_reducible refine (C5.out _).mono ?_; rintro e wd ⟨rfl, hbd⟩; have RC := Lib.hid (RB.out.below hbd); have XC := Lib.hid (XB.out.below hbd); obtain ⟨_, _, _, _, _⟩ := RC.out.s.all; obtain ⟨_, _, _, _, _⟩ := RC.out.a.all; obtain ⟨_, _, _, _, _⟩ := RC.out.b.all; obtain ⟨_, _, _, _, _⟩ := RC.out.f.all; have hs_RC := RC.out.sz; obtain ⟨_, _, _, _, _⟩ := XC.out.all) | go_skip | go_guarded | go_step | go_upon | (dsimp only []))
                        go_roundw
                        case rel => exact ⟨1 + 1, st2, by omega, rfl, by rw [SS.out.2.2], by rw [← SS.out.1, ← SS.out.2.1]; exact RC.out, e.out.symm⟩
                        case measure => simp [intOf]
                    · have e := Lib.hid (show elemK true ra x st (1 + 1) = st2 by rw [elemK_succ, ← HT.out]; exact stepK_out HM.out.1 (fun h => c4 (J4.out.2 h.1)))
                      repeat any_goals (first | (go_at_call 21; with_reducible refine (CN.out _).mono ?_; rintro e wa ⟨rfl, hba⟩; have RA := Lib.hid (RH.out.below (below_alloc hba (.cells #[.bool pn, .int .u64 (lm pv 0 : Nat), .int .u64 (lm pv 1 : Nat), .int .u64 (lm pv 2 : Nat), .int .u64 (lm pv 3 : Nat)] 29))); have XA := Lib.hid (@ibox_new wa pn pv 29); obtain ⟨_, _, _, _, _⟩ := RA.out.s.all; obtain ⟨_, _, _, _, _⟩ := RA.out.a.all; obtain ⟨_, _, _, _, _⟩ := RA.out.b.all; obtain ⟨_, _, _, _, _⟩ := RA.out.f.all; have hs_RA := RA.out.sz; obtain ⟨_, _, _, _, _⟩ := XA.out.all) | (go_at_call 20; with_reducible refine (C4.out _).mono ?_; rintro e wb ⟨rfl, hbb⟩; have RB := Lib.hid (RA.out.below hbb); have XB := Lib.hid (XA.out.below hbb); obtain ⟨_, _, _, _, _⟩ := RB.out.s.all; obtain ⟨_, _, _, _, _⟩ := RB.out.a.all; obtain ⟨_, _, _, _, _⟩ := RB.out.b.all; obtain ⟨_, _, _, _, _⟩ := RB.out.f.all; have hs_RB := RB.out.sz; obtain ⟨_, _, _, _, _⟩ := XB.out.all) | go_skip | go_guarded | go_step | go_upon | (dsimp only []))
                      go_roundw
                      case rel => exact ⟨1 + 1, st2, by omega, rfl, by rw [SS.out.2.2], by rw [← SS.out.1, ← SS.out.2.1]; exact RB.out, e.out.symm⟩
                      case measure => simp [intOf]
              · obtain ⟨pn, pv, po, ho, hc⟩ := near_call (fromX x) (fromX_in x) 2 false true rfl rfl
                rw [← F1.out.2.2.2.1, ← F1.out.2.2.2.2] at hc
                have CN := Lib.hid hc
                have PO := Lib.hid ho
                clear hc ho
                cases ra with
                | false =>
                  have e := Lib.hid (show elemK xa false x st (2 + 1) = st2 by rw [elemK_succ, ← HT.out]; exact stepK_off rfl)
                  repeat any_goals (first | go_skip | go_guarded | go_step | go_upon | (simp only []; done))
                  go_roundw
                  case rel => exact ⟨2 + 1, st2, by omega, rfl, by rw [SS.out.2.2], by rw [← SS.out.1, ← SS.out.2.1]; exact RH.out, e.out.symm⟩
                  case measure => simp [intOf]
                | true => 
                  cases po with
                  | false =>
                    have hn : candK (fromX x) 2 = none := Option.isSome_eq_false_iff.1 PO.out.is.symm |> Option.isNone_iff_eq_none.1
                    have e := Lib.hid (show elemK xa true x st (2 + 1) = st2 by rw [elemK_succ, ← HT.out]; exact stepK_none hn)
                    clear hn
                    repeat any_goals (first | (go_at_call 21; with_reducible refine (CN.out _).mono ?_; rintro e wa ⟨rfl, hba⟩; have RA := Lib.hid (RH.out.below (below_alloc hba (.cells #[.bool pn, .int .u64 (lm pv 0 : Nat), .int .u64 (lm pv 1 : Nat), .int .u64 (lm pv 2 : Nat), .int .u64 (lm pv 3 : Nat)] 29))); have XA := Lib.hid (@ibox_new wa pn pv 29); obtain ⟨_, _, _, _, _⟩ := RA.out.s.all; obtain ⟨_, _, _, _, _⟩ := RA.out.a.all; obtain ⟨_, _, _, _, _⟩ := RA.out.b.all; obtain ⟨_, _, _, _, _⟩ := RA.out.f.all; have hs_RA := RA.out.sz; obtain ⟨_, _, _, _, _⟩ := XA.out.all) | go_skip | go_guarded | go_step | go_upon | (dsimp only []))
                    go_roundw
                    case rel => exact ⟨2 + 1, st2, by omega, rfl, by rw [SS.out.2.2], by rw [← SS.out.1, ← SS.out.2.1]; exact RA.out, e.out.symm⟩
                    case measure => simp [intOf]
                  | true =>
                    obtain ⟨m, hm⟩ : ∃ m, candK (fromX x) 2 = some m := Option.isSome_iff_exists.1 PO.out.is.symm
                    obtain ⟨hmn, hmv, hmr⟩ := PO.out.val m hm
                    obtain ⟨z4, hz4⟩ : ∃ z, cmpI ln lv pn pv = z := ⟨_, rfl⟩
                    obtain ⟨z5, hz5⟩ : ∃ z, cmpI pn pv un uv = z := ⟨_, rfl⟩
                    obtain ⟨q, hq⟩ : ∃ q, closerB pn pv sn sv so = q := ⟨_, rfl⟩
                    have hpv : pv < 2 ^ 256 := by rw [hmv]; exact hmr
                    have hpm : mayI pn pv = true := by rw [hmn, hmv]; exact mayI_sg _
                    have C4 := Lib.hid fun wx => RCmp_any ln lv LL.out.1 pn pv hpv LL.out.2.2.1 hpm wx
                    have C5 := Lib.hid fun wx => RCmp_any pn pv hpv un uv LL.out.2.1 hpm LL.out.2.2.2 wx
                    have C6 := Lib.hid fun wx => RCloser_any pn sn so pv sv hpv RH.out.m wx
                    rw [hz4] at C4
                    rw [hz5] at C5
                    rw [hq] at C6
                    have J4 := Lib.hid (show z4 ≤ 0 ↔ x.lo ≤ m by rw [← hz4, hmn, hmv, HE.out.1, HE.out.2.1, cmpI_sg]; exact cmpZ_nonpos _ _)
                    have J5 := Lib.hid (show z5 ≤ 0 ↔ m ≤ x.hi by rw [← hz5, hmn, hmv, HE.out.2.2.1, HE.out.2.2.2, cmpI_sg]; exact cmpZ_nonpos _ _)
                    have HM := Lib.hid (And.intro hm (And.intro hmn (And.intro hmv hpv)))
                    have HQ := Lib.hid hq
                    clear hm hmn hmv hmr hz4 hz5 hq hpv hpm
                    by_cases c4 : z4 ≤ 0
                    · by_cases c5 : z5 ≤ 0
                      · have e := Lib.hid (show elemK xa true x st (2 + 1) = if q = true then some m else st2 by
                          rw [elemK_succ, ← HT.out, ← HQ.out, SS.out.1, SS.out.2.1, SS.out.2.2, HM.out.2.1, HM.out.2.2.1]
                          exact stepK_in rfl HM.out.1 ⟨J4.out.1 c4, J5.out.1 c5⟩)
                        cases q with
                        | false =>
                          repeat any_goals (first | (go_at_call 21; with_reducible refine (CN.out _).mono ?_; rintro e wa ⟨rfl, hba⟩; have RA := Lib.hid (RH.out.below (below_alloc hba (.cells #[.bool pn, .int .u64 (lm pv 0 : Nat), .int .u64 (lm pv 1 : Nat), .int .u64 (lm pv 2 : Nat), .int .u64 (lm pv 3 : Nat)] 29))); have XA := Lib.hid (@ibox_new wa pn pv 29); obtain ⟨_, _, _, _, _⟩ := RA.out.s.all; obtain ⟨_, _, _, _, _⟩ := RA.out.a.all; obtain ⟨_, _, _, _, _⟩ := RA.out.b.all; obtain ⟨_, _, _, _, _⟩ := RA.out.f.all; have hs_RA := RA.out.sz; obtain ⟨_, _, _, _, _⟩ := XA.out.all) | (go_at_call 20; with_reducible refine (C4.out _).mono ?_; rintro e wb ⟨rfl, hbb⟩; have RB := Lib.hid (RA.out.below hbb); have XB := Lib.hid (XA.out.below hbb); obtain ⟨_, _, _, _, _⟩ := RB.out.s.all; obtain ⟨_, _, _, _, _⟩ := RB.out.a.all; obtain ⟨_, _, _, _, _⟩ := RB.out.b.all; obtain ⟨_, _, _, _, _⟩ := RB.out.f.all; have hs_RB := RB.out.sz; obtain ⟨_, _, _, _, _⟩ := XB.out.all) | (go_at_call 20; with_reducible refine (C5.out _).mono ?_; rintro e wd ⟨rfl, hbd⟩; have RC := Lib.hid (RB.out.below hbd); have XC := Lib.hid (XB.out.below hbd); obtain ⟨_, _, _, _, _⟩ := RC.out.s.all; obtain ⟨_, _, _, _, _⟩ := RC.out.a.all; obtain ⟨_, _, _, _, _⟩ := RC.out.b.all; obtain ⟨_, _, _, _, _⟩ := RC.out.f.all; have hs_RC := RC.out.sz; obtain ⟨_, _, _, _, _⟩ := XC.out.all) | (go_at_call 22; with_reducible refine (C6.out _).mono ?_; rintro e we ⟨rfl, hbe⟩; have RD := Lib.hid (RC.out.below hbe); have XD := Lib.hid (XC.out.below hbe); obtain ⟨_, _, _, _, _⟩ := RD.out.s.all; obtain ⟨_, _, _, _, _⟩ := RD.out.a.all; obtain ⟨_, _, _, _, _⟩ := RD.out.b.all; obtain ⟨_, _, _, _, _⟩ := RD.out.f.all; have hs_RD := RD.out.sz; obtain ⟨_, _, _, _, _⟩ := XD.out.all) | go_skip | go_guarded | go_step | go_upon | (dsimp only []))
                          go_roundw
                          case rel => exact ⟨2 + 1, st2, by omega, rfl, by rw [SS.out.2.2], by rw [← SS.out.1, ← SS.out.2.1]; exact RD.out, by rw [e.out]; rfl⟩
                          case measure => simp [intOf]
                        | true =>
                          repeat any_goals (first | (go_at_call 21; with_reducible refine (CN.out _).mono ?_; rintro e wa ⟨rfl, hba⟩; have RA := Lib.hid (RH.out.below (below_alloc hba (.cells #[.bool pn, .int .u64 (lm pv 0 : Nat), .int .u64 (lm pv 1 : Nat), .int .u64 (lm pv 2 : Nat), .int .u64 (lm pv 3 : Nat)] 29))); have XA := Lib.hid (@ibox_new wa pn pv 29); obtain ⟨_, _, _, _, _⟩ := RA.out.s.all; obtain ⟨_, _, _, _, _⟩ := RA.out.a.all; obtain ⟨_, _, _, _, _⟩ := RA.out.b.all; obtain ⟨_, _, _, _, _⟩ := RA.out.f.all; have hs_RA := RA.out.sz; obtain ⟨_, _, _, _, _⟩ := XA.out.all) | (go_at_call 20; with_reducible refine (C4.out _).mono ?_; rintro e wb ⟨rfl, hbb⟩; have RB := Lib.hid (RA.out.below hbb); have XB := Lib.hid (XA.out.below hbb); obtain ⟨_, _, _, _, _⟩ := RB.out.s.all; obtain ⟨_, _, _, _, _⟩ := RB.out.a.all; obtain ⟨_, _, _, _, _⟩ := RB.out.b.all; obtain ⟨_, _, _, _, _⟩ := RB.out.f.all; have hs_RB := RB.out.sz; obtain ⟨_, _, _, _, _⟩ := XB.out.all) | (go_at_call 20; with_reducible refine (C5.out _).mono ?_; rintro e wd ⟨rfl, hbd⟩; have RC := Lib.hid (RB.out.below hbd); have XC := Lib.hid (XB.out.below hbd); obtain ⟨_, _, _, _, _⟩ := RC.out.s.all; obtain ⟨_, _, _, _, _⟩ := RC.out.a.all; obtain ⟨_, _, _, _, _⟩ := RC.out.b.all; obtain ⟨_, _, _, _, _⟩ := RC.out.f.all; have hs_RC := RC.out.sz; obtain ⟨_, _, _, _, _⟩ := XC.out.all) | (go_at_call 22; with_reducible refine (C6.out _).mono ?_; rintro e we ⟨rfl, hbe⟩; have RD := Lib.hid (RC.out.below hbe); have XD := Lib.hid (XC.out.below hbe); obtain ⟨_, _, _, _, _⟩ := RD.out.s.all; obtain ⟨_, _, _, _, _⟩ := RD.out.a.all; obtain ⟨_, _, _, _, _⟩ := RD.out.b.all; obtain ⟨_, _, _, _, _⟩ := RD.out.f.all; have hs_RD := RD.out.sz; obtain ⟨_, _, _, _, _⟩ := XD.out.all) | go_skip | go_guarded | go_step | go_upon | (dsimp only []))
                          go_roundw
                          case rel => exact ⟨2 + 1, some m, by omega, rfl, rfl, by rw [show bsN (some m) = pn from HM.out.2.1.symm, show bsV (some m) = pv from HM.out.2.2.1.symm]; exact RD.out.put HM.out.2.2.2, by rw [e.out]; rfl⟩
                          case measure => simp [intOf]
                      · have e := Lib.hid (show elemK xa true x st (2 + 1) = st2 by rw [elemK_succ, ← HT.out]; exact stepK_out HM.out.1 (fun h => c5 (J5.out.2 h.2)))
                        repeat any_goals (first | (go_at_call 21; with_reducible refine (CN.out _).mono ?_; rintro e wa ⟨rfl, hba⟩; have RA := Lib.hid (RH.out.below (below_alloc hba (.cells #[.bool pn, .int .u64 (lm pv 0 : Nat), .int .u64 (lm pv 1 : Nat), .int .u64 (lm pv 2 : Nat), .int .u64 (lm pv 3 : Nat)] 29))); have XA := Lib.hid (@ibox_new wa pn pv 29); obtain ⟨_, _, _, _, _⟩ := RA.out.s.all; obtain ⟨_, _, _, _, _⟩ := RA.out.a.all; obtain ⟨_, _, _, _, _⟩ := RA.out.b.all; obtain ⟨_, _, _, _, _⟩ := RA.out.f.all; have hs_RA := RA.out.sz; obtain ⟨_, _, _, _, _⟩ := XA.out.all) | (go_at_call 20; with_reducible refine (C4.out _).mono ?_; rintro e wb ⟨rfl, hbb⟩; have RB := Lib.hid (RA.out.below hbb); have XB := Lib.hid (XA.out.below hbb); obtain ⟨_, _, _, _, _⟩ := RB.out.s.all; obtain ⟨_, _, _, _, _⟩ := RB.out.a.all; obtain ⟨_, _, _, _, _⟩ := RB.out.b.all; obtain ⟨_, _, _, _, _⟩ := RB.out.f.all; have hs_RB := RB.out.sz; obtain ⟨_, _, _, _, _⟩ := XB.out.all) | (go_at_call 20; with_reducible refine (C5.out _).mono ?_; rintro e wd ⟨rfl, hbd⟩; have RC := Lib.hid (RB.out.below hbd); have XC := Lib.hid (XB.out.below hbd); obtain ⟨_, _, _, _, _⟩ := RC.out.s.all; obtain ⟨_, _, _, _, _⟩ := RC.out.a.all; obtain ⟨_, _, _, _, _⟩ := RC.out.b.all; obtain ⟨_, _, _, _, _⟩ := RC.out.f.all; have hs_RC := RC.out.sz; obtain ⟨_, _, _, _, _⟩ := XC.out.all) | go_skip | go_guarded | go_step | go_upon | (dsimp only []))
                        go_roundw
                        case rel => exact ⟨2 + 1, st2, by omega, rfl, by rw [SS.out.2.2], by rw [← SS.out.1, ← SS.out.2.1]; exact RC.out, e.out.symm⟩
                        case measure => simp [intOf]
                    · have e := Lib.hid (show elemK xa true x st (2 + 1) = st2 by rw [elemK_succ, ← HT.out]; exact stepK_out HM.out.1 (fun h => c4 (J4.out.2 h.1)))
                      repeat any_goals (first | (go_at_call 21; with_reducible refine (CN.out _).mono ?_; rintro e wa ⟨rfl, hba⟩; have RA := Lib.hid (RH.out.below (below_alloc hba (.cells #[.bool pn, .int .u64 (lm pv 0 : Nat), .int .u64 (lm pv 1 : Nat), .int .u64 (lm pv 2 : Nat), .int .u64 (lm pv 3 : Nat)] 29))); have XA := Lib.hid (@ibox_new wa pn pv 29); obtain ⟨_, _, _, _, _⟩ := RA.out.s.all; obtain ⟨_, _, _, _, _⟩ := RA.out.a.all; obtain ⟨_, _, _, _, _⟩ := RA.out.b.all; obtain ⟨_, _, _, _, _⟩ := RA.out.f.all; have hs_RA := RA.out.sz; obtain ⟨_, _, _, _, _⟩ := XA.out.all) | (go_at_call 20; with_reducible refine (C4.out _).mono ?_; rintro e wb ⟨rfl, hbb⟩; have RB := Lib.hid (RA.out.below hbb); have XB := Lib.hid (XA.out.below hbb); obtain ⟨_, _, _, _, _⟩ := RB.out.s.all; obtain ⟨_, _, _, _, _⟩ := RB.out.a.all; obtain ⟨_, _, _, _, _⟩ := RB.out.b.all; obtain ⟨_, _, _, _, _⟩ := RB.out.f.all; have hs_RB := RB.out.sz; obtain ⟨_, _, _, _, _⟩ := XB.out.all) | go_skip | go_guarded | go_step | go_upon | (dsimp only []))
                      go_roundw
                      case rel => exact ⟨2 + 1, st2, by omega, rfl, by rw [SS.out.2.2], by rw [← SS.out.1, ← SS.out.2.1]; exact RB.out, e.out.symm⟩
                      case measure => simp [intOf]
              · obtain ⟨pn, pv, po, ho, hc⟩ := near_call (fromX x) (fromX_in x) 3 false false rfl rfl
                rw [← F1.out.2.2.2.1, ← F1.out.2.2.2.2] at hc
                have CN := Lib.hid hc
                have PO := Lib.hid ho
                clear hc ho
                cases ra with
                | false =>
                  have e := Lib.hid (show elemK xa false x st (3 + 1) = st2 by rw [elemK_succ, ← HT.out]; exact stepK_off rfl)
                  repeat any_goals (first | go_skip | go_guarded | go_step | go_upon | (simp only []; done))
                  go_roundw
                  case rel => exact ⟨3 + 1, st2, by omega, rfl, by rw [SS.out.2.2], by rw [← SS.out.1, ← SS.out.2.1]; exact RH.out, e.out.symm⟩
                  case measure => simp [intOf]
                | true => 
                  cases po with
                  | false =>
                    have hn : candK (fromX x) 3 = none := Option.isSome_eq_false_iff.1 PO.out.is.symm |> Option.isNone_iff_eq_none.1
                    have e := Lib.hid (show elemK xa true x st (3 + 1) = st2 by rw [elemK_succ, ← HT.out]; exact stepK_none hn)
                    clear hn
                    repeat any_goals (first | (go_at_call 21; with_reducible refine (CN.out _).mono ?_; rintro e wa ⟨rfl, hba⟩; have RA := Lib.hid (RH.out.below (below_alloc hba (.cells #[.bool pn, .int .u64 (lm pv 0 : Nat), .int .u64 (lm pv 1 : Nat), .int .u64 (lm pv 2 : Nat), .int .u64 (lm pv 3 : Nat)] 29))); have XA := Lib.hid (@ibox_new wa pn pv 29); obtain ⟨_, _, _, _, _⟩ := RA.out.s.all; obtain ⟨_, _, _, _, _⟩ := RA.out.a.all; obtain ⟨_, _, _, _, _⟩ := RA.out.b.all; obtain ⟨_, _, _, _, _⟩ := RA.out.f.all; have hs_RA := RA.out.sz; obtain ⟨_, _, _, _, _⟩ := XA.out.all) | go_skip | go_guarded | go_step | go_upon | (dsimp only []))
                    go_roundw
                    case rel => exact ⟨3 + 1, st2, by omega, rfl, by rw [SS.out.2.2], by rw [← SS.out.1, ← SS.out.2.1]; exact RA.out, e.out.symm⟩
                    case measure => simp [intOf]
                  | true =>
                    obtain ⟨m, hm⟩ : ∃ m, candK (fromX x) 3 = some m := Option.isSome_iff_exists.1 PO.out.is.symm
                    obtain ⟨hmn, hmv, hmr⟩ := PO.out.val m hm
                    obtain ⟨z4, hz4⟩ : ∃ z, cmpI ln lv pn pv = z := ⟨_, rfl⟩
                    obtain ⟨z5, hz5⟩ : ∃ z, cmpI pn pv un uv = z := ⟨_, rfl⟩
                    obtain ⟨q, hq⟩ : ∃ q, closerB pn pv sn sv so = q := ⟨_, rfl⟩
                    have hpv : pv < 2 ^ 256 := by rw [hmv]; exact hmr
                    have hpm : mayI pn pv = true := by rw [hmn, hmv]; exact mayI_sg _
                    have C4 := Lib.hid fun wx => RCmp_any ln lv LL.out.1 pn pv hpv LL.out.2.2.1 hpm wx
                    have C5 := Lib.hid fun wx => RCmp_any pn pv hpv un uv LL.out.2.1 hpm LL.out.2.2.2 wx
                    have C6 := Lib.hid fun wx => RCloser_any pn sn so pv sv hpv RH.out.m wx
                    rw [hz4] at C4
                    rw [hz5] at C5
                    rw [hq] at C6
                    have J4 := Lib.hid (show z4 ≤ 0 ↔ x.lo ≤ m by rw [← hz4, hmn, hmv, HE.out.1, HE.out.2.1, cmpI_sg]; exact cmpZ_nonpos _ _)
                    have J5 := Lib.hid (show z5 ≤ 0 ↔ m ≤ x.hi by rw [← hz5, hmn, hmv, HE.out.2.2.1, HE.out.2.2.2, cmpI_sg]; exact cmpZ_nonpos _ _)
                    have HM := Lib.hid (And.intro hm (And.intro hmn (And.intro hmv hpv)))
                    have HQ := Lib.hid hq
                    clear hm hmn hmv hmr hz4 hz5 hq hpv hpm
                    by_cases c4 : z4 ≤ 0
                    · by_cases c5 : z5 ≤ 0
                      · have e := Lib.hid (show elemK xa true x st (3 + 1) = if q = true then some m else st2 by
                          rw [elemK_succ, ← HT.out, ← HQ.out, SS.out.1, SS.out.2.1, SS.out.2.2, HM.out.2.1, HM.out.2.2.1]
                          exact stepK_in rfl HM.out.1 ⟨J4.out.1 c4, J5.out.1 c5⟩)
                        cases q with
                        | false =>
                          repeat any_goals (first | (go_at_call 21; with_reducible refine (CN.out _).mono ?_; rintro e wa ⟨rfl, hba⟩; have RA := Lib.hid (RH.out.below (below_alloc hba (.cells #[.bool pn, .int .u64 (lm pv 0 : Nat), .int .u64 (lm pv 1 : Nat), .int .u64 (lm pv 2 : Nat), .int .u64 (lm pv 3 : Nat)] 29))); have XA := Lib.hid (@ibox_new wa pn pv 29); obtain ⟨_, _, _, _, _⟩ := RA.out.s.all; obtain ⟨_, _, _, _, _⟩ := RA.out.a.all; obtain ⟨_, _, _, _, _⟩ := RA.out.b.all; obtain ⟨_, _, _, _, _⟩ := RA.out.f.all; have hs_RA := RA.out.sz; obtain ⟨_, _, _, _, _⟩ := XA.out.all) | (go_at_call 20; with_reducible refine (C4.out _).mono ?_; rintro e wb ⟨rfl, hbb⟩; have RB := Lib.hid (RA.out.below hbb); have XB := Lib.hid (XA.out.below hbb); obtain ⟨_, _, _, _, _⟩ := RB.out.s.all; obtain ⟨_, _, _, _, _⟩ := RB.out.a.all; obtain ⟨_, _, _, _, _⟩ := RB.out.b.all; obtain ⟨_, _, _, _, _⟩ := RB.out.f.all; have hs_RB := RB.out.sz; obtain ⟨_, _, _, _, _⟩ := XB.out.all) | (go_at_call 20; with_reducible refine (C5.out _).mono ?_; rintro e wd ⟨rfl, hbd⟩; have RC := Lib.hid (RB.out.below hbd); have XC := Lib.hid (XB.out.below hbd); obtain ⟨_, _, _, _, _⟩ := RC.out.s.all; obtain ⟨_, _, _, _, _⟩ := RC.out.a.all; obtain ⟨_, _, _, _, _⟩ := RC.out.b.all; obtain ⟨_, _, _, _, _⟩ := RC.out.f.all; have hs_RC := RC.out.sz; obtain ⟨_, _, _, _, _⟩ := XC.out.all) | (go_at_call 22; with_reducible refine (C6.out _).mono ?_; rintro e we ⟨rfl, hbe⟩; have RD := Lib.hid (RC.out.below hbe); have XD := Lib.hid (XC.out.below hbe); obtain ⟨_, _, _, _, _⟩ := RD.out.s.all; obtain ⟨_, _, _, _, _⟩ := RD.out.a.all; obtain ⟨_, _, _, _, _⟩ := RD.out.b.all; obtain ⟨_, _, _, _, _⟩ := RD.out.f.all; have hs_RD := RD.out.sz; obtain ⟨_, _, _, _, _⟩ := XD.out.all) | go_skip | go_guarded | go_step | go_upon | (dsimp only []))
                          go_roundw
                          case rel => exact ⟨3 + 1, st2, by omega, rfl, by rw [SS.out.2.2], by rw [← SS.out.1, ← SS.out.2.1]; exact RD.out, by rw [e.out]; rfl⟩
                          case measure => simp [intOf]
                        | true =>
                          repeat any_goals (first | (go_at_call 21; with_reducible refine (CN.out _).mono ?_; rintro e wa ⟨rfl, hba⟩; have RA := Lib.hid (RH.out.below (below_alloc hba (.cells #[.bool pn, .int .u64 (lm pv 0 : Nat), .int .u64 (lm pv 1 : Nat), .int .u64 (lm pv 2 : Nat), .int .u64 (lm pv 3 : Nat)] 29))); have XA := Lib.hid (@ibox_new wa pn pv 29); obtain ⟨_, _, _, _, _⟩ := RA.out.s.all; obtain ⟨_, _, _, _, _⟩ := RA.out.a.all; obtain ⟨_, _, _, _, _⟩ := RA.out.b.all; obtain ⟨_, _, _, _, _⟩ := RA.out.f.all; have hs_RA := RA.out.sz; obtain ⟨_, _, _, _, _⟩ := XA.out.all) | (go_at_call 20; with_reducible refine (C4.out _).mono ?_; rintro e wb ⟨rfl, hbb⟩; have RB := Lib.hid (RA.out.below hbb); have XB := Lib.hid (XA.out.below hbb); obtain ⟨_, _, _, _, _⟩ := RB.out.s.all; obtain ⟨_, _, _, _, _⟩ := RB.out.a.all; obtain ⟨_, _, _, _, _⟩ := RB.out.b.all; obtain ⟨_, _, _, _, _⟩ := RB.out.f.all; have hs_RB := RB.out.sz; obtain ⟨_, _, _, _, _⟩ := XB.out.all) | (go_at_call 20; with_reducible refine (C5.out _).mono ?_; rintro e wd ⟨rfl, hbd⟩; have RC := Lib.hid (RB.out.below hbd); have XC := Lib.hid (XB.out.below hbd); obtain ⟨_, _, _, _, _⟩ := RC.out.s.all; obtain ⟨_, _, _, _, _⟩ := RC.out.a.all; obtain ⟨_, _, _, _, _⟩ := RC.out.b.all; obtain ⟨_, _, _, _, _⟩ := RC.out.f.all; have hs_RC := RC.out.sz; obtain ⟨_, _, _, _, _⟩ := XC.out.all) | (go_at_call 22; with_reducible refine (C6.out _).mono ?_; rintro e we ⟨rfl, hbe⟩; have RD := Lib.hid (RC.out.below hbe); have XD := Lib.hid (XC.out.below hbe); obtain ⟨_, _, _, _, _⟩ := RD.out.s.all; obtain ⟨_, _, _, _, _⟩ := RD.out.a.all; obtain ⟨_, _, _, _, _⟩ := RD.out.b.all; obtain ⟨_, _, _, _, _⟩ := RD.out.f.all; have hs_RD := RD.out.sz; obtain ⟨_, _, _, _, _⟩ := XD.out.all) | go_skip | go_guarded | go_step | go_upon | (dsimp only []))
                          go_roundw
                          case rel => exact ⟨3 + 1, some m, by omega, rfl, rfl, by rw [show bsN (some m) = pn from HM.out.2.1.symm, show bsV (some m) = pv from HM.out.2.2.1.symm]; exact RD.out.put HM.out.2.2.2, by rw [e.out]; rfl⟩
                          case measure => simp [intOf]
                      · have e := Lib.hid (show elemK xa true x st (3 + 1) = st2 by rw [elemK_succ, ← HT.out]; exact stepK_out HM.out.1 (fun h => c5 (J5.out.2 h.2)))
                        repeat any_goals (first | (go_at_call 21; with_reducible refine (CN.out _).mono ?_; rintro e wa ⟨rfl, hba⟩; have RA := Lib.hid (RH.out.below (below_alloc hba (.cells #[.bool pn, .int .u64 (lm pv 0 : Nat), .int .u64 (lm pv 1 : Nat), .int .u64 (lm pv 2 : Nat), .int .u64 (lm pv 3 : Nat)] 29))); have XA := Lib.hid (@ibox_new wa pn pv 29); obtain ⟨_, _, _, _, _⟩ := RA.out.s.all; obtain ⟨_, _, _, _, _⟩ := RA.out.a.all; obtain ⟨_, _, _, _, _⟩ := RA.out.b.all; obtain ⟨_, _, _, _, _⟩ := RA.out.f.all; have hs_RA := RA.out.sz; obtain ⟨_, _, _, _, _⟩ := XA.out.all) | (go_at_call 20; with_reducible refine (C4.out _).mono ?_; rintro e wb ⟨rfl, hbb⟩; have RB := Lib.hid (RA.out.below hbb); have XB := Lib.hid (XA.out.below hbb); obtain ⟨_, _, _, _, _⟩ := RB.out.s.all; obtain ⟨_, _, _, _, _⟩ := RB.out.a.all; obtain ⟨_, _, _, _, _⟩ := RB.out.b.all; obtain ⟨_, _, _, _, _⟩ := RB.out.f.all; have hs_RB := RB.out.sz; obtain ⟨_, _, _, _, _⟩ := XB.out.all) | (go_at_call 20; with_reducible refine (C5.out _).mono ?_; rintro e wd ⟨rfl, hbd⟩; have RC := Lib.hid (RB.out.below hbd); have XC := Lib.hid (XB.out.below hbd); obtain ⟨_, _, _, _, _⟩ := RC.out.s.all; obtain ⟨_, _, _, _, _⟩ := RC.out.a.all; obtain ⟨_, _, _, _, _⟩ := RC.out.b.all; obtain ⟨_, _, _, _, _⟩ := RC.out.f.all; have hs_RC := RC.out.sz; obtain ⟨_, _, _, _, _⟩ := XC.out.all) | go_skip | go_guarded | go_step | go_upon | (dsimp only []))
                        go_roundw
                        case rel => exact ⟨3 + 1, st2, by omega, rfl, by rw [SS.out.2.2], by rw [← SS.out.1, ← SS.out.2.1]; exact RC.out, e.out.symm⟩
                        case measure => simp [intOf]
                    · have e := Lib.hid (show elemK xa true x st (3 + 1) = st2 by rw [elemK_succ, ← HT.out]; exact stepK_out HM.out.1 (fun h => c4 (J4.out.2 h.1)))
                      repeat any_goals (first | (go_at_call 21; with_reducible refine (CN.out _).mono ?_; rintro e wa ⟨rfl, hba⟩; have RA := Lib.hid (RH.out.below (below_alloc hba (.cells #[.bool pn, .int .u64 (lm pv 0 : Nat), .int .u64 (lm pv 1 : Nat), .int .u64 (lm pv 2 : Nat), .int .u64 (lm pv 3 : Nat)] 29))); have XA := Lib.hid (@ibox_new wa pn pv 29); obtain ⟨_, _, _, _, _⟩ := RA.out.s.all; obtain ⟨_, _, _, _, _⟩ := RA.out.a.all; obtain ⟨_, _, _, _, _⟩ := RA.out.b.all; obtain ⟨_, _, _, _, _⟩ := RA.out.f.all; have hs_RA := RA.out.sz; obtain ⟨_, _, _, _, _⟩ := XA.out.all) | (go_at_call 20; with_reducible refine (C4.out _).mono ?_; rintro e wb ⟨rfl, hbb⟩; have RB := Lib.hid (RA.out.below hbb); have XB := Lib.hid (XA.out.below hbb); obtain ⟨_, _, _, _, _⟩ := RB.out.s.all; obtain ⟨_, _, _, _, _⟩ := RB.out.a.all; obtain ⟨_, _, _, _, _⟩ := RB.out.b.all; obtain ⟨_, _, _, _, _⟩ := RB.out.f.all; have hs_RB := RB.out.sz; obtain ⟨_, _, _, _, _⟩ := XB.out.all) | go_skip | go_guarded | go_step | go_upon | (dsimp only []))
                      go_roundw
                      case rel => exact ⟨3 + 1, st2, by omega, rfl, by rw [SS.out.2.2], by rw [← SS.out.1, ← SS.out.2.1]; exact RB.out, e.out.symm⟩
                      case measure => simp [intOf]
            · obtain rfl : j = 4 := by omega
              have ET := Lib.hid (show st2 = bestR xa ra (l.take (k + 1)) by rw [hst2, TH.out]; exact bestR_take HX.out)
              have RK := Lib.hid R
              clear R hst2
              repeat any_goals (first | go_skip | go_guarded | go_step | go_upon | (simp only []; done))
              go_roundw
              case rel => exact ⟨k + 1, st2, by omega, rfl, rfl, RK.out.k, RK.out.s, RK.out.m, ET.out⟩
              case measure => simp [intOf]; omega
    · have hk' : k = n := by omega
      have i1 : ¬ (k : Int) < (n : Int) := by omega
      have ST := Lib.hid (show st = bestR xa ra l by rw [TH.out, hk', HN.out, List.take_length])
      have FX := Lib.hid (FR3.out.but BH.out HL.out.2.2.1 HL.out.2.2.1)
      have hW := but_bw HB3.out BH.out HL.out.2.2.2.1 HL.out.2.2.2.1
      obtain ⟨sn, hsn⟩ : ∃ n, n = bsN st := ⟨_, rfl⟩
      obtain ⟨sv, hsv⟩ : ∃ n, n = bsV st := ⟨_, rfl⟩
      obtain ⟨so, hso⟩ : ∃ n, n = st.isSome := ⟨_, rfl⟩
      have hSb := SH.out
      rw [← hsn, ← hsv] at hSb
      rw [← hso]
      have SS := Lib.hid (And.intro hsn (And.intro hsv hso))
      obtain ⟨_, _, _, _, _⟩ := hSb.all
      obtain ⟨_, _, _, _, _⟩ := FX.out.all
      have n1 := HL.out.2.2.1
      have n2 := HL.out.2.2.1.symm
      have hbr := HL.out.2.2.2.2
      clear hsn hsv hso hSb
      repeat any_goals (first | go_skip | go_guarded | go_step | go_upon | (simp only []; done))
      exact bodyPost_ret (v := .tuple #[.agg #[.bool (sn ), .int .u64 (lm ( sv) 0 : Nat), .int .u64 (lm ( sv) 1 : Nat), .int .u64 (lm ( sv) 2 : Nat), .int .u64 (lm ( sv) 3 : Nat)], .bool so]) (by simp [results, Tryz.results7, go_sem, *]) rfl ⟨st, IsBest_congr (S := fun z => MemL (l.map Cl.iv) z ∧ want xa ra z) (fun z => by rw [SF.out z, and_assoc]) (by rw [ST.out]; exact bestR_best xa ra l), by rw [SS.out.1, SS.out.2.1, SS.out.2.2], by (repeat first | with_reducible exact Below.refl _ _ | with_reducible assumption | with_reducible refine Below.drew ?_ | with_reducible refine below_alloc ?_ _ | ((with_reducible refine Below.setCell ?_ ?_ _); rotate_left; (focus (first | with_reducible exact Nat.le_refl _ | (simp; done) | (simp; omega) | omega))) | (with_reducible refine below_trans ?_ (by assumption)))⟩
end Go.Proofs.YtekeedjhaakbhaaGreatDoor

namespace Go.Proofs.YtekeedjhaakbhaaGreatDoor
open Go Go.RowKit
theorem pick_want {S : Nat → Sp} {n : Nat} {xa ra : Bool} {m : Int} (h : PickO S n xa ra (some m)) : mayR S n = true ∧ InS S n m ∧ want xa ra m := h.1
theorem pick_has {S : Nat → Sp} {n : Nat} {xa ra : Bool} {m : Int} (h : PickO S n xa ra (some m)) : hasB S n (sg m) (ab m) = true := by
  obtain ⟨h1, h2, h3⟩ := pick_want h
  exact hasB_iff.2 ⟨h1, mayI_sg m, by rw [zI_sg]; exact h2⟩
theorem pick_ex {S : Nat → Sp} {n : Nat} {xa ra : Bool} {m : Int} {e : Bool} (h : PickO S n xa ra (some m)) (he : exactI (sg m) (ab m) = e) : (e = true → xa = true) ∧ (e = false → ra = true) := by
  obtain ⟨h1, h2, h3⟩ := pick_want h
  have e2 : exZ m = e := by
    rw [← he, exactI_eq, mayI_sg, Bool.true_and]
    rfl
  constructor
  · rintro rfl
    rcases h3 with h3 | h3
    · exact h3.1
    · rw [e2] at h3; cases h3.2
  · rintro rfl
    rcases h3 with h3 | h3
    · rw [e2] at h3; cases h3.2
    · exact h3.1
set_option maxRecDepth 20000 in
set_option maxHeartbeats 8000000 in
theorem SpanPicks_any (a : Option Addr) (n c : Nat) (S : Nat → Sp) (xa ra : Bool) (w : World) (h1 : SRow w a n c S) (hT : Tabs w) :
    Calls Tryz.prog 3 #[.slice a n c, .bool xa, .bool ra] w fun e w' => e = .returned (.bool true) ∧ Below w.heap.size w w' := by
  have H1 := Lib.hid h1
  have HT := Lib.hid hT
  have q1 := h1.l
  have q2 := h1.lc
  simp only [maxLen] at q2
  obtain ⟨F, hF⟩ : ∃ F, F = decide (n ≤ 12) := ⟨_, rfl⟩
  have FW := Lib.hid (show ∀ wx, Calls Tryz.prog 4 #[.slice a n c, .slice none 0 0] wx fun e w' => e = .returned (.bool F) ∧ Below wx.heap.size wx w' from fun wx => by
    have h := few_any a none n c 0 0 wx (by omega) (by omega)
    rw [← hF, show decide (0 ≤ 12) = true from rfl, Bool.and_true] at h
    exact h)
  have HF := Lib.hid hF
  clear h1 hT hF q1 q2
  go_enter Tryz.func3, Tryz.ntmps3
  cases F with
  | false =>
    repeat any_goals (first | (go_at_call 4; with_reducible refine (FW.out _).mono ?_; rintro e w1 ⟨rfl, hb1⟩) | (go_at_call 5; with_reducible refine (told_any _ (HT.out.below hb1)).mono ?_; rintro e w2 ⟨rfl, hb2⟩) | go_skip | go_guarded | go_step | go_upon | (dsimp only []))
    exact bodyPost_ret (v := .bool true) (by simp [results, Tryz.results3, go_sem]) rfl ⟨rfl, by (repeat first | with_reducible exact Below.refl _ _ | with_reducible assumption | with_reducible refine Below.drew ?_ | with_reducible refine below_alloc ?_ _ | ((with_reducible refine Below.setCell ?_ ?_ _); rotate_left; (focus (first | with_reducible exact Nat.le_refl _ | (simp; done) | (simp; omega) | omega))) | (with_reducible refine below_trans ?_ (by assumption)))⟩
  | true =>
    have hn12 : n ≤ 12 := of_decide_eq_true HF.out.symm
    go_upto_region 3 with (go_at_call 4; with_reducible refine (FW.out _).mono ?_; rintro e w1 ⟨rfl, hb1⟩)
    repeat any_goals (first | go_skip | go_guarded | go_step | go_upon | (simp only []; done))
    refine (Pick_any xa ra _ _ _ _ _ (H1.out.below hb1) (HT.out.below hb1)).mono ?_
    rintro e w2 ⟨o, ho, rfl, hb2⟩
    dsimp only []
    have X2 := Lib.hid (show Below w.heap.size w w2 from hb1.trans (below_weak hb2 hb1.size))
    have HO := Lib.hid ho
    obtain ⟨sn, hsn⟩ : ∃ n, n = bsN o := ⟨_, rfl⟩
    obtain ⟨sv, hsv⟩ : ∃ n, n = bsV o := ⟨_, rfl⟩
    obtain ⟨so, hso⟩ : ∃ n, n = o.isSome := ⟨_, rfl⟩
    rw [← hsn, ← hsv, ← hso]
    have SS := Lib.hid (And.intro hsn (And.intro hsv hso))
    have RP := Lib.hid (show ∀ wx, SRow wx a n c S → Calls Tryz.prog 7 #[.slice a n c, .bool xa, .bool ra] wx fun e w' => e = .returned (.tuple #[.agg #[.bool (sn ), .int .u64 (lm ( sv) 0 : Nat), .int .u64 (lm ( sv) 1 : Nat), .int .u64 (lm ( sv) 2 : Nat), .int .u64 (lm ( sv) 3 : Nat)], .bool so]) ∧ Below wx.heap.size wx w' from fun wx hx => (RPick_any xa ra a n c S wx hx (by omega)).mono fun e w' ⟨o', ho', he, hb⟩ => by
      have : o' = o := IsBest_unique ho' ho
      subst this
      exact ⟨by rw [he, hsn, hsv, hso], hb⟩)
    clear ho hsn hsv hso hb1 hb2
    go_upto_region 4 with fail
    have X3 := Lib.hid (show Below w.heap.size w (w2.alloc (.cells #[.bool sn, .int .u64 (lm sv 0 : Nat), .int .u64 (lm sv 1 : Nat), .int .u64 (lm sv 2 : Nat), .int .u64 (lm sv 3 : Nat)] 29)) from below_alloc X2.out _)
    have I3 := Lib.hid (@ibox_new w2 sn sv 29)
    generalize w2.alloc (.cells #[.bool sn, .int .u64 (lm sv 0 : Nat), .int .u64 (lm sv 1 : Nat), .int .u64 (lm sv 2 : Nat), .int .u64 (lm sv 3 : Nat)] 29) = w3 at *
    obtain ⟨B1, hB1⟩ : ∃ B, B = w2.heap.size := ⟨_, rfl⟩
    rw [← hB1] at I3 ⊢
    clear hB1
    go_upto_region 5 with (go_at_call 7; with_reducible refine (RP.out _ (H1.out.below X3.out)).mono ?_; rintro e w4 ⟨rfl, hb4⟩)
    have X5 := Lib.hid (show Below w.heap.size w (w4.alloc (.cells #[.bool sn, .int .u64 (lm sv 0 : Nat), .int .u64 (lm sv 1 : Nat), .int .u64 (lm sv 2 : Nat), .int .u64 (lm sv 3 : Nat)] 29)) from below_alloc (X3.out.trans (below_weak hb4 X3.out.size)) _)
    have I5 := Lib.hid ((I3.out.below hb4).alloc (.cells #[.bool sn, .int .u64 (lm sv 0 : Nat), .int .u64 (lm sv 1 : Nat), .int .u64 (lm sv 2 : Nat), .int .u64 (lm sv 3 : Nat)] 29))
    have K5 := Lib.hid (@ibox_new w4 sn sv 29)
    generalize w4.alloc (.cells #[.bool sn, .int .u64 (lm sv 0 : Nat), .int .u64 (lm sv 1 : Nat), .int .u64 (lm sv 2 : Nat), .int .u64 (lm sv 3 : Nat)] 29) = w5 at *
    obtain ⟨B2, hB2⟩ : ∃ B, B = w4.heap.size := ⟨_, rfl⟩
    rw [← hB2] at K5 ⊢
    clear hB2 hb4
    cases o with
    | none =>
      obtain rfl : so = false := SS.out.2.2
      repeat any_goals (first | (go_at_call 5; with_reducible refine (told_any _ (HT.out.below X5.out)).mono ?_; rintro e w6 ⟨rfl, hb6⟩; have I6 := Lib.hid (I5.out.below hb6); have K6 := Lib.hid (K5.out.below hb6); obtain ⟨_, _, _, _, _⟩ := I6.out.all; obtain ⟨_, _, _, _, _⟩ := K6.out.all) | go_skip | go_guarded | go_step | go_upon | (dsimp only []))
      exact bodyPost_ret (v := .bool true) (by simp [results, Tryz.results3, go_sem]) rfl ⟨rfl, X5.out.trans (below_weak hb6 X5.out.size)⟩
    | some m =>
      obtain rfl : so = true := SS.out.2.2
      have e1 : sn = sg m := SS.out.1
      have e2 : sv = ab m := SS.out.2.1
      obtain ⟨E, hE⟩ : ∃ E, exactI (sg m) (ab m) = E := ⟨_, rfl⟩
      have HE := Lib.hid (pick_ex HO.out hE)
      have hsv : sv < 2 ^ 256 := by
        rw [e2]
        exact inR_ab.1 (InS_in H1.out (pick_want HO.out).2.1)
      have CH := Lib.hid (show ∀ wx, SRow wx a n c S → Calls Tryz.prog 8 #[.slice a n c, .agg #[.bool (sn ), .int .u64 (lm ( sv) 0 : Nat), .int .u64 (lm ( sv) 1 : Nat), .int .u64 (lm ( sv) 2 : Nat), .int .u64 (lm ( sv) 3 : Nat)]] wx fun e w' => e = .returned (.bool true) ∧ Below wx.heap.size wx w' from fun wx hx => by
        have h := hasC (an := sn) hsv hx
        rw [e1, e2, pick_has HO.out] at h
        rw [e1, e2]
        exact h)
      have CE := Lib.hid (show ∀ wx : World, Calls Tryz.prog 9 #[.agg #[.bool (sn ), .int .u64 (lm ( sv) 0 : Nat), .int .u64 (lm ( sv) 1 : Nat), .int .u64 (lm ( sv) 2 : Nat), .int .u64 (lm ( sv) 3 : Nat)]] wx fun e w' => e = .returned (.bool E) ∧ Below wx.heap.size wx w' from fun wx => by
        have h := RExact_any sn sv hsv wx
        rw [← hE, ← e1, ← e2]
        exact h)
      clear e1 e2 hE hsv
      cases E with
      | true =>
        obtain rfl : xa = true := HE.out.1 rfl
        repeat any_goals (first | (go_at_call 5; with_reducible refine (told_any _ (HT.out.below X5.out)).mono ?_; rintro e w6 ⟨rfl, hb6⟩; have X6 := Lib.hid (X5.out.trans (below_weak hb6 X5.out.size)); have I6 := Lib.hid (I5.out.below hb6); have K6 := Lib.hid (K5.out.below hb6); obtain ⟨_, _, _, _, _⟩ := I6.out.all; obtain ⟨_, _, _, _, _⟩ := K6.out.all) | (go_at_call 8; with_reducible refine (CH.out _ (H1.out.below X6.out)).mono ?_; rintro e w7 ⟨rfl, hb7⟩; have X7 := Lib.hid (X6.out.trans (below_weak hb7 X6.out.size)); have I7 := Lib.hid (I6.out.below hb7); obtain ⟨_, _, _, _, _⟩ := I7.out.all) | (go_at_call 9; with_reducible refine (CE.out _).mono ?_; rintro e w8 ⟨rfl, hb8⟩) | go_skip | go_guarded | go_step | go_upon | (dsimp only []))
        exact bodyPost_ret (v := .bool true) (by simp [results, Tryz.results3, go_sem]) rfl ⟨rfl, X7.out.trans (below_weak hb8 X7.out.size)⟩
      | false =>
        obtain rfl : ra = true := HE.out.2 rfl
        repeat any_goals (first | (go_at_call 5; with_reducible refine (told_any _ (HT.out.below X5.out)).mono ?_; rintro e w6 ⟨rfl, hb6⟩; have X6 := Lib.hid (X5.out.trans (below_weak hb6 X5.out.size)); have I6 := Lib.hid (I5.out.below hb6); have K6 := Lib.hid (K5.out.below hb6); obtain ⟨_, _, _, _, _⟩ := I6.out.all; obtain ⟨_, _, _, _, _⟩ := K6.out.all) | (go_at_call 8; with_reducible refine (CH.out _ (H1.out.below X6.out)).mono ?_; rintro e w7 ⟨rfl, hb7⟩; have X7 := Lib.hid (X6.out.trans (below_weak hb7 X6.out.size)); have I7 := Lib.hid (I6.out.below hb7); obtain ⟨_, _, _, _, _⟩ := I7.out.all) | (go_at_call 9; with_reducible refine (CE.out _).mono ?_; rintro e w8 ⟨rfl, hb8⟩; (first | have X8 := Lib.hid (X8.out.trans (below_weak hb8 X8.out.size)) | have X8 := Lib.hid (X7.out.trans (below_weak hb8 X7.out.size))); (first | have I8 := Lib.hid (I8.out.below hb8) | have I8 := Lib.hid (I7.out.below hb8)); obtain ⟨_, _, _, _, _⟩ := I8.out.all) | go_skip | go_guarded | go_step | go_upon | (dsimp only []))
        exact bodyPost_ret (v := .bool true) (by simp [results, Tryz.results3, go_sem]) rfl ⟨rfl, X8.out⟩
end Go.Proofs.YtekeedjhaakbhaaGreatDoor
