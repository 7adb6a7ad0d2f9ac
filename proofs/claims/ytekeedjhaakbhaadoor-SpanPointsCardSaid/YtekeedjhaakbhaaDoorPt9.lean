/- The law SpanPoints. -/
import Derived.Test.YtekeedjhaakbhaaDoorPtN
import Derived.Deep.DeepCutAuto
import Derived.OwnWalk
import Derived.Deep.RegionWith
namespace Go.Proofs.YtekeedjhaakbhaaDoor
open Go Go.RowKit
theorem infoB1 : (Tryd.prog.info? 4).map (fun i => (i.zero, i.size, i.bytes)) = some (some (.bool false), 1, 1) := by kernel_rfl
@[go_sem high] theorem ptN_run (z : Int) : wrap64 ((IntKind.u64.wrap z).tmod 60) = (ptN z : Int) := ptN_eq z
def boolsL (D : Nat → Bool) : List Value := (List.range 64).map fun j => .bool (D j)
theorem boolsL_get {D : Nat → Bool} {j : Nat} (h : j < 64) : (boolsL D)[j]? = some (.bool (D j)) := by
  unfold boolsL
  rw [List.getElem?_map, List.getElem?_range h]
  rfl
theorem boolsL_made : (madeCells (Value.bool false).cells (64 * 1)).toList = boolsL (fun _ => false) := by kernel_rfl
theorem boolsL_set (L : Nat → Int) (k : Nat) : (boolsL (inB L k)).set (ptN (L k) + 2) (.bool true) = boolsL (inB L (k + 1)) := by
  refine List.ext_getElem? fun j => ?_
  by_cases hj : j < 64
  · rw [boolsL_get hj, List.getElem?_set]
    simp only [inB]
    by_cases e : ptN (L k) + 2 = j
    · rw [if_pos e, if_pos (by unfold boolsL; simp; have := ptN_lt (L k); omega), decide_eq_true e.symm, Bool.or_true]
    · rw [if_neg e, boolsL_get hj, decide_eq_false (fun h => e h.symm), Bool.or_false]
  · rw [List.getElem?_eq_none (by unfold boolsL; simp; omega), List.getElem?_eq_none (by unfold boolsL; simp; omega)]
/-- what the first loop keeps: B the block of the table -/
structure PtI (w wr : World) (B : Nat) (v : Value) (L : Nat → Int) (k : Nat) : Prop where
  o : wr.ownsRow (B + 1) 33 12 v k (encS (ptL L k))
  r : wr.ownsRow w.heap.size 4 1 (.slice (some ⟨B, 0, none⟩) 64 64) 64 (boolsL (inB L k))
  b : Below w.heap.size w wr
  l : w.heap.size ≤ B
theorem PtI.drop {w wr w1 : World} {B k : Nat} {v : Value} {L : Nat → Int} (h : PtI w wr B v L k) (hb : Below wr.heap.size wr w1) : PtI w w1 B v L k :=
  ⟨own_below h.o hb, own_below h.r hb, h.b.trans (below_weak hb h.b.size), h.l⟩
theorem PtI.get {w wr : World} {B k j : Nat} {v : Value} {L : Nat → Int} (h : PtI w wr B v L k) (hj : j < 64) : wr.cell? ⟨B, j, none⟩ = some (.bool (inB L k j)) := by
  rw [h.r.cellAt j (by omega)]
  exact boolsL_get hj
/-- the store, then the append -/
theorem PtI.keep {w wr wg w2 : World} {B k : Nat} {v v' : Value} {L : Nat → Int} (h : PtI w wr B v L k) (hb : Below (wr.setCell ⟨B, ptN (L k) + 2, none⟩ (.bool true)).heap.size (wr.setCell ⟨B, ptN (L k) + 2, none⟩ (.bool true)) wg)
    (h2 : w2.ownsRow (B + 1) 33 12 v' (k + 1) (encS (ptL L k) ++ (twoS (ptN (L k)) (ptN (L k))).cells)) (hg : wg.grownBy w2 v.ownBlock) : PtI w w2 B v' L (k + 1) := by
  have h3 := own_below (h.r.stored (ptN (L k) + 2) (.bool true)).1 hb
  rw [boolsL_set] at h3
  have hv : v.ownBlock = none ∨ v.ownBlock ≠ some B := by
    by_cases c : v.ownBlock = none
    · exact .inl c
    · refine .inr fun e => ?_
      have := (h.o.lt B e).1
      omega
  have hs : w.heap.size ≤ wg.heap.size := by
    have := hb.size
    rw [World.size_setCell] at this
    have := h.b.size
    omega
  refine ⟨?_, h3.kept hg (.inr fun e => ?_), ?_, h.l⟩
  · have e : encS (ptL L (k + 1)) = encS (ptL L k) ++ (twoS (ptN (L k)) (ptN (L k))).cells := by
      simp only [ptL]
      unfold encS
      rw [List.flatMap_append]
      simp
    rw [e]
    exact h2
  · have : v.ownBlock = some B := by
      rw [← e]
      rfl
    rcases hv with h0 | h0
    · rw [h0] at this; cases this
    · exact h0 this
  · exact ((h.b.setCell (p := ⟨B, ptN (L k) + 2, none⟩) h.l _).trans (below_weak hb (by rw [World.size_setCell]; exact h.b.size))).grown hg hs (fun j hj => by have := (h.o.lt j hj).1; have := h.l; omega)
theorem pt_bd {k : Nat} (h : k < 30) : k + 1 ≤ maxLen ∧ (k + 1) * 88 ≤ 140737488355328 := ⟨by unfold maxLen; omega, by omega⟩
theorem pt_i {p : Nat} (h : p < 60) : (0 : Int) ≤ (p : Int) + 2 ∧ (p : Int) + 2 < 64 := ⟨by omega, by omega⟩
theorem pt_wrap {p : Nat} (h : p < 60) : wrap64 ((p : Int) + 2) = (p : Int) + 2 := by unfold wrap64; omega
theorem pt_b {p : Nat} (h : p < 60) : -9223372036854775808 ≤ (p : Int) ∧ (p : Int) < 9223372036854775808 := ⟨by omega, by omega⟩
/-- a cell of the table -/
structure PtB (w : World) (B t : Nat) (x : Bool) : Prop where
  all' : w.cell? ⟨B, t, none⟩ = some (.bool x)
theorem PtB.below {w w1 : World} {B t : Nat} {x : Bool} (h : PtB w B t x) (hb : Below w.heap.size w w1) : PtB w1 B t x := ⟨keep_cell hb h.all'⟩
theorem PtB.all {w : World} {B t : Nat} {x : Bool} (h : PtB w B t x) : w.cell? ⟨B, t, none⟩ = some (.bool x) ∧ True ∧ True ∧ True ∧ True := ⟨h.all', trivial, trivial, trivial, trivial⟩
theorem cntS_le (D : Nat → Bool) : ∀ t, cntS D t ≤ t := by
  intro t
  induction t with
  | zero => exact Nat.le_refl _
  | succ t ih =>
    simp only [cntS]
    split <;> omega
theorem lwV_bd (D : Nat → Bool) : -1 ≤ lwV D 62 ∧ lwV D 62 ≤ 61 := by
  rcases lwV_spec D 62 (Nat.le_refl _) with ⟨h, -⟩ | ⟨j, h1, h2, -, h4, -⟩
  · omega
  · omega
theorem pt_o {L : Nat → Int} {k : Nat} (hk : k ≤ 30) {o : Option Int} (h : PickO (nthS (ptL L k)) (ptL L k).length true true o) : o = lwO (inB L k) := IsBest_unique h (lwO_is hk)
theorem pt_n {wn : World} {a : Option Addr} {n c M : Nat} {l : List Cl} {L : Nat → Int} {k : Nat} (hk : k ≤ 30) (h : ResP wn a n c l (fun z => mayR (nthS (ptL L k)) (ptL L k).length = true ∧ InS (nthS (ptL L k)) (ptL L k).length z) M) : n = cntS (inB L k) 64 := by
  rw [h.e]
  exact pt_runs (h.f.congr fun z => ⟨fun x => x.2, fun x => ⟨ptL_may hk, x⟩⟩)
theorem pt_step {D : Nat → Bool} {t p : Nat} {x y : Bool} (hp : t = p + 1) (hx : D t = x) (hy : D p = y) : cntS D (t + 1) = cntS D t + (if (x && !y) = true then 1 else 0) := by
  subst hp hx hy
  simp only [cntS]
  rw [show p + 1 - 1 = p from rfl, decide_eq_true (show 1 ≤ p + 1 by omega), Bool.true_and]
theorem pt_l {D : Nat → Bool} {j : Nat} (h1 : 1 ≤ j) (h2 : j ≤ 63) : lwV D (63 - (j - 1)) = if D j = true then (j : Int) - 2 else lwV D (63 - j) := by
  rw [show 63 - (j - 1) = 63 - j + 1 by omega]
  simp only [lwV]
  rw [show 63 - (63 - j) = j by omega]
theorem pt_c {c : Nat} (h : c ≤ 64) : wrap64 ((c : Int) + 1) = (c : Int) + 1 := by unfold wrap64; omega
theorem pt_m {t p : Nat} (h : t ≤ 64) (hp : t = p + 1) : wrap64 ((t : Int) - 1) = (p : Int) ∧ wrap64 ((t : Int) + 1) = (t : Int) + 1 := ⟨by unfold wrap64; omega, by unfold wrap64; omega⟩
theorem pt_j {t : Nat} (h : t < 64) : (0 : Int) ≤ (t : Int) ∧ (t : Int) < 64 ∧ (t : Int).toNat = t := ⟨by omega, by omega, rfl⟩
theorem pt_q {t : Nat} (h : t < 64) : wrap64 ((t : Int) - 2) = (t : Int) - 2 ∧ IntKind.i64.wrap ((t : Int) - 2) = (t : Int) - 2 ∧ -9223372036854775808 ≤ (t : Int) - 2 ∧ (t : Int) - 2 < 9223372036854775808 ∧ ab ((t : Int) - 2) < 2 ^ 256 := ⟨by unfold wrap64; omega, by rw [IntKind.wrap_i64]; omega, by omega, by omega, by unfold ab; omega⟩
set_option maxRecDepth 20000 in
set_option maxHeartbeats 16000000 in
theorem SpanPoints_any (a : Option Addr) (n c : Nat) (L : Nat → Int) (w : World) (h : IRow w a n c L) (hT : Tabs w) :
    Calls Tryd.prog 4 #[.slice a n c] w fun e w' => e = .returned (.bool true) ∧ Below w.heap.size w w' := by
  have H := Lib.hid h
  have HT := Lib.hid hT
  have q1 := h.l
  have q2 := h.lc
  clear q1 q2
  have TL := Lib.hid fun wx (hb : Below w.heap.size w wx) => told_any wx (HT.out.below hb)
  obtain ⟨i0, hi, hz0, hz1, hz2⟩ := info_parts infoS
  obtain ⟨ib, hi', hy0, hy1, hy2⟩ := info_parts infoB1
  clear h hT
  by_cases hn : n ≤ 30
  · have i1 : ¬ (30 : Int) < (n : Int) := by omega
    go_enter Tryd.func4, Tryd.ntmps4
    repeat any_goals (first | (at_make; refine wpList_make_full _ rfl (.const (.int .i64 64)) (.const (.int .i64 64)) 40 rfl w.heap.size 4 ib (.bool false) 1 Tryd.underlying40 hi' hy0 hy1 .i64 .i64 _ _ 64 rfl rfl (by omega) (by omega) (by rw [hy2]; omega) (by unfold maxLen; omega) (Nat.le_refl _) ?_; intro w1 hown1 hg1; rw [boolsL_made] at hown1) | go_skip | go_guarded | go_step | go_upon | (dsimp only []))
    have hb1 : Below w.heap.size w w1 := (Below.refl _ _).grown hg1 (Nat.le_refl _) (fun k hk => by cases hk)
    go_loopw [3, 5] (fun v i wr => ∃ k : Nat, k ≤ n ∧ i = .int .i64 k ∧ PtI w wr w.heap.size v L k) (fun _ i _ => n - (intOf i).toNat)
    case atStart => exact ⟨0, Nat.zero_le _, rfl, ⟨World.ownsRow_nil _ _ _ _, hown1, hb1, Nat.le_refl _⟩⟩
    case round =>
      obtain ⟨k, hk, rfl, I⟩ := hrel
      have IH := Lib.hid I
      by_cases hkn : k < n
      · obtain ⟨xb, xo, rfl, hxl, hxc⟩ : ∃ b off, a = some ⟨b, off, none⟩ ∧ b < w.heap.size ∧ w.cell? ⟨b, off + k, none⟩ = some (.int .i64 (L k)) := by
          rcases H.out.c with h0 | ⟨b, off, e, hl, hc⟩
          · omega
          · exact ⟨b, off, e, hl, hc k hkn⟩
        have hx : wr.cell? ⟨xb, xo + k, none⟩ = some (.int .i64 (L k)) := by rw [I.b.cell (p := ⟨xb, xo + k, none⟩) hxl]; exact hxc
        have hp := ptN_lt (L k)
        have KP := Lib.hid fun (wg w2 : World) (v' : Value) (hb : Below (wr.setCell ⟨w.heap.size, ptN (L k) + 2, none⟩ (.bool true)).heap.size (wr.setCell ⟨w.heap.size, ptN (L k) + 2, none⟩ (.bool true)) wg)
          (h2 : w2.ownsRow (w.heap.size + 1) 33 12 v' (k + 1) (encS (ptL L k) ++ (twoS (ptN (L k)) (ptN (L k))).cells)) (hg : wg.grownBy w2 u3.ownBlock) => IH.out.keep hb h2 hg
        have g1 := I.get (j := ptN (L k) + 2) (by omega)
        have g2 := I.r.frozenAt (ptN (L k) + 2)
        have OW := Lib.hid I.o
        obtain ⟨p, hpp⟩ : ∃ p, p = ptN (L k) := ⟨_, rfl⟩
        rw [← hpp] at hp KP g1 g2
        have O0 := Lib.hid fun (wg : World) (hb : Below (wr.setCell ⟨w.heap.size, p + 2, none⟩ (.bool true)).heap.size (wr.setCell ⟨w.heap.size, p + 2, none⟩ (.bool true)) wg) => own_below (ownsRow_setCell_below OW.out (show (⟨w.heap.size, p + 2, none⟩ : Addr).block < w.heap.size + 1 from Nat.lt_succ_self _) (.bool true)) hb
        have C1 := Lib.hid fun wx => ROfI_any (p : Int) (pt_b hp).1 (pt_b hp).2 wx
        have hsg : twoS (p : Int) (p : Int) = ⟨true, true, sg (p : Int), ab (p : Int), sg (p : Int), ab (p : Int)⟩ := rfl
        rw [hsg] at KP
        generalize sg (p : Int) = pn at C1 KP
        generalize ab (p : Int) = pv at C1 KP
        have ZP := Lib.hid (show ptN (L k) = p from hpp.symm)
        obtain ⟨z, hz⟩ : ∃ z, z = L k := ⟨_, rfl⟩
        rw [← hz] at hx ZP
        have i2 : (k : Int) < (n : Int) := by omega
        have i3 : (0 : Int) ≤ (k : Int) := by omega
        have i5 : (k : Int).toNat = k := rfl
        have i7 : (0 : Int) ≤ (p : Int) + 2 := (pt_i hp).1
        have i8 : (p : Int) + 2 < 64 := (pt_i hp).2
        have i9 : ((p : Int) + 2).toNat = p + 2 := rfl
        have x1 := I.b.size
        have BD := Lib.hid (pt_bd (k := k) (by omega))
        clear I hsg hz hpp OW hxc hown1 hg1
        go_upto_region 9 with fail
        rw [show wrap64 ((IntKind.u64.wrap z).tmod 60) = (p : Int) from (ptN_eq z).trans (congrArg _ ZP.out)]
        repeat any_goals (first | (go_at_call 15; with_reducible refine (C1.out _).mono ?_; rintro e wa ⟨rfl, hba⟩; (first | have hz := below_trans hz hba | have hz := hba)) | (at_builtin; refine wpList_append_own _ rfl (.tmp 36) (.tmp 42) 22 rfl (w.heap.size + 1) 33 i0 (.agg #[.bool false, .bool false, .bool false, .int .u64 0, .int .u64 0, .int .u64 0, .int .u64 0, .bool false, .int .u64 0, .int .u64 0, .int .u64 0, .int .u64 0]) 12 88 Tryd.underlying22 hi hz0 hz1 hz2 rfl (by decide) _ k (encS (ptL L k)) rfl ((O0.out _ hz).alloc _) ⟨wa.heap.size, 0, none⟩ 1 1 [.bool true, .bool true, .bool pn, .int .u64 (lm pv 0 : Nat), .int .u64 (lm pv 1 : Nat), .int .u64 (lm pv 2 : Nat), .int .u64 (lm pv 3 : Nat), .bool pn, .int .u64 (lm pv 0 : Nat), .int .u64 (lm pv 1 : Nat), .int .u64 (lm pv 2 : Nat), .int .u64 (lm pv 3 : Nat)] rfl rfl (twelve_cells (by simp)) twelve_one BD.out.1 BD.out.2 (by have h_ := hz.size; rw [World.size_setCell] at h_; have h2_ := IH.out.r.lt _ rfl; simp; omega) ?_; intro v' w2 hown' hgrow _) | go_skip | go_guarded | go_step | go_upon | (dsimp only []))
        go_roundw
        case rel => exact ⟨k + 1, by omega, rfl, KP.out _ _ _ (below_alloc hz _) hown' hgrow⟩
        case measure => simp [intOf]; omega
      · have hk' : k = n := by omega
        subst hk'
        have i1 : ¬ (k : Int) < (k : Int) := by omega
        have hk30 : k ≤ 30 := hn
        obtain ⟨a3, c3, e3, r3⟩ := own_row (l := ptL L k) (by rw [ptL_len]; exact I.o) ptL_in
        rw [ptL_len] at e3 r3
        subst e3
        have R3 := Lib.hid r3
        have HB := Lib.hid I.b
        obtain ⟨D, hD⟩ : ∃ D, D = inB L k := ⟨_, rfl⟩
        have G := Lib.hid fun (t : Nat) (ht : t < 64) (wx : World) (hb : Below wr.heap.size wr wx) => keep_cell hb (I.get ht)
        rw [← hD] at G
        have HD := Lib.hid hD
        have hHas := Lib.hid fun (t : Nat) => pt_has (L := L) (k := k) (n := t) hk30
        rw [← hD] at hHas
        have hs3 : w.heap.size ≤ wr.heap.size := I.b.size
        obtain ⟨B, hB⟩ : ∃ B, B = w.heap.size := ⟨_, rfl⟩
        rw [← hB] at G ⊢
        have HBe := Lib.hid hB
        clear I IH r3 hD hB hown1 hg1 hb1
        repeat any_goals (first | go_skip | go_guarded | go_step | go_upon | (simp only []; done))
        obtain ⟨w1, hw1⟩ : ∃ w1, w1 = wr := ⟨_, rfl⟩
        subst hw1
        go_loopw [7, 8] (fun r i wq => ∃ t : Nat, 1 ≤ t ∧ t ≤ 64 ∧ i = .int .i64 t ∧ r = .int .i64 (cntS D t : Nat) ∧ w1 = wq) (fun _ i _ => 64 - (intOf i).toNat)
        case atStart => exact ⟨1, Nat.le_refl _, by omega, rfl, by simp [cntS], rfl⟩
        case round =>
          obtain ⟨t, ht1, ht2, rfl, rfl, rfl⟩ := hrel
          by_cases ht : t < 64
          · obtain ⟨p, hp⟩ : ∃ p, t = p + 1 := ⟨t - 1, by omega⟩
            have g1 := G.out t ht _ (Below.refl _ _)
            have g2 := G.out (t - 1) (by omega) _ (Below.refl _ _)
            obtain ⟨x, hx⟩ : ∃ x, D t = x := ⟨_, rfl⟩
            obtain ⟨y, hy⟩ : ∃ y, D (t - 1) = y := ⟨_, rfl⟩
            have ST := Lib.hid (pt_step (p := t - 1) (by omega) hx hy)
            rw [hx] at g1
            rw [hy] at g2
            have hcl := cntS_le D t
            obtain ⟨cc, hcc⟩ : ∃ cc, cc = cntS D t := ⟨_, rfl⟩
            rw [← hcc] at ST hcl ⊢
            have j1 := (pt_j ht).1
            have j2 := (pt_j ht).2.1
            have j3 := (pt_j ht).2.2
            have j4 : (0 : Int) ≤ (t : Int) - 1 := by omega
            have j5 : (t : Int) - 1 < 64 := by omega
            have hcl2 : cc ≤ 64 := by omega
            have j9 : (cc : Int) < 65 := by omega
            have j8 : (0 : Int) ≤ (cc : Int) := by omega
            have HPP := Lib.hid (And.intro hp hcc)
            clear hx hy hcc hp hcl hcl2
            cases x <;> cases y
            all_goals (
              (repeat any_goals (first | go_skip | go_guarded | go_step | go_upon | (simp only []; done)))
              go_roundw)
            all_goals (first | exact ⟨t + 1, Nat.succ_pos t, ht, rfl, by rw [ST.out]; simp, trivial⟩ | exact ⟨t + 1, Nat.succ_pos t, ht, rfl, by rw [ST.out]; simp, rfl⟩ | (simp [intOf]; omega))
          · have ht' : t = 64 := by omega
            subst ht'
            obtain ⟨R, hR⟩ : ∃ R, R = cntS D 64 := ⟨_, rfl⟩
            rw [← hR]
            have HR := Lib.hid hR
            clear hR
            repeat any_goals (first | go_skip | go_guarded | go_step | go_upon | (simp only []; done))
            go_loopw [9] (fun i wq => ∃ t : Nat, t ≤ 62 ∧ i = .int .i64 t ∧ Below w1.heap.size w1 wq) (fun i _ => 62 - (intOf i).toNat)
            case atStart => exact ⟨0, Nat.zero_le _, rfl, Below.refl _ _⟩
            case round =>
              obtain ⟨t, ht1, rfl, hW⟩ := hrel
              by_cases ht : t < 62
              · obtain ⟨x, hx⟩ : ∃ x, D t = x := ⟨_, rfl⟩
                have hd := hHas.out t
                rw [hx] at hd
                have ht64 : t < 64 := by omega
                have C2 := Lib.hid fun wx (hb : Below w1.heap.size w1 wx) => hasC (an := sg ((t : Int) - 2)) (pt_q ht64).2.2.2.2 (R3.out.below hb)
                rw [ptL_len] at hd
                rw [hd] at C2
                have C1 := Lib.hid fun wx => ROfI_any ((t : Int) - 2) (pt_q ht64).2.2.1 (pt_q ht64).2.2.2.1 wx
                obtain ⟨q, hqq⟩ : ∃ q, q = (t : Int) - 2 := ⟨_, rfl⟩
                have j7 : IntKind.i64.wrap ((t : Int) - 2) = q := by rw [hqq]; exact (pt_q ht64).2.1
                rw [← hqq] at C1 C2
                generalize sg q = zn at C1 C2
                generalize ab q = zv at C1 C2
                have GT := Lib.hid fun (wx : World) (hb : Below w1.heap.size w1 wx) => (show PtB wx B t (D t) from ⟨G.out t ht64 wx hb⟩)
                rw [hx] at GT
                have GB := Lib.hid (GT.out _ hW)
                have j1 : (0 : Int) ≤ (t : Int) := by omega
                have j2 : (t : Int) < 64 := by omega
                have j3 : (t : Int).toNat = t := rfl
                have j4 : (t : Int) < 62 := by omega
                clear hd hx hqq
                go_upto_region 20 with fail
                (obtain ⟨C_, hC⟩ : ∃ C : World → Prop, C = fun w' => Below (wr).heap.size (wr) w' := ⟨_, rfl⟩; have HC := Lib.hid hC; have hne : ∀ p : Prop, (∀ w1 : World, C_ w1 → p) = p := fun p => propext ⟨fun h => h (wr) (by rw [hC]; exact Below.refl _ _), fun h _ _ => h⟩; clear hC; refine wp_region_quiet_cls (C := C_) (by kernel_rfl) (by kernel_rfl) (by rw [HC.out]; exact (Below.refl _ _).drew) ?_)
                (go_big_quiet_want; go_big_quiet_op; go_big_quiet_on)
                (go_big_quiet_want; go_big_quiet_op; go_big_quiet_on)
                (go_big_quiet_want; refine ⟨.int .i64 q, fun w1 hw1 => ?_, ?_⟩; (rw [HC.out] at hw1; obtain ⟨_, _, _, _, _⟩ := (GB.out.below hw1).all; simp [Oper.quietAt, go_sem, *]); (try simp only [Act.put, List.setIfInBounds_toArray, List.set_cons_zero, List.set_cons_succ]); go_big_quiet_on)
                (go_big_quiet_want; go_big_quiet_op; refine ⟨.agg #[.bool zn, .int .u64 (lm zv 0 : Nat), .int .u64 (lm zv 1 : Nat), .int .u64 (lm zv 2 : Nat), .int .u64 (lm zv 3 : Nat)], fun w1 hw1 => ?_, ?_⟩; (rw [HC.out] at hw1 ⊢; with_reducible refine (C1.out _).mono ?_; rintro e w4 ⟨rfl, hb4⟩; exact ⟨rfl, below_trans hw1 hb4⟩); go_big_quiet_on)
                (go_big_quiet_want; go_big_quiet_op; refine ⟨.bool x, fun w1 hw1 => ?_, ?_⟩; (rw [HC.out] at hw1 ⊢; with_reducible refine (C2.out _ (hW.trans (below_weak hw1 hW.size))).mono ?_; rintro e w4 ⟨rfl, hb4⟩; exact ⟨rfl, below_trans hw1 hb4⟩); go_big_quiet_on)
                (go_big_quiet_want; go_big_quiet_op; go_big_quiet_on)
                (go_big_quiet_want; go_big_quiet_op; go_big_quiet_on)
                (go_big_quiet_want; refine ⟨.pointer (some ⟨B, t, none⟩), fun w1 hw1 => ?_, ?_⟩; (rw [HC.out] at hw1; obtain ⟨_, _, _, _, _⟩ := (GB.out.below hw1).all; simp [Oper.quietAt, go_sem, *]); (try simp only [Act.put, List.setIfInBounds_toArray, List.set_cons_zero, List.set_cons_succ]); go_big_quiet_on)
                (go_big_quiet_want; refine ⟨.bool x, fun w1 hw1 => ?_, ?_⟩; (rw [HC.out] at hw1; obtain ⟨_, _, _, _, _⟩ := (GB.out.below hw1).all; simp [Oper.quietAt, go_sem, *]); (try simp only [Act.put, List.setIfInBounds_toArray, List.set_cons_zero, List.set_cons_succ]); go_big_quiet_on)
                (go_big_quiet_want; refine ⟨.bool false, fun w1 hw1 => ?_, ?_⟩; (rw [HC.out] at hw1; obtain ⟨_, _, _, _, _⟩ := (GB.out.below hw1).all; simp [Oper.quietAt, go_sem, *]); (try simp only [Act.put, List.setIfInBounds_toArray, List.set_cons_zero, List.set_cons_succ]); go_big_quiet_on)
                (refine wpQuiet_nil ?_; intro w2 hw2; rw [HC.out] at hw2)
                have hW2 := hW.trans (below_weak hw2 hW.size)
                clear j7 hw2
                repeat any_goals (first | go_skip | go_guarded | go_step | go_upon | (simp only []; done))
                go_roundw
                case rel => exact ⟨t + 1, by omega, rfl, hW2⟩
                case measure => simp [intOf]; omega
              · have ht' : t = 62 := by omega
                subst ht'
                have j1 : ¬ ((62 : Nat) : Int) < 62 := by omega
                repeat any_goals (first | go_skip | go_guarded | go_step | go_upon | (simp only []; done))
                refine (Pick_any true true _ _ _ _ _ (R3.out.below hW) (HT.out.below (HB.out.trans (below_weak hW HB.out.size)))).mono ?_
                rintro e w5 ⟨o, ho, rfl, hb5⟩
                dsimp only []
                have hW5 : Below w1.heap.size w1 w5 := hW.trans (below_weak hb5 hW.size)
                have hw5 : Below w.heap.size w w5 := HB.out.trans (below_weak hW5 HB.out.size)
                have R5 := Lib.hid (R3.out.below hW5)
                have ho2 := pt_o hk30 (by rw [ptL_len]; exact ho)
                rw [← HD.out] at ho2
                obtain ⟨z, hzz⟩ : ∃ z, z = lwV D 62 := ⟨_, rfl⟩
                have HZ := Lib.hid hzz
                have hzb := lwV_bd D
                rw [← hzz] at hzb
                unfold lwO at ho2
                rw [← hzz] at ho2
                clear hzz ho hW
                by_cases hz : 0 ≤ z
                · rw [if_pos hz] at ho2
                  subst ho2
                  have CO := Lib.hid fun wx => ROfI_any z (by omega) (by omega) wx
                  rw [show bsN (some z) = sg z from rfl, show bsV (some z) = ab z from rfl, show (some z).isSome = true from rfl]
                  generalize sg z = xn at CO ⊢
                  generalize ab z = xv at CO ⊢
                  clear hzb
                  repeat any_goals (first | go_skip | go_guarded | go_step | go_upon | (simp only []; done))
                  have X6 := Lib.hid (@ibox_new w5 xn xv 31)
                  have HB6 := Lib.hid (below_alloc hw5 (.cells #[.bool xn, .int .u64 (lm xv 0 : Nat), .int .u64 (lm xv 1 : Nat), .int .u64 (lm xv 2 : Nat), .int .u64 (lm xv 3 : Nat)] 31))
                  have R6 := Lib.hid (R5.out.below (below_alloc (Below.refl _ _) (.cells #[.bool xn, .int .u64 (lm xv 0 : Nat), .int .u64 (lm xv 1 : Nat), .int .u64 (lm xv 2 : Nat), .int .u64 (lm xv 3 : Nat)] 31)))
                  have G6 := Lib.hid fun (t : Nat) (ht : t < 64) => G.out t ht _ (hW5.trans (below_weak (below_alloc (Below.refl w5.heap.size w5) (.cells #[.bool xn, .int .u64 (lm xv 0 : Nat), .int .u64 (lm xv 1 : Nat), .int .u64 (lm xv 2 : Nat), .int .u64 (lm xv 3 : Nat)] 31)) hW5.size))
                  generalize w5.alloc (.cells #[.bool xn, .int .u64 (lm xv 0 : Nat), .int .u64 (lm xv 1 : Nat), .int .u64 (lm xv 2 : Nat), .int .u64 (lm xv 3 : Nat)] 31) = w6 at *
                  obtain ⟨E, hE⟩ : ∃ E, E = w5.heap.size := ⟨_, rfl⟩
                  rw [← hE] at X6 ⊢
                  clear hE hW5 hw5 R5 hb5
                  go_loopw [12, 13] (fun l i wq => ∃ j : Nat, 1 ≤ j ∧ j ≤ 63 ∧ i = .int .i64 j ∧ l = .int .i64 (lwV D (63 - j)) ∧ w6 = wq) (fun _ i _ => (intOf i).toNat)
                  case atStart => exact ⟨63, by omega, Nat.le_refl _, rfl, rfl, rfl⟩
                  case round =>
                    obtain ⟨j, hj1, hj2, rfl, rfl, rfl⟩ := hrel
                    by_cases hj : 2 ≤ j
                    · have g1 := G6.out j (by omega)
                      obtain ⟨x, hx⟩ : ∃ x, D j = x := ⟨_, rfl⟩
                      have ST := Lib.hid (pt_l (D := D) hj1 hj2)
                      rw [hx] at g1 ST
                      have j1 : (2 : Int) ≤ (j : Int) := by omega
                      have j2 : (0 : Int) ≤ (j : Int) := by omega
                      have j3 : (j : Int) < 64 := by omega
                      have j4 : (j : Int).toNat = j := rfl
                      have hjp : ((j - 1 : Nat) : Int) = (j : Int) - 1 := by omega
                      have HJP := Lib.hid hjp
                      clear hx hjp
                      cases x
                      · repeat any_goals (first | go_skip | go_guarded | go_step | go_upon | (simp only []; done))
                        go_roundw
                        case rel => exact ⟨j - 1, by omega, by omega, by rw [HJP.out], by rw [ST.out]; simp, by trivial⟩
                        case measure => simp [intOf]; omega
                      · repeat any_goals (first | go_skip | go_guarded | go_step | go_upon | (simp only []; done))
                        go_roundw
                        case rel => exact ⟨j - 1, by omega, by omega, by rw [HJP.out], by rw [ST.out]; simp, by trivial⟩
                        case measure => simp [intOf]; omega
                    · obtain rfl : j = 1 := by omega
                      have j1 : ¬ (2 : Int) ≤ ((1 : Nat) : Int) := by omega
                      have e62 : lwV D (63 - 1) = z := HZ.out.symm
                      rw [e62]
                      clear e62
                      go_upto_region 29 with fail
                      have hq : Below w6.heap.size w6 w6.drew := (Below.refl _ _).drew
                      go_region_held3 (fun w' => w'.cell? ⟨E, 0, none⟩ = some (.bool xn) ∧ w'.cell? ⟨E, 1, none⟩ = some (.int .u64 (lm xv 0 : Nat)) ∧ w'.cell? ⟨E, 2, none⟩ = some (.int .u64 (lm xv 1 : Nat)) ∧ w'.cell? ⟨E, 3, none⟩ = some (.int .u64 (lm xv 2 : Nat)) ∧ w'.cell? ⟨E, 4, none⟩ = some (.int .u64 (lm xv 3 : Nat))) (first | with_reducible assumption | (have hk_ := hq; with_reducible exact ⟨(X6.out.below hk_).c0, (X6.out.below hk_).c1, (X6.out.below hk_).c2, (X6.out.below hk_).c3, (X6.out.below hk_).c4⟩)) (first | (go_at_call 10; with_reducible refine (TL.out _ (HB6.out.trans (below_weak hq HB6.out.size))).mono ?_; rintro e w7 ⟨rfl, hb7⟩; have hq := below_trans hq hb7) | (go_at_call 11; refine (Norm_any _ _ _ _ _ (R6.out.below hq) (by omega)).mono ?_; rintro e w8 ⟨v8, rfl, h8⟩; obtain ⟨a8, n8, c8, l8, rfl, r8, b8⟩ := out_res h8; obtain rfl : n8 = R := (pt_n hk30 (by rw [ptL_len]; exact r8)).trans (by rw [HR.out, HD.out]); have hq := below_trans hq b8) | (go_at_call 15; with_reducible refine (CO.out _).mono ?_; rintro e w9 ⟨rfl, hb9⟩; have hq := below_trans hq hb9))
                      repeat any_goals (first | go_skip | go_guarded | go_step | go_upon | (simp only []; done))
                      exact bodyPost_ret (v := .bool true) (by simp [results, Tryd.results4, go_sem]) rfl ⟨rfl, HB6.out.trans (below_weak hq HB6.out.size)⟩
                · rw [if_neg hz] at ho2
                  subst ho2
                  rw [show (none : Option Int).isSome = false from rfl]
                  generalize bsN none = xn
                  generalize bsV none = xv
                  obtain rfl : z = -1 := by omega
                  clear hzb
                  repeat any_goals (first | go_skip | go_guarded | go_step | go_upon | (simp only []; done))
                  have X6 := Lib.hid (@ibox_new w5 xn xv 31)
                  have HB6 := Lib.hid (below_alloc hw5 (.cells #[.bool xn, .int .u64 (lm xv 0 : Nat), .int .u64 (lm xv 1 : Nat), .int .u64 (lm xv 2 : Nat), .int .u64 (lm xv 3 : Nat)] 31))
                  have R6 := Lib.hid (R5.out.below (below_alloc (Below.refl _ _) (.cells #[.bool xn, .int .u64 (lm xv 0 : Nat), .int .u64 (lm xv 1 : Nat), .int .u64 (lm xv 2 : Nat), .int .u64 (lm xv 3 : Nat)] 31)))
                  have G6 := Lib.hid fun (t : Nat) (ht : t < 64) => G.out t ht _ (hW5.trans (below_weak (below_alloc (Below.refl w5.heap.size w5) (.cells #[.bool xn, .int .u64 (lm xv 0 : Nat), .int .u64 (lm xv 1 : Nat), .int .u64 (lm xv 2 : Nat), .int .u64 (lm xv 3 : Nat)] 31)) hW5.size))
                  generalize w5.alloc (.cells #[.bool xn, .int .u64 (lm xv 0 : Nat), .int .u64 (lm xv 1 : Nat), .int .u64 (lm xv 2 : Nat), .int .u64 (lm xv 3 : Nat)] 31) = w6 at *
                  obtain ⟨E, hE⟩ : ∃ E, E = w5.heap.size := ⟨_, rfl⟩
                  rw [← hE] at X6 ⊢
                  clear hE hW5 hw5 R5 hb5
                  go_loopw [12, 13] (fun l i wq => ∃ j : Nat, 1 ≤ j ∧ j ≤ 63 ∧ i = .int .i64 j ∧ l = .int .i64 (lwV D (63 - j)) ∧ w6 = wq) (fun _ i _ => (intOf i).toNat)
                  case atStart => exact ⟨63, by omega, Nat.le_refl _, rfl, rfl, rfl⟩
                  case round =>
                    obtain ⟨j, hj1, hj2, rfl, rfl, rfl⟩ := hrel
                    by_cases hj : 2 ≤ j
                    · have g1 := G6.out j (by omega)
                      obtain ⟨x, hx⟩ : ∃ x, D j = x := ⟨_, rfl⟩
                      have ST := Lib.hid (pt_l (D := D) hj1 hj2)
                      rw [hx] at g1 ST
                      have j1 : (2 : Int) ≤ (j : Int) := by omega
                      have j2 : (0 : Int) ≤ (j : Int) := by omega
                      have j3 : (j : Int) < 64 := by omega
                      have j4 : (j : Int).toNat = j := rfl
                      have hjp : ((j - 1 : Nat) : Int) = (j : Int) - 1 := by omega
                      have HJP := Lib.hid hjp
                      clear hx hjp
                      cases x
                      · repeat any_goals (first | go_skip | go_guarded | go_step | go_upon | (simp only []; done))
                        go_roundw
                        case rel => exact ⟨j - 1, by omega, by omega, by rw [HJP.out], by rw [ST.out]; simp, by trivial⟩
                        case measure => simp [intOf]; omega
                      · repeat any_goals (first | go_skip | go_guarded | go_step | go_upon | (simp only []; done))
                        go_roundw
                        case rel => exact ⟨j - 1, by omega, by omega, by rw [HJP.out], by rw [ST.out]; simp, by trivial⟩
                        case measure => simp [intOf]; omega
                    · obtain rfl : j = 1 := by omega
                      have j1 : ¬ (2 : Int) ≤ ((1 : Nat) : Int) := by omega
                      have e62 : lwV D (63 - 1) = -1 := HZ.out.symm
                      rw [e62]
                      clear e62
                      go_upto_region 29 with fail
                      have hq : Below w6.heap.size w6 w6.drew := (Below.refl _ _).drew
                      refine wp_region_noPanic ?_
                      refine wp_region_held_drew (S := (fun w' => Below w6.heap.size w6 w')) (by kernel_rfl) hq (fun hHeld => ?_)
                      refine wpAnyH_ready (rs := [0]) (by kernel_rfl) (by simp) ?_
                      refine AllReadyH.cons rfl (fun K hK => ?_) AllReadyH.nil
                      go_simp
                      (go_at_call 10; with_reducible refine (TL.out _ (HB6.out.trans (below_weak hq HB6.out.size))).mono ?_; rintro e w7 ⟨rfl, hb7⟩; have hq := below_trans hq hb7)
                      (try dsimp only [])
                      refine hK.out _ _ ?_ (fun hHeld => ?_)
                      (focus (with_reducible exact hq))
                      clear hK K
                      (try simp only [Act.put, List.getElem_toArray, List.getElem_cons_succ, List.getElem_cons_zero, List.setIfInBounds_toArray, List.set_cons_zero, List.set_cons_succ])
                      refine wpAnyH_take (i := 1) (v := ?_) rfl (by kernel_rfl) (by kernel_rfl) (by kernel_rfl) (fun _ _ _ h => h) (Or.inl ⟨by rfl, ?_⟩) hHeld ?_
                      rotate_left
                      (focus (intro wq hSw; go_simp; (try with_reducible rfl)))
                      (try simp only [Act.put, List.getElem_toArray, List.getElem_cons_succ, List.getElem_cons_zero, List.setIfInBounds_toArray, List.set_cons_zero, List.set_cons_succ])
                      refine wpAnyH_take (i := 2) (v := ?_) rfl (by kernel_rfl) (by kernel_rfl) (by kernel_rfl) (fun _ _ _ h => h) (Or.inl ⟨by rfl, ?_⟩) hHeld ?_
                      rotate_left
                      (focus (intro wq hSw; go_simp; (try with_reducible rfl)))
                      (try simp only [Act.put, List.getElem_toArray, List.getElem_cons_succ, List.getElem_cons_zero, List.setIfInBounds_toArray, List.set_cons_zero, List.set_cons_succ])
                      refine wpAnyH_take (i := 5) (v := ?_) rfl (by kernel_rfl) (by kernel_rfl) (by kernel_rfl) (fun _ _ _ h => h) (Or.inl ⟨by rfl, ?_⟩) hHeld ?_
                      rotate_left
                      (focus (intro wq hSw; go_simp; (try with_reducible rfl)))
                      (try simp only [Act.put, List.getElem_toArray, List.getElem_cons_succ, List.getElem_cons_zero, List.setIfInBounds_toArray, List.set_cons_zero, List.set_cons_succ])
                      refine wpAnyH_ready (rs := [3]) (by kernel_rfl) (by simp) ?_
                      refine AllReadyH.cons rfl (fun K hK => ?_) AllReadyH.nil
                      go_simp
                      (go_at_call 11; refine (Norm_any _ _ _ _ _ (R6.out.below hq) (by omega)).mono ?_; rintro e w8 ⟨v8, rfl, h8⟩; obtain ⟨a8, n8, c8, l8, rfl, r8, b8⟩ := out_res h8; obtain rfl : n8 = R := (pt_n hk30 (by rw [ptL_len]; exact r8)).trans (by rw [HR.out, HD.out]); have hq := below_trans hq b8)
                      (try dsimp only [])
                      refine hK.out _ _ ?_ (fun hHeld => ?_)
                      (focus (with_reducible exact hq))
                      clear hK K
                      (try simp only [Act.put, List.getElem_toArray, List.getElem_cons_succ, List.getElem_cons_zero, List.setIfInBounds_toArray, List.set_cons_zero, List.set_cons_succ])
                      refine wpAnyH_take (i := 4) (v := ?_) rfl (by kernel_rfl) (by kernel_rfl) (by kernel_rfl) (fun _ _ _ h => h) (Or.inl ⟨by rfl, ?_⟩) hHeld ?_
                      rotate_left
                      (focus (intro wq hSw; go_simp; (try with_reducible rfl)))
                      (try simp only [Act.put, List.getElem_toArray, List.getElem_cons_succ, List.getElem_cons_zero, List.setIfInBounds_toArray, List.set_cons_zero, List.set_cons_succ])
                      refine wpAnyH_take (i := 6) (v := ?_) rfl (by kernel_rfl) (by kernel_rfl) (by kernel_rfl) (fun _ _ _ h => h) (Or.inl ⟨by rfl, ?_⟩) hHeld ?_
                      rotate_left
                      (focus (intro wq hSw; go_simp; (try with_reducible rfl)))
                      (try simp only [Act.put, List.getElem_toArray, List.getElem_cons_succ, List.getElem_cons_zero, List.setIfInBounds_toArray, List.set_cons_zero, List.set_cons_succ])
                      refine wpAnyH_take (i := 7) (v := ?_) rfl (by kernel_rfl) (by kernel_rfl) (by kernel_rfl) (fun _ _ _ h => h) (Or.inl ⟨by rfl, ?_⟩) hHeld ?_
                      rotate_left
                      (focus (intro wq hSw; go_simp; (try with_reducible rfl)))
                      (try simp only [Act.put, List.getElem_toArray, List.getElem_cons_succ, List.getElem_cons_zero, List.setIfInBounds_toArray, List.set_cons_zero, List.set_cons_succ])
                      refine wpAnyH_take (i := 8) (v := ?_) rfl (by kernel_rfl) (by kernel_rfl) (by kernel_rfl) (fun _ _ _ h => h) (Or.inl ⟨by rfl, ?_⟩) hHeld ?_
                      rotate_left
                      (focus (intro wq hSw; go_simp; (try with_reducible rfl)))
                      (try simp only [Act.put, List.getElem_toArray, List.getElem_cons_succ, List.getElem_cons_zero, List.setIfInBounds_toArray, List.set_cons_zero, List.set_cons_succ])
                      refine wpAnyH_take (i := 9) (v := ?_) rfl (by kernel_rfl) (by kernel_rfl) (by kernel_rfl) (fun _ _ _ h => h) (Or.inl ⟨by rfl, ?_⟩) hHeld ?_
                      rotate_left
                      (focus (intro wq hSw; go_simp; (try with_reducible rfl)))
                      (try simp only [Act.put, List.getElem_toArray, List.getElem_cons_succ, List.getElem_cons_zero, List.setIfInBounds_toArray, List.set_cons_zero, List.set_cons_succ])
                      refine wpAnyH_take (i := 10) (v := ?_) rfl (by kernel_rfl) (by kernel_rfl) (by kernel_rfl) (fun _ _ _ h => h) (Or.inl ⟨by rfl, ?_⟩) hHeld ?_
                      rotate_left
                      (focus (intro wq hSw; go_simp; (try with_reducible rfl)))
                      (try simp only [Act.put, List.getElem_toArray, List.getElem_cons_succ, List.getElem_cons_zero, List.setIfInBounds_toArray, List.set_cons_zero, List.set_cons_succ])
                      refine wpAnyH_take (i := 11) (v := ?_) rfl (by kernel_rfl) (by kernel_rfl) (by kernel_rfl) (fun _ _ _ h => h) (Or.inl ⟨by rfl, ?_⟩) hHeld ?_
                      rotate_left
                      (focus (intro wq hSw; go_simp; (try with_reducible rfl)))
                      (try simp only [Act.put, List.getElem_toArray, List.getElem_cons_succ, List.getElem_cons_zero, List.setIfInBounds_toArray, List.set_cons_zero, List.set_cons_succ])
                      refine wpAnyH_take (i := 12) (v := ?_) rfl (by kernel_rfl) (by kernel_rfl) (by kernel_rfl) (fun _ _ _ h => h) (Or.inl ⟨by rfl, ?_⟩) hHeld ?_
                      rotate_left
                      (focus (intro wq hSw; go_simp; (try with_reducible rfl)))
                      (try simp only [Act.put, List.getElem_toArray, List.getElem_cons_succ, List.getElem_cons_zero, List.setIfInBounds_toArray, List.set_cons_zero, List.set_cons_succ])
                      refine wpAnyH_take (i := 13) (v := ?_) rfl (by kernel_rfl) (by kernel_rfl) (by kernel_rfl) (fun _ _ _ h => h) (Or.inl ⟨by rfl, ?_⟩) hHeld ?_
                      rotate_left
                      (focus (intro wq hSw; go_simp; (try with_reducible rfl)))
                      (try simp only [Act.put, List.getElem_toArray, List.getElem_cons_succ, List.getElem_cons_zero, List.setIfInBounds_toArray, List.set_cons_zero, List.set_cons_succ])
                      refine wpAnyH_take (i := 14) (v := ?_) rfl (by kernel_rfl) (by kernel_rfl) (by kernel_rfl) (fun _ _ _ h => h) (Or.inl ⟨by rfl, ?_⟩) hHeld ?_
                      rotate_left
                      (focus (intro wq hSw; go_simp; (try with_reducible rfl)))
                      (try simp only [Act.put, List.getElem_toArray, List.getElem_cons_succ, List.getElem_cons_zero, List.setIfInBounds_toArray, List.set_cons_zero, List.set_cons_succ])
                      refine wpAnyH_take (i := 15) (v := ?_) rfl (by kernel_rfl) (by kernel_rfl) (by kernel_rfl) (fun _ _ _ h => h) (Or.inl ⟨by rfl, ?_⟩) hHeld ?_
                      rotate_left
                      (focus (intro wq hSw; go_simp; (try with_reducible rfl)))
                      (try simp only [Act.put, List.getElem_toArray, List.getElem_cons_succ, List.getElem_cons_zero, List.setIfInBounds_toArray, List.set_cons_zero, List.set_cons_succ])
                      refine wpAnyH_take (i := 16) (v := ?_) rfl (by kernel_rfl) (by kernel_rfl) (by kernel_rfl) (fun _ _ _ h => h) (Or.inl ⟨by rfl, ?_⟩) hHeld ?_
                      rotate_left
                      (focus (intro wq hSw; go_simp; (try with_reducible rfl)))
                      (try simp only [Act.put, List.getElem_toArray, List.getElem_cons_succ, List.getElem_cons_zero, List.setIfInBounds_toArray, List.set_cons_zero, List.set_cons_succ])
                      refine wpAnyH_take (i := 17) (v := ?_) rfl (by kernel_rfl) (by kernel_rfl) (by kernel_rfl) (fun _ _ _ h => h) (Or.inl ⟨by rfl, ?_⟩) hHeld ?_
                      rotate_left
                      (focus (intro wq hSw; go_simp; (try with_reducible rfl)))
                      (try simp only [Act.put, List.getElem_toArray, List.getElem_cons_succ, List.getElem_cons_zero, List.setIfInBounds_toArray, List.set_cons_zero, List.set_cons_succ])
                      refine wpAnyH_take (i := 18) (v := undef) rfl (by kernel_rfl) (by kernel_rfl) (by kernel_rfl) (fun _ _ _ h => h) (Or.inr ⟨by rfl, rfl⟩) hHeld ?_
                      (try simp only [Act.put, List.getElem_toArray, List.getElem_cons_succ, List.getElem_cons_zero, List.setIfInBounds_toArray, List.set_cons_zero, List.set_cons_succ])
                      refine wpAnyH_take (i := 19) (v := undef) rfl (by kernel_rfl) (by kernel_rfl) (by kernel_rfl) (fun _ _ _ h => h) (Or.inr ⟨by rfl, rfl⟩) hHeld ?_
                      (try simp only [Act.put, List.getElem_toArray, List.getElem_cons_succ, List.getElem_cons_zero, List.setIfInBounds_toArray, List.set_cons_zero, List.set_cons_succ])
                      refine wpAnyH_take (i := 20) (v := undef) rfl (by kernel_rfl) (by kernel_rfl) (by kernel_rfl) (fun _ _ _ h => h) (Or.inr ⟨by rfl, rfl⟩) hHeld ?_
                      (try simp only [Act.put, List.getElem_toArray, List.getElem_cons_succ, List.getElem_cons_zero, List.setIfInBounds_toArray, List.set_cons_zero, List.set_cons_succ])
                      refine wpAnyH_take (i := 21) (v := undef) rfl (by kernel_rfl) (by kernel_rfl) (by kernel_rfl) (fun _ _ _ h => h) (Or.inr ⟨by rfl, rfl⟩) hHeld ?_
                      (try simp only [Act.put, List.getElem_toArray, List.getElem_cons_succ, List.getElem_cons_zero, List.setIfInBounds_toArray, List.set_cons_zero, List.set_cons_succ])
                      refine wpAnyH_take (i := 22) (v := ?_) rfl (by kernel_rfl) (by kernel_rfl) (by kernel_rfl) (fun _ _ _ h => h) (Or.inl ⟨by rfl, ?_⟩) hHeld ?_
                      rotate_left
                      (focus (intro wq hSw; go_simp; (try with_reducible rfl)))
                      (try simp only [Act.put, List.getElem_toArray, List.getElem_cons_succ, List.getElem_cons_zero, List.setIfInBounds_toArray, List.set_cons_zero, List.set_cons_succ])
                      refine wpAnyH_take (i := 23) (v := ?_) rfl (by kernel_rfl) (by kernel_rfl) (by kernel_rfl) (fun _ _ _ h => h) (Or.inl ⟨by rfl, ?_⟩) hHeld ?_
                      rotate_left
                      (focus (intro wq hSw; go_simp; (try with_reducible rfl)))
                      (try simp only [Act.put, List.getElem_toArray, List.getElem_cons_succ, List.getElem_cons_zero, List.setIfInBounds_toArray, List.set_cons_zero, List.set_cons_succ])
                      refine wpAnyH_take (i := 24) (v := ?_) rfl (by kernel_rfl) (by kernel_rfl) (by kernel_rfl) (fun _ _ _ h => h) (Or.inl ⟨by rfl, ?_⟩) hHeld ?_
                      rotate_left
                      (focus (intro wq hSw; go_simp; (try with_reducible rfl)))
                      (try simp only [Act.put, List.getElem_toArray, List.getElem_cons_succ, List.getElem_cons_zero, List.setIfInBounds_toArray, List.set_cons_zero, List.set_cons_succ])
                      refine wpAnyH_done (by kernel_rfl) ?_ _
                      refine NoPanic.normal ?_
                      repeat any_goals (first | go_skip | go_guarded | go_step | go_upon | (simp only []; done))
                      exact bodyPost_ret (v := .bool true) (by simp [results, Tryd.results4, go_sem]) rfl ⟨rfl, HB6.out.trans (below_weak hq HB6.out.size)⟩
  · have i1 : (30 : Int) < (n : Int) := by omega
    go_enter Tryd.func4, Tryd.ntmps4
    repeat any_goals (first | (go_at_call 10; with_reducible refine (TL.out _ (Below.refl _ _)).mono ?_; rintro e w1 ⟨rfl, hb1⟩) | go_skip | go_guarded | go_step | go_upon | (dsimp only []))
    exact bodyPost_ret (v := .bool true) (by simp [results, Tryd.results4, go_sem]) rfl ⟨rfl, hb1⟩
end Go.Proofs.YtekeedjhaakbhaaDoor
