/- Contract of package nat: Parse. -/
import Derived.Test.YtbakgmkkebnhkaaDoorMulN
import Derived.Test.YtbakgmkkebnhkaaDoorMathTxt
import Derived.Test.YtbakgmkkebnhkaaDoorTail
namespace Go.Proofs.YtbakgmkkebnhkaaDoor
open Go.RowKit
/-- the cells in the loop of Parse: block w.heap.size is the result, the next one holds the number -/
structure ParI (w wr : World) (V : Nat) : Prop where
  r : ∀ j, j < 4 → wr.cell? ⟨w.heap.size, j, none⟩ = some (.int .u64 0) ∧ wr.frozen? ⟨w.heap.size, j, none⟩ = false
  a : ∀ j, j < 4 → wr.cell? ⟨w.heap.size + 1, j, none⟩ = some (.int .u64 (lm V j : Nat)) ∧ wr.frozen? ⟨w.heap.size + 1, j, none⟩ = false
  b : Below w.heap.size w wr
  l : w.heap.size + 1 < wr.heap.size
theorem ParI.below {w wr wr' : World} {V : Nat} (h : ParI w wr V) (hb : Below wr.heap.size wr wr') : ParI w wr' V := by
  refine ⟨fun j hj => ?_, fun j hj => ?_, below_trans h.b hb, Nat.lt_of_lt_of_le h.l hb.size⟩
  · rw [hb.cell (p := ⟨w.heap.size, j, none⟩) (Nat.lt_trans (Nat.lt_succ_self _) h.l), hb.frozen (p := ⟨w.heap.size, j, none⟩) (Nat.lt_trans (Nat.lt_succ_self _) h.l)]
    exact h.r j hj
  · rw [hb.cell (p := ⟨w.heap.size + 1, j, none⟩) h.l, hb.frozen (p := ⟨w.heap.size + 1, j, none⟩) h.l]
    exact h.a j hj
theorem ParI.alloc {w wr : World} {V : Nat} (h : ParI w wr V) (o : Obj) : ParI w (wr.alloc o) V := h.below (below_alloc (Below.refl _ _) _)
theorem ParI.set {w wr : World} {V W : Nat} (h : ParI w wr V) : ParI w ((((wr.setCell ⟨w.heap.size + 1, 0, none⟩ (.int .u64 (lm W 0 : Nat))).setCell ⟨w.heap.size + 1, 1, none⟩ (.int .u64 (lm W 1 : Nat))).setCell ⟨w.heap.size + 1, 2, none⟩ (.int .u64 (lm W 2 : Nat))).setCell ⟨w.heap.size + 1, 3, none⟩ (.int .u64 (lm W 3 : Nat))) W := by
  refine ⟨fun j hj => ⟨?_, ?_⟩, fun j hj => ⟨?_, ?_⟩, ?_, ?_⟩
  · rw [set_other (by simp), set_other (by simp), set_other (by simp), set_other (by simp)]
    exact (h.r j hj).1
  · simp only [World.frozen?_setCell]
    exact (h.r j hj).2
  · have e0 := (h.a 0 (by decide)).1
    have e1 := (h.a 1 (by decide)).1
    have e2 := (h.a 2 (by decide)).1
    have e3 := (h.a 3 (by decide)).1
    match j, hj with
    | 0, _ => rw [set_other (by simp), set_other (by simp), set_other (by simp), World.cell?_setCell_same _ _ _ e0]
    | 1, _ => rw [set_other (by simp), set_other (by simp), World.cell?_setCell_same _ _ _ (by rw [set_other (by simp)]; exact e1)]
    | 2, _ => rw [set_other (by simp), World.cell?_setCell_same _ _ _ (by rw [set_other (by simp), set_other (by simp)]; exact e2)]
    | 3, _ => rw [World.cell?_setCell_same _ _ _ (by rw [set_other (by simp), set_other (by simp), set_other (by simp)]; exact e3)]
  · simp only [World.frozen?_setCell]
    exact (h.a j hj).2
  · have h1 : w.heap.size ≤ w.heap.size + 1 := Nat.le_succ _
    exact (((h.b.setCell h1 _).setCell h1 _).setCell h1 _).setCell h1 _
  · simpa using h.l
set_option maxRecDepth 20000 in
theorem parI_new {w : World} {t t2 : TypeId} : ParI w ((w.alloc (.cells #[.int .u64 0, .int .u64 0, .int .u64 0, .int .u64 0] t)).alloc (.cells #[.int .u64 0, .int .u64 0, .int .u64 0, .int .u64 0] t2)) 0 := by
  refine ⟨?_, ?_, ?_, ?_⟩
  · intro j hj
    match j, hj with
    | 0, _ => simp [go_sem]
    | 1, _ => simp [go_sem]
    | 2, _ => simp [go_sem]
    | 3, _ => simp [go_sem]
  · intro j hj
    match j, hj with
    | 0, _ => simp [go_sem, lm_zero]
    | 1, _ => simp [go_sem, lm_zero]
    | 2, _ => simp [go_sem, lm_zero]
    | 3, _ => simp [go_sem, lm_zero]
  · (repeat first | with_reducible exact Below.refl _ _ | with_reducible assumption | with_reducible refine Below.drew ?_ | with_reducible refine below_alloc ?_ _ | ((with_reducible refine Below.setCell ?_ ?_ _); rotate_left; (focus (first | with_reducible exact Nat.le_refl _ | (simp; done) | (simp; omega) | omega))) | (with_reducible refine below_trans ?_ (by assumption)))
  · simp
theorem ParI.zero {w wr : World} {V : Nat} (h : ParI w wr V) : (wr.cell? ⟨w.heap.size, 0, none⟩ = some (.int .u64 0) ∧ wr.frozen? ⟨w.heap.size, 0, none⟩ = false) ∧ (wr.cell? ⟨w.heap.size, 1, none⟩ = some (.int .u64 0) ∧ wr.frozen? ⟨w.heap.size, 1, none⟩ = false) ∧ (wr.cell? ⟨w.heap.size, 2, none⟩ = some (.int .u64 0) ∧ wr.frozen? ⟨w.heap.size, 2, none⟩ = false) ∧ (wr.cell? ⟨w.heap.size, 3, none⟩ = some (.int .u64 0) ∧ wr.frozen? ⟨w.heap.size, 3, none⟩ = false) :=
  ⟨h.r 0 (by decide), h.r 1 (by decide), h.r 2 (by decide), h.r 3 (by decide)⟩
theorem ParI.num {w wr : World} {V : Nat} (h : ParI w wr V) : (wr.cell? ⟨w.heap.size + 1, 0, none⟩ = some (.int .u64 (lm V 0 : Nat)) ∧ wr.frozen? ⟨w.heap.size + 1, 0, none⟩ = false) ∧ (wr.cell? ⟨w.heap.size + 1, 1, none⟩ = some (.int .u64 (lm V 1 : Nat)) ∧ wr.frozen? ⟨w.heap.size + 1, 1, none⟩ = false) ∧ (wr.cell? ⟨w.heap.size + 1, 2, none⟩ = some (.int .u64 (lm V 2 : Nat)) ∧ wr.frozen? ⟨w.heap.size + 1, 2, none⟩ = false) ∧ (wr.cell? ⟨w.heap.size + 1, 3, none⟩ = some (.int .u64 (lm V 3 : Nat)) ∧ wr.frozen? ⟨w.heap.size + 1, 3, none⟩ = false) :=
  ⟨h.a 0 (by decide), h.a 1 (by decide), h.a 2 (by decide), h.a 3 (by decide)⟩
theorem idx_str {s : ByteArray} {m : Nat} (hm : m < s.data.toList.length) (W : World) : (Instr.index 9 (.string s) (.int .i64 (m : Int))).run Tryd.prog W = .ok (.int .u8 ((s.data.toList[m].toNat : Nat) : Int)) W := by
  have hs : s.size = s.data.toList.length := (Array.length_toList).symm
  rw [run_index_string W 9 s .i64 m Tryd.underlying9, dif_pos ⟨by omega, by omega⟩]
  rfl
/-- the worlds of the region 'a, ok = Add(b, Of(..))': the cells of the loop, and b's in block B -/
structure ParB (w : World) (V B U : Nat) (w' : World) : Prop where
  i : ParI w w' V
  c0 : w'.cell? ⟨B, 0, none⟩ = some (.int .u64 (lm U 0 : Nat))
  c1 : w'.cell? ⟨B, 1, none⟩ = some (.int .u64 (lm U 1 : Nat))
  c2 : w'.cell? ⟨B, 2, none⟩ = some (.int .u64 (lm U 2 : Nat))
  c3 : w'.cell? ⟨B, 3, none⟩ = some (.int .u64 (lm U 3 : Nat))
  l : B < w'.heap.size
theorem ParB.below {w : World} {V B U : Nat} {w1 w2 : World} (h : ParB w V B U w1) (hb : Below w1.heap.size w1 w2) : ParB w V B U w2 :=
  ⟨h.i.below hb, by rw [hb.cell (p := ⟨B, 0, none⟩) h.l]; exact h.c0, by rw [hb.cell (p := ⟨B, 1, none⟩) h.l]; exact h.c1, by rw [hb.cell (p := ⟨B, 2, none⟩) h.l]; exact h.c2, by rw [hb.cell (p := ⟨B, 3, none⟩) h.l]; exact h.c3, Nat.lt_of_lt_of_le h.l hb.size⟩
theorem parB_new {w w3 : World} {V U : Nat} {t : TypeId} (h : ParI w w3 V) : ParB w V w3.heap.size U (w3.alloc (.cells #[.int .u64 (lm U 0 : Nat), .int .u64 (lm U 1 : Nat), .int .u64 (lm U 2 : Nat), .int .u64 (lm U 3 : Nat)] t)) :=
  ⟨h.alloc _, by simp [go_sem], by simp [go_sem], by simp [go_sem], by simp [go_sem], by simp⟩
set_option maxRecDepth 20000 in
set_option maxHeartbeats 400000 in
theorem ParN_empty (s : ByteArray) (w : World) (h : (s.toList == ([] : List UInt8)) = true) :
    Calls Tryd.prog 38 #[.string s] w fun e w' => e = .returned (.tuple #[.agg #[.int .u64 (lm (0) 0 : Nat), .int .u64 (lm (0) 1 : Nat), .int .u64 (lm (0) 2 : Nat), .int .u64 (lm (0) 3 : Nat)], .bool false]) ∧ Below w.heap.size w w' := by
  rw [lm_zero, lm_zero, lm_zero, lm_zero]
  go_enter Tryd.func38, Tryd.ntmps38
  repeat any_goals (first | go_skip | go_guarded | go_step | go_upon | (simp only []; done))
  refine bodyPost_ret (v := .tuple #[.agg #[.int .u64 (0 : Nat), .int .u64 (0 : Nat), .int .u64 (0 : Nat), .int .u64 (0 : Nat)], .bool false]) ?_ rfl ⟨rfl, by (repeat first | with_reducible exact Below.refl _ _ | with_reducible assumption | with_reducible refine Below.drew ?_ | with_reducible refine below_alloc ?_ _ | ((with_reducible refine Below.setCell ?_ ?_ _); rotate_left; (focus (first | with_reducible exact Nat.le_refl _ | (simp; done) | (simp; omega) | omega))) | (with_reducible refine below_trans ?_ (by assumption)))⟩
  simp [results, Tryd.results38, go_sem]
set_option maxRecDepth 20000 in
set_option maxHeartbeats 400000 in
theorem ParN_lead (s : ByteArray) (w : World) (n : Int) (hn : (s.size : Int) = n) (h : (s.toList == ([] : List UInt8)) = false) (h1 : 1 < n) (hx : ∀ W, (Instr.index 9 (.string s) (.int .i64 0)).run Tryd.prog W = .ok (.int .u8 48) W) :
    Calls Tryd.prog 38 #[.string s] w fun e w' => e = .returned (.tuple #[.agg #[.int .u64 (lm (0) 0 : Nat), .int .u64 (lm (0) 1 : Nat), .int .u64 (lm (0) 2 : Nat), .int .u64 (lm (0) 3 : Nat)], .bool false]) ∧ Below w.heap.size w w' := by
  rw [lm_zero, lm_zero, lm_zero, lm_zero]
  go_enter Tryd.func38, Tryd.ntmps38
  repeat any_goals (first | go_skip | go_guarded | go_step | go_upon | (simp only []; done))
  refine bodyPost_ret (v := .tuple #[.agg #[.int .u64 (0 : Nat), .int .u64 (0 : Nat), .int .u64 (0 : Nat), .int .u64 (0 : Nat)], .bool false]) ?_ rfl ⟨rfl, by (repeat first | with_reducible exact Below.refl _ _ | with_reducible assumption | with_reducible refine Below.drew ?_ | with_reducible refine below_alloc ?_ _ | ((with_reducible refine Below.setCell ?_ ?_ _); rotate_left; (focus (first | with_reducible exact Nat.le_refl _ | (simp; done) | (simp; omega) | omega))) | (with_reducible refine below_trans ?_ (by assumption)))⟩
  simp [results, Tryd.results38, go_sem]
set_option maxRecDepth 20000 in
set_option maxHeartbeats 1600000 in
theorem ParN_walk (s : ByteArray) (w : World) (n : Nat) (hn1 : (n : Int) ≤ 1000000) (R : Nat) (ok : Bool) (HR : Hid (R = pV s.data.toList ∧ ok = pOk s.data.toList)) (hn : (s.size : Int) = n) (hl : s.data.toList.length = n) (he : (s.toList == ([] : List UInt8)) = false) (h1 : n = 1 ∨ 1 < n ∧ ∃ x : Nat, x ≠ 48 ∧ ∀ W, (Instr.index 9 (.string s) (.int .i64 0)).run Tryd.prog W = .ok (.int .u8 (x : Int)) W)
    (hP : s.data.toList.all isDg = true → decN 0 s.data.toList < 2 ^ 256 → pOk s.data.toList = true) :
    Calls Tryd.prog 38 #[.string s] w fun e w' => e = .returned (.tuple #[.agg #[.int .u64 (lm (R) 0 : Nat), .int .u64 (lm (R) 1 : Nat), .int .u64 (lm (R) 2 : Nat), .int .u64 (lm (R) 3 : Nat)], .bool ok]) ∧ Below w.heap.size w w' := by
  have HK := Lib.hid hP
  have HL := Lib.hid hl
  clear hP hl
  go_enter Tryd.func38, Tryd.ntmps38
  go_upto_region 2 with fail
  go_cut [19] (fun s19 wx => s19 = .bool false ∧ ParI w wx 0)
  case first =>
    rcases h1 with rfl | ⟨h1, x, hx, hx0⟩
    · repeat any_goals (first | go_skip | go_guarded | go_step | go_upon | (simp only []; done))
      all_goals (go_meet; case rel => exact ⟨rfl, parI_new⟩)
    · have h1' : (1 : Int) < (n : Int) := by omega
      have hx' : ((x : Int) == 48) = false := by simp; omega
      repeat any_goals (first | go_skip | go_guarded | go_step | go_upon | (simp only []; done))
      all_goals (go_meet; case rel => exact ⟨rfl, parI_new⟩)
  case rest =>
    obtain ⟨rfl, I⟩ := hcut
    have IH := Lib.hid I
    clear I h1
    repeat any_goals (first | go_skip | go_guarded | go_step | go_upon | (simp only []; done))
    go_loopw [23] (fun i wr => ∃ m : Nat, m ≤ n ∧ i = .int .i64 m ∧ (s.data.toList.take m).all isDg = true ∧ decN 0 (s.data.toList.take m) < 2 ^ 256 ∧ ParI w wr (decN 0 (s.data.toList.take m))) (fun i _ => n - (intOf i).toNat)
    case atStart => exact ⟨0, by omega, rfl, rfl, Nat.two_pow_pos _, IH.out⟩
    case round =>
      obtain ⟨m, hm, rfl, hdg, hv, I⟩ := hrel
      obtain ⟨V, hV⟩ : ∃ V, V = decN 0 (s.data.toList.take m) := ⟨_, rfl⟩
      rw [← hV] at I hv
      have VH := Lib.hid (And.intro hV (And.intro hdg hv))
      clear hV hdg hv IH
      obtain ⟨⟨z0, f0⟩, ⟨z1, f1⟩, ⟨z2, f2⟩, ⟨z3, f3⟩⟩ := I.zero
      have IH := Lib.hid I
      by_cases c0 : m < n
      · have hml : m < s.data.toList.length := by rw [HL.out]; exact c0
        have hix := idx_str hml
        obtain ⟨x, hx⟩ : ∃ x, x = s.data.toList[m].toNat := ⟨_, rfl⟩
        have hxl : x < 256 := hx ▸ UInt8.toNat_lt _
        have htk := decN_take _ m hml
        have hta := all_take _ m hml
        rw [← hx] at hix htk
        rw [← VH.out.1] at htk
        rw [VH.out.2.1, Bool.true_and] at hta
        have HT := Lib.hid (And.intro hx (And.intro htk hta))
        clear hx htk hta I
        by_cases hd : 48 ≤ x ∧ x ≤ 57
        · have MH := Lib.hid (fun w => MulN_any V 10 VH.out.2.2 (by decide) w)
          have hd1 : ¬ (x : Int) < 48 := by omega
          have hd2 : ¬ 57 < (x : Int) := by omega
          obtain ⟨⟨y0, g0⟩, ⟨y1, g1⟩, ⟨y2, g2⟩, ⟨y3, g3⟩⟩ := IH.out.num
          by_cases c1 : V * 10 < 2 ^ 256
          · rw [if_pos c1, decide_eq_true c1] at MH
            obtain ⟨U, hU⟩ : ∃ U, U = V * 10 := ⟨_, rfl⟩
            rw [← hU] at MH c1
            obtain ⟨d, hdd⟩ : ∃ d : Nat, d = x - 48 := ⟨_, rfl⟩
            have hdl : d < 2 ^ 64 := by omega
            have hxd : (x : Int) - 48 = (d : Int) := by omega
            have hdi : 0 ≤ (d : Int) := by omega
            have hdi2 : (d : Int) ≤ 9 := by omega
            obtain ⟨N, hN⟩ : ∃ N, N = if U + d < 2 ^ 256 then U + d else 0 := ⟨_, rfl⟩
            obtain ⟨o, ho⟩ : ∃ o, o = decide (U + d < 2 ^ 256) := ⟨_, rfl⟩
            have AH : Hid (∀ w, Calls Tryd.prog 63 #[.agg #[.int .u64 (lm (U) 0 : Nat), .int .u64 (lm (U) 1 : Nat), .int .u64 (lm (U) 2 : Nat), .int .u64 (lm (U) 3 : Nat)], .agg #[.int .u64 (d : Int), .int .u64 0, .int .u64 0, .int .u64 0]] w fun e w' => e = .returned (.tuple #[.agg #[.int .u64 (lm (N) 0 : Nat), .int .u64 (lm (N) 1 : Nat), .int .u64 (lm (N) 2 : Nat), .int .u64 (lm (N) 3 : Nat)], .bool o]) ∧ Below w.heap.size w w') := Lib.hid fun w => by
              have h := Add_any U d c1 (Nat.lt_of_lt_of_le hdl (by decide)) w
              obtain ⟨q0, q1, q2, q3⟩ := lm_of4 (a := d) (b := 0) (c := 0) (d := 0) hdl (by decide) (by decide) (by decide)
              rw [of4_0] at q0 q1 q2 q3
              rw [q0, q1, q2, q3, ← hN, ← ho] at h
              exact h
            have ZH := Lib.hid (And.intro hU (And.intro hdd (And.intro hN ho)))
            clear hU hdd hN ho hdl
            go_upto_region 12 with (go_at_call 62; refine (MH.out _).mono ?_; rintro e w3 ⟨rfl, hb3⟩)
            have J := Lib.hid (IH.out.below hb3)
            have hl3 : w.heap.size < w3.heap.size := Nat.lt_trans (Nat.lt_succ_self _) J.out.l
            go_cut [7] (fun s7 wx => s7 = .bool o ∧ ParI w wx N)
            case first =>
              have B0 := Lib.hid (@parB_new w w3 V U 24 J.out)
              obtain ⟨C, hC⟩ : ∃ C : World → Prop, C = ParB w V w3.heap.size U := ⟨_, rfl⟩
              have HC := Lib.hid hC
              have hne : ∀ p : Prop, (∀ w1 : World, C w1 → p) = p := fun p => propext ⟨fun h => h _ (by rw [hC]; exact B0.out), fun h _ _ => h⟩
              clear hC z0 z1 z2 z3 f0 f1 f2 f3 y0 y1 y2 y3 g0 g1 g2 g3
              refine wp_region_quiet_tail (C := C) 8 3 (by kernel_rfl) (by kernel_rfl) (by rw [HC.out]; exact B0.out.below (Below.refl _ _).drew) ?_
              simp only [List.take_succ_cons, List.take_zero, List.drop_succ_cons, List.drop_zero]
              go_big_quiet_want
              refine ⟨.agg #[.int .u64 (lm (U) 0 : Nat), .int .u64 (lm (U) 1 : Nat), .int .u64 (lm (U) 2 : Nat), .int .u64 (lm (U) 3 : Nat)], fun w1 hw1 => ?_, ?_⟩
              · rw [HC.out] at hw1
                simp [Oper.quietAt, go_sem, hw1.c0, hw1.c1, hw1.c2, hw1.c3]
              try simp only [Act.put, List.setIfInBounds_toArray, List.set_cons_zero, List.set_cons_succ]
              go_big_quiet_on
              iterate 5 (go_big_quiet_want; go_big_quiet_op; go_big_quiet_on)
              go_big_quiet_want
              go_big_quiet_op
              refine ⟨.agg #[.int .u64 (d : Int), .int .u64 0, .int .u64 0, .int .u64 0], fun w1 hw1 => ?_, ?_⟩
              · rw [HC.out] at hw1 ⊢
                refine (Of_any (d : Int) w1).mono ?_
                rintro e w4 ⟨rfl, hb4⟩
                exact ⟨rfl, hw1.below hb4⟩
              go_big_quiet_on
              go_big_quiet_want
              go_big_quiet_op
              refine ⟨.tuple #[.agg #[.int .u64 (lm (N) 0 : Nat), .int .u64 (lm (N) 1 : Nat), .int .u64 (lm (N) 2 : Nat), .int .u64 (lm (N) 3 : Nat)], .bool o], fun w1 hw1 => ?_, ?_⟩
              · rw [HC.out] at hw1 ⊢
                refine (AH.out w1).mono ?_
                rintro e w4 ⟨rfl, hb4⟩
                exact ⟨rfl, hw1.below hb4⟩
              go_big_quiet_on
              refine wpQuiet_nil ?_
              intro w2 hw2
              rw [HC.out] at hw2
              refine ⟨.tuple #[.agg #[.int .u64 (lm (N) 0 : Nat), .int .u64 (lm (N) 1 : Nat), .int .u64 (lm (N) 2 : Nat), .int .u64 (lm (N) 3 : Nat)], .bool o], .inl ⟨rfl, fun _ => ?_⟩, ?_⟩
              · simp [go_sem]
              simp only [Act.put, List.setIfInBounds_toArray, List.set_cons_zero, List.set_cons_succ]
              refine ⟨.agg #[.int .u64 (lm (N) 0 : Nat), .int .u64 (lm (N) 1 : Nat), .int .u64 (lm (N) 2 : Nat), .int .u64 (lm (N) 3 : Nat)], .inl ⟨rfl, fun _ => ?_⟩, ?_⟩
              · simp [go_sem]
              simp only [Act.put, List.setIfInBounds_toArray, List.set_cons_zero, List.set_cons_succ]
              refine ⟨.bool o, .inl ⟨rfl, fun _ => ?_⟩, ?_⟩
              · simp [go_sem]
              simp only [Act.put, List.setIfInBounds_toArray, List.set_cons_zero, List.set_cons_succ]
              refine wpPure_nil ?_
              obtain ⟨⟨y0, g0⟩, ⟨y1, g1⟩, ⟨y2, g2⟩, ⟨y3, g3⟩⟩ := hw2.i.num
              have FS := Lib.hid (hw2.i.set (W := N))
              repeat any_goals (first | go_skip | go_guarded | go_step | go_upon | (simp only []; done))
              refine NoPanic.normal ?_
              repeat any_goals (first | go_skip | go_guarded | go_step | go_upon | (simp only []; done))
              go_meet
              case rel => exact ⟨rfl, FS.out⟩
            case rest =>
              obtain ⟨rfl, J2⟩ := hcut
              clear MH AH J IH z0 z1 z2 z3 f0 f1 f2 f3 y0 y1 y2 y3 g0 g1 g2 g3
              have FS := Lib.hid J2
              clear J2
              obtain ⟨hV, htk, hta⟩ := HT.out
              obtain ⟨hU, hdd, hN, ho⟩ := ZH.out
              by_cases c2 : U + d < 2 ^ 256
              · rw [if_pos c2] at hN
                rw [decide_eq_true c2] at ho
                have htk2 : decN 0 (List.take (m + 1) s.data.toList) = N := by rw [htk, hN, hU, hdd]
                have hta2 : (List.take (m + 1) s.data.toList).all isDg = true := by
                  rw [hta]
                  unfold isDg
                  rw [← hV]
                  exact decide_eq_true hd
                have GH := Lib.hid (And.intro htk2 (And.intro hta2 (hN ▸ c2)))
                clear hV htk hta hU hdd hN c2 htk2 hta2 HT ZH
                subst ho
                repeat any_goals (first | go_skip | go_guarded | go_step | go_upon | (simp only []; done))
                go_roundw
                case rel => exact ⟨m + 1, by omega, by go_num, GH.out.2.1, by rw [GH.out.1]; exact GH.out.2.2, by rw [GH.out.1]; exact FS.out⟩
                case measure => simp [intOf]; omega
              · rw [if_neg c2] at hN
                rw [decide_eq_false c2] at ho
                have hno : pOk s.data.toList = false := pOk_big (m := m + 1) (by rw [htk, ← hU, ← hdd]; exact c2)
                obtain ⟨rfl, rfl⟩ : R = 0 ∧ ok = false := ⟨HR.out.1.trans (pV_no hno), HR.out.2.trans hno⟩
                clear hV htk hta hU hdd hN c2 HT ZH hno
                subst ho
                obtain ⟨⟨z0, f0⟩, ⟨z1, f1⟩, ⟨z2, f2⟩, ⟨z3, f3⟩⟩ := FS.out.zero
                have hW := FS.out.b
                repeat any_goals (first | go_skip | go_guarded | go_step | go_upon | (simp only []; done))
                refine bodyPost_ret (v := .tuple #[.agg #[.int .u64 (lm (0) 0 : Nat), .int .u64 (lm (0) 1 : Nat), .int .u64 (lm (0) 2 : Nat), .int .u64 (lm (0) 3 : Nat)], .bool false]) ?_ rfl ⟨rfl, by (repeat first | with_reducible exact Below.refl _ _ | with_reducible assumption | with_reducible refine Below.drew ?_ | with_reducible refine below_alloc ?_ _ | ((with_reducible refine Below.setCell ?_ ?_ _); rotate_left; (focus (first | with_reducible exact Nat.le_refl _ | (simp; done) | (simp; omega) | omega))) | (with_reducible refine below_trans ?_ (by assumption)))⟩
                simp [results, Tryd.results38, go_sem, lm_zero, z0, z1, z2, z3]
          · rw [if_neg c1, decide_eq_false c1] at MH
            have hno : pOk s.data.toList = false := pOk_big10 hml (by rw [← VH.out.1]; exact c1)
            obtain ⟨rfl, rfl⟩ : R = 0 ∧ ok = false := ⟨HR.out.1.trans (pV_no hno), HR.out.2.trans hno⟩
            clear hno
            repeat any_goals (first | (go_at_call 62; refine (MH.out _).mono ?_; rintro e w3 ⟨rfl, hb3⟩; have J := Lib.hid (IH.out.below hb3); obtain ⟨⟨z0', f0'⟩, ⟨z1', f1'⟩, ⟨z2', f2'⟩, ⟨z3', f3'⟩⟩ := J.out.zero; have hl3 : w.heap.size < w3.heap.size := Nat.lt_trans (Nat.lt_succ_self _) J.out.l; have hW := J.out.b) | go_skip | go_guarded | go_step | go_upon | (dsimp only []))
            refine bodyPost_ret (v := .tuple #[.agg #[.int .u64 (lm (0) 0 : Nat), .int .u64 (lm (0) 1 : Nat), .int .u64 (lm (0) 2 : Nat), .int .u64 (lm (0) 3 : Nat)], .bool false]) ?_ rfl ⟨rfl, by (repeat first | with_reducible exact Below.refl _ _ | with_reducible assumption | with_reducible refine Below.drew ?_ | with_reducible refine below_alloc ?_ _ | ((with_reducible refine Below.setCell ?_ ?_ _); rotate_left; (focus (first | with_reducible exact Nat.le_refl _ | (simp; done) | (simp; omega) | omega))) | (with_reducible refine below_trans ?_ (by assumption)))⟩
            simp [results, Tryd.results38, go_sem, lm_zero, hl3, z0', z1', z2', z3']
        · have hno : pOk s.data.toList = false := pOk_digit hml (by unfold isDg; rw [← HT.out.1]; exact decide_eq_false hd)
          obtain ⟨rfl, rfl⟩ : R = 0 ∧ ok = false := ⟨HR.out.1.trans (pV_no hno), HR.out.2.trans hno⟩
          have hW := IH.out.b
          have hd' : (x : Int) < 48 ∨ 57 < (x : Int) := by omega
          rcases hd' with hd' | hd'
          · repeat any_goals (first | go_skip | go_guarded | go_step | go_upon | (simp only []; done))
            refine bodyPost_ret (v := .tuple #[.agg #[.int .u64 (lm (0) 0 : Nat), .int .u64 (lm (0) 1 : Nat), .int .u64 (lm (0) 2 : Nat), .int .u64 (lm (0) 3 : Nat)], .bool false]) ?_ rfl ⟨rfl, by (repeat first | with_reducible exact Below.refl _ _ | with_reducible assumption | with_reducible refine Below.drew ?_ | with_reducible refine below_alloc ?_ _ | ((with_reducible refine Below.setCell ?_ ?_ _); rotate_left; (focus (first | with_reducible exact Nat.le_refl _ | (simp; done) | (simp; omega) | omega))) | (with_reducible refine below_trans ?_ (by assumption)))⟩
            simp [results, Tryd.results38, go_sem, lm_zero, z0, z1, z2, z3]
          · repeat any_goals (first | go_skip | go_guarded | go_step | go_upon | (simp only []; done))
            refine bodyPost_ret (v := .tuple #[.agg #[.int .u64 (lm (0) 0 : Nat), .int .u64 (lm (0) 1 : Nat), .int .u64 (lm (0) 2 : Nat), .int .u64 (lm (0) 3 : Nat)], .bool false]) ?_ rfl ⟨rfl, by (repeat first | with_reducible exact Below.refl _ _ | with_reducible assumption | with_reducible refine Below.drew ?_ | with_reducible refine below_alloc ?_ _ | ((with_reducible refine Below.setCell ?_ ?_ _); rotate_left; (focus (first | with_reducible exact Nat.le_refl _ | (simp; done) | (simp; omega) | omega))) | (with_reducible refine below_trans ?_ (by assumption)))⟩
            simp [results, Tryd.results38, go_sem, lm_zero, z0, z1, z2, z3]
      · have hmn : m = n := by omega
        subst hmn
        obtain ⟨⟨y0, g0⟩, ⟨y1, g1⟩, ⟨y2, g2⟩, ⟨y3, g3⟩⟩ := I.num
        have htk : s.data.toList.take m = s.data.toList := List.take_of_length_le (by rw [HL.out]; exact Nat.le_refl _)
        obtain ⟨h2, h3, h4⟩ := VH.out
        rw [htk] at h2 h3
        have hyes := HK.out h3 (h2 ▸ h4)
        obtain ⟨rfl, rfl⟩ : R = V ∧ ok = true := ⟨HR.out.1.trans ((pV_yes hyes).trans h2.symm), HR.out.2.trans hyes⟩
        have hW := IH.out.b
        clear htk h2 h3 h4 hyes VH HK HR I
        repeat any_goals (first | go_skip | go_guarded | go_step | go_upon | (simp only []; done))
        refine bodyPost_ret (v := .tuple #[.agg #[.int .u64 (lm (R) 0 : Nat), .int .u64 (lm (R) 1 : Nat), .int .u64 (lm (R) 2 : Nat), .int .u64 (lm (R) 3 : Nat)], .bool true]) ?_ rfl ⟨rfl, by (repeat first | with_reducible exact Below.refl _ _ | with_reducible assumption | with_reducible refine Below.drew ?_ | with_reducible refine below_alloc ?_ _ | ((with_reducible refine Below.setCell ?_ ?_ _); rotate_left; (focus (first | with_reducible exact Nat.le_refl _ | (simp; done) | (simp; omega) | omega))) | (with_reducible refine below_trans ?_ (by assumption)))⟩
        simp [results, Tryd.results38, go_sem, z0, z1, z2, z3]
/-- **Parse**, of a text that is no longer than 1,000,000 bytes. -/
theorem ParN_any (s : ByteArray) (hs : s.size ≤ 1000000) (w : World) :
    Calls Tryd.prog 38 #[.string s] w fun e w' => e = .returned (.tuple #[.agg #[.int .u64 (lm (pV s.data.toList) 0 : Nat), .int .u64 (lm (pV s.data.toList) 1 : Nat), .int .u64 (lm (pV s.data.toList) 2 : Nat), .int .u64 (lm (pV s.data.toList) 3 : Nat)], .bool (pOk s.data.toList)]) ∧ Below w.heap.size w w' := by
  have hl : s.data.toList.length = s.size := Array.length_toList
  by_cases c0 : s.size = 0
  · have he : s.data.toList = [] := List.eq_nil_of_length_eq_zero (by omega)
    have hno : pOk s.data.toList = false := decide_eq_false (by rw [he]; exact fun h => h.1 rfl)
    rw [pV_no hno, hno]
    exact ParN_empty s w (by rw [ByteArray.toList_eq, he]; rfl)
  · have he : (s.toList == ([] : List UInt8)) = false := by
      rw [ByteArray.toList_eq]
      cases h : s.data.toList with
      | nil => rw [h] at hl; exact absurd hl.symm c0
      | cons c l => rfl
    have h0 : 0 < s.data.toList.length := by omega
    have hix := idx_str h0
    have hhd : s.data.toList.head? = some s.data.toList[0] := by rw [List.head?_eq_getElem?, List.getElem?_eq_getElem h0]
    by_cases c1 : 1 < s.size ∧ s.data.toList[0] = 48
    · have hno : pOk s.data.toList = false := decide_eq_false fun h => h.2.1 ⟨by omega, by rw [hhd, c1.2]⟩
      rw [pV_no hno, hno]
      exact ParN_lead s w s.size rfl he (by omega) (fun W => by
        have h := hix W
        rw [c1.2] at h
        exact h)
    · refine ParN_walk s w s.size (by omega) _ _ (Lib.hid ⟨rfl, rfl⟩) rfl hl he ?_ (fun h1 h2 => decide_eq_true ⟨fun h => by rw [h] at hl; exact c0 hl.symm, fun h => c1 ⟨by omega, ?_⟩, h1, h2⟩)
      · by_cases c2 : s.size = 1
        · exact .inl c2
        · refine .inr ⟨by omega, s.data.toList[0].toNat, fun h => c1 ⟨by omega, UInt8.toNat_inj.1 h⟩, hix⟩
      · rw [hhd] at h
        exact Option.some.inj h.2
end Go.Proofs.YtbakgmkkebnhkaaDoor
