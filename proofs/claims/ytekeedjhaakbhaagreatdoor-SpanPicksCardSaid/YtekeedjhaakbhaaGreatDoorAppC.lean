/- append onto a row of the call's own, nil or not, from any source. · slices.Concat of two rows of closed intervals; Either, Or of the program. · Either, Or of the program. -/
import Derived.Test.YtekeedjhaakbhaaGreatDoorApp
import Derived.Test.YtekeedjhaakbhaaGreatDoorJON
import Derived.Test.YtekeedjhaakbhaaGreatDoorGrowL
namespace Go.Proofs.YtekeedjhaakbhaaGreatDoor
open Go Go.RowKit Go.Sort Go.Shelf
section
variable {P : Program} {w : World}
theorem wp_append_any {o : Oper} {a : Act} {K : Act → World → Prop} {Q : Exit → Act → World → Prop} (s x : Operand) (t : TypeId)
    (ho : o.op = .call { callee := .builtin .append, args := #[s, x], argTypes := #[t, t] })
    (base : Nat) (e : TypeId) (i : TypeInfo) (z : Value) (size bytes : Nat) (ht : P.underlying t = some (.slice e)) (hi : P.info? e = some i) (hz : i.zero = some z)
    (hsize : i.size = size) (hby : i.bytes = bytes) (hzs : z.cells.size = size) (hsz : 0 < size)
    (v : Value) (n : Nat) (xs : List Value) (hs : a.eval s = v) (hown : w.ownsRow base e size v n xs)
    (xv : Value) (m : Nat) (news : List Value) (hx : a.eval x = xv) (hsrc : SrcOk w xv m size news)
    (h63 : n + m ≤ maxLen) (hbytes : (n + m) * bytes ≤ 140737488355328) (hbase : base ≤ w.heap.size)
    (h : ∀ v' w', w'.ownsRow base e size v' (n + m) (xs ++ news) → w.grownBy w' v.ownBlock → K (a.put o.dst v') w') : o.wp P a w K Q := by
  rcases hsrc with ⟨ad, c, rfl, hl, hnews, h1⟩ | ⟨c, rfl, rfl, rfl⟩
  · exact wp_append_own w s x t ho base e i z size bytes ht hi hz hsize hby hzs hsz v n xs hs hown ad m c news hx hl hnews h1 h63 hbytes hbase fun v' w' h2 h3 _ => h v' w' h2 h3
  · rcases hown.2 with ⟨rfl, rfl⟩ | ⟨g, c', cur, rfl, hg1, hg2, hc, hrest⟩
    · have hr : (Builtin.append_ #[t, t] o.type #[.slice none 0 0, .slice none 0 c]).run P w = .ok (.slice none 0 0) w := by
        simp [Builtin.append_, run_underlying ht, Go.sizeOf, typeInfo, hi, Builtin.lenOf, Builtin.firstCells]
      unfold Oper.wp execOp
      simp only [ho, resolve, invoke, builtin, Sem.run_bind, Sem.run_pure, Result.andThen_ok, List.map_toArray, List.map_cons, List.map_nil, hs, hx, hr]
      exact h _ w (by simpa using hown) (grownBy_self w _)
    · have hr := run_append_room_src (P := P) w t t o.type e i ht hi g 0 n c' (.slice none 0 c) 0 [] (Src.ofNil w ht c) (by omega) (fun j hj => absurd hj (Nat.not_lt_zero _)) (fun j hj => absurd hj (Nat.not_lt_zero _))
      unfold Oper.wp execOp
      simp only [ho, resolve, invoke, builtin, Sem.run_bind, Sem.run_pure, Result.andThen_ok, List.map_toArray, List.map_cons, List.map_nil, hs, hx, hr]
      exact h _ w (by simpa using hown) (grownBy_self w _)
theorem wpList_append_any {ops : Array Oper} {rest : List Oper} {o : Oper} {a : Act} {Q : Exit → Act → World → Prop} (hgd : o.guard = none) (s x : Operand) (t : TypeId)
    (ho : o.op = .call { callee := .builtin .append, args := #[s, x], argTypes := #[t, t] })
    (base : Nat) (e : TypeId) (i : TypeInfo) (z : Value) (size bytes : Nat) (ht : P.underlying t = some (.slice e)) (hi : P.info? e = some i) (hz : i.zero = some z)
    (hsize : i.size = size) (hby : i.bytes = bytes) (hzs : z.cells.size = size) (hsz : 0 < size)
    (v : Value) (n : Nat) (xs : List Value) (hs : a.eval s = v) (hown : w.ownsRow base e size v n xs)
    (xv : Value) (m : Nat) (news : List Value) (hx : a.eval x = xv) (hsrc : SrcOk w xv m size news)
    (h63 : n + m ≤ maxLen) (hbytes : (n + m) * bytes ≤ 140737488355328) (hbase : base ≤ w.heap.size)
    (h : ∀ v' w', w'.ownsRow base e size v' (n + m) (xs ++ news) → w.grownBy w' v.ownBlock → wpList P ops Q rest (a.put o.dst v') w') : wpList P ops Q (o :: rest) a w :=
  wpList_plain hgd fun _ hK => wp_append_any s x t ho base e i z size bytes ht hi hz hsize hby hzs hsz v n xs hs hown xv m news hx hsrc h63 hbytes hbase fun v' w' h2 h3 => hK _ _ (h v' w' h2 h3)
end
theorem encs_one : ∀ (l : List Cl), ∀ u ∈ encs l, u.oneCell' = true := by
  intro l u hu
  obtain ⟨c, -, hc⟩ := List.mem_flatMap.1 hu
  exact enc_one c u hc
theorem addr0 {g j : Nat} : (⟨g, 0, none⟩ : Addr).add j = ⟨g, j, none⟩ := by
  unfold Addr.add
  split <;> simp_all
theorem own_src {w wr : World} {B e : Nat} {v : Value} {l : List Cl} (h : w.ownsRow B e 10 v l.length (encs l)) (hb : Below w.heap.size w wr) : SrcOk wr v l.length 10 (encs l) := by
  have h' := own_below h hb
  rcases h'.2 with ⟨rfl, h0⟩ | ⟨g, cap, cur, rfl, -⟩
  · have e1 : l = [] := List.length_eq_zero_iff.1 h0
    subst e1
    exact .inr ⟨0, rfl, rfl, rfl⟩
  · refine .inl ⟨_, cap, rfl, encs_len l, fun j u hj => ?_, encs_one l⟩
    have hlt : j < l.length * 10 := by
      rw [← encs_len]
      exact (List.getElem?_eq_some_iff.1 hj).1
    rw [addr0, h'.cellAt j hlt]
    exact hj
set_option maxRecDepth 20000 in
/-- slices.Grow from nil -/
theorem Grow_any (m : Nat) (w : World) (hm : m ≤ 1000000) :
    Calls Tryz.prog 72 #[.slice none 0 0, .int .i64 (m : Nat)] w fun e w' => ∃ v, e = .returned v ∧ w'.ownsRow w.heap.size 51 10 v 0 [] ∧ Below w.heap.size w w' := by
  by_cases h0 : m = 0
  · subst h0
    refine (Any8.slices_Grow_room Tryz.growCl none 0 0 0 w (by omega) (by omega) (by omega) (by omega)).mono ?_
    rintro e w' ⟨rfl, rfl⟩
    exact ⟨_, rfl, World.ownsRow_nil _ _ _ _, Below.refl _ _⟩
  · obtain ⟨i0, hi, hz0, hz1, hz2⟩ := info_parts infoC
    refine (Any8.slices_Grow_grow Tryz.growCl i0 _ hi hz0 (by rw [hz1]; decide) none 0 0 m [] w (by omega) (by omega) (by rw [hz2]; omega) (by omega) (by simp) (fun _ => rfl) (fun a h => by cases h)).mono ?_
    rintro e w' ⟨rfl, rfl⟩
    have hg : 0 + m ≤ grownCap w (0 + m) 0 (Tryz.growCl_ren.t 25) := grownCap_ge w _ _ _
    have hG := grownCap_le_maxLen w (0 + m) 0 (Tryz.growCl_ren.t 25) (by unfold maxLen; omega)
    generalize grownCap w (0 + m) 0 (Tryz.growCl_ren.t 25) = G at hg hG ⊢
    refine ⟨_, rfl, ⟨rfl, .inr ⟨w.heap.size, _, _, rfl, Nat.le_refl _, heap_alloc_new _ _, Nat.zero_le _, hG, ?_, by simp⟩⟩, (Below.refl _ _).drew.alloc (by simp) _⟩
    simp [Builtin.zeroCells, Value.cells]
    omega
end Go.Proofs.YtekeedjhaakbhaaGreatDoor

namespace Go.Proofs.YtekeedjhaakbhaaGreatDoor
open Go.RowKit Go.Sort Go.Shelf
theorem own_shape {w : World} {B e size n : Nat} {v : Value} {xs : List Value} (h : w.ownsRow B e size v n xs) : ∃ a c, v = .slice a n c := by
  rcases h.2 with ⟨rfl, h0⟩ | ⟨g, cap, cur, rfl, -⟩
  · exact ⟨none, 0, by rw [h0]⟩
  · exact ⟨_, _, rfl⟩
theorem encs_two (l m : List Cl) : encs (l ++ m) = encs l ++ encs m := by unfold encs; rw [List.flatMap_append]
/-- what Concat's second loop keeps -/
structure ConI (w wr : World) (v : Value) (ks : List Cl) : Prop where
  o : wr.ownsRow w.heap.size 51 10 v ks.length (encs ks)
  b : Below w.heap.size w wr
theorem ConI.keep {w wr w2 : World} {v v' : Value} {ks l : List Cl} (h : ConI w wr v ks) (h2 : w2.ownsRow w.heap.size 51 10 v' (ks.length + l.length) (encs ks ++ encs l)) (hg : wr.grownBy w2 v.ownBlock) : ConI w w2 v' (ks ++ l) :=
  ⟨by rw [encs_two, List.length_append]; exact h2, h.b.grown hg h.b.size (fun k hk => (h.o.lt _ hk).1)⟩
set_option maxRecDepth 20000 in
set_option maxHeartbeats 1600000 in
theorem Concat_any (B1 B2 g : Nat) (v1 v2 : Value) (l1 l2 : List Cl) (w : World) (h1 : w.ownsRow B1 51 10 v1 l1.length (encs l1)) (h2 : w.ownsRow B2 51 10 v2 l2.length (encs l2))
    (hc0 : w.cell? ⟨g, 0, none⟩ = some v1) (hc1 : w.cell? ⟨g, 1, none⟩ = some v2) (hn1 : l1.length ≤ 400000) (hn2 : l2.length ≤ 400000) :
    Calls Tryz.prog 59 #[.slice (some ⟨g, 0, none⟩) 2 2] w fun e w' => ∃ v, e = .returned v ∧ w'.ownsRow w.heap.size 51 10 v (l1 ++ l2).length (encs (l1 ++ l2)) ∧ Below w.heap.size w w' := by
  obtain ⟨i0, hi, hz0, hz1, hz2⟩ := info_parts infoC
  have H1 := Lib.hid h1
  have H2 := Lib.hid h2
  have hK := Lib.hid (And.intro hc0 hc1)
  obtain ⟨a1, c1, rfl⟩ := own_shape h1
  obtain ⟨a2, c2, rfl⟩ := own_shape h2
  obtain ⟨n1, hl1⟩ : ∃ n, n = l1.length := ⟨_, rfl⟩
  obtain ⟨n2, hl2⟩ : ∃ n, n = l2.length := ⟨_, rfl⟩
  have HL := Lib.hid (And.intro hl1 hl2)
  rw [← hl1] at hn1 hc0
  rw [← hl2] at hn2 hc1
  obtain ⟨N, hN⟩ : ∃ N, N = n1 + n2 := ⟨_, rfl⟩
  have hG := Lib.hid fun wx => Grow_any N wx (by omega)
  have hs1 : (n1 : Int) + (n2 : Int) = (N : Int) := by omega
  have hs5 : wrap64 (N : Int) = (N : Int) := by unfold wrap64; omega
  have hs2 : wrap64 (n1 : Int) = (n1 : Int) := by unfold wrap64; omega
  have hs3 : ¬ ((N : Int) < 0) := by omega
  have hs4 : ¬ ((n1 : Int) < 0) := by omega
  clear h1 h2 hl1 hl2 hN
  go_enter Tryz.func59, Tryz.ntmps59
  repeat any_goals (first | go_skip | go_guarded | go_step | go_upon | (simp only []; done))
  go_loopw [3, 11] (fun s i wr => wr = w ∧ (s = .int .i64 0 ∧ i = .int .i64 0 ∨ s = .int .i64 (n1 : Nat) ∧ i = .int .i64 1 ∨ s = .int .i64 (N : Nat) ∧ i = .int .i64 2)) (fun _ i _ => (2 - intOf i).toNat)
  case atStart => exact ⟨rfl, .inl ⟨rfl, rfl⟩⟩
  case round =>
    obtain ⟨rfl, h⟩ := hrel
    rcases h with ⟨rfl, rfl⟩ | ⟨rfl, rfl⟩ | ⟨rfl, rfl⟩
    · repeat any_goals (first | go_skip | go_guarded | go_step | go_upon | (simp only []; done))
      go_roundw
      case rel => exact ⟨trivial, .inr (.inl ⟨rfl, rfl⟩)⟩
      case measure => simp [intOf]
    · repeat any_goals (first | go_skip | go_guarded | go_step | go_upon | (simp only []; done))
      go_roundw
      case rel => exact ⟨trivial, .inr (.inr ⟨rfl, rfl⟩)⟩
      case measure => simp [intOf]
    · obtain ⟨wr0, hw0⟩ : ∃ w0 : World, w0 = wr := ⟨_, rfl⟩
      subst hw0
      repeat any_goals (first | (go_at_call 72; refine (hG.out _).mono ?_; rintro e w1 ⟨v0, rfl, ho, hb1⟩; dsimp only []) | go_skip | go_guarded | go_step | go_upon | (dsimp only []))
      go_loopw [6, 27] (fun v i wq => ∃ ks : List Cl, (i = .int .i64 0 ∧ ks = [] ∨ i = .int .i64 1 ∧ ks = l1 ∨ i = .int .i64 2 ∧ ks = l1 ++ l2) ∧ ConI wr0 wq v ks) (fun _ i _ => (2 - intOf i).toNat)
      case atStart => exact ⟨[], .inl ⟨rfl, rfl⟩, ⟨ho, hb1⟩⟩
      case round =>
        obtain ⟨ks, hks, I⟩ := hrel
        rcases hks with ⟨rfl, rfl⟩ | ⟨rfl, hks⟩ | ⟨rfl, hks⟩
        · have IH := Lib.hid I
          have d0 := keep_cell I.b hc0
          have hS := own_src H1.out I.b
          rw [← HL.out.1] at hS
          have hSS := Lib.hid hS
          clear I hS
          repeat any_goals (first | (at_builtin; refine wpList_append_any rfl (.tmp 31) (.tmp 32) 49 rfl wr0.heap.size 51 i0 (.agg #[.bool false, .int .u64 0, .int .u64 0, .int .u64 0, .int .u64 0, .bool false, .int .u64 0, .int .u64 0, .int .u64 0, .int .u64 0]) 10 80 Tryz.underlying49 hi hz0 hz1 hz2 rfl (by decide) _ _ _ rfl IH.out.o _ _ _ rfl hSS.out (by simp only [maxLen, List.length_nil]; omega) (by simp only [List.length_nil]; omega) IH.out.b.size ?_; intro v' w5 hown' hgrow) | go_skip | go_guarded | go_step | go_upon | (dsimp only []))
          go_roundw
          case rel => exact ⟨l1, .inr (.inl ⟨rfl, rfl⟩), ConI.keep (ks := []) IH.out (by rw [HL.out.1] at hown'; exact hown') hgrow⟩
          case measure => simp [intOf]
        · rw [hks] at I
          have IH := Lib.hid I
          have d0 := keep_cell I.b hc1
          have hS := own_src H2.out I.b
          rw [← HL.out.2] at hS
          have hSS := Lib.hid hS
          clear I hS
          repeat any_goals (first | (at_builtin; refine wpList_append_any rfl (.tmp 31) (.tmp 32) 49 rfl wr0.heap.size 51 i0 (.agg #[.bool false, .int .u64 0, .int .u64 0, .int .u64 0, .int .u64 0, .bool false, .int .u64 0, .int .u64 0, .int .u64 0, .int .u64 0]) 10 80 Tryz.underlying49 hi hz0 hz1 hz2 rfl (by decide) _ _ _ rfl IH.out.o _ _ _ rfl hSS.out (by have := HL.out.1; simp only [maxLen]; omega) (by have := HL.out.1; omega) IH.out.b.size ?_; intro v' w5 hown' hgrow) | go_skip | go_guarded | go_step | go_upon | (dsimp only []))
          go_roundw
          case rel => exact ⟨l1 ++ l2, .inr (.inr ⟨rfl, rfl⟩), ConI.keep IH.out (by rw [HL.out.2] at hown'; exact hown') hgrow⟩
          case measure => simp [intOf]
        · rw [hks] at I
          have IH := Lib.hid I
          have hW := I.b
          clear I
          repeat any_goals (first | go_skip | go_guarded | go_step | go_upon | (simp only []; done))
          exact bodyPost_ret (v := u6) (by simp [results, Tryz.results59, go_sem]) rfl ⟨_, rfl, IH.out.o, hW⟩
end Go.Proofs.YtekeedjhaakbhaaGreatDoor

namespace Go.Proofs.YtekeedjhaakbhaaGreatDoor
open Go.RowKit Go.Sort Go.Shelf
theorem sortTo2_any (w wr : World) (v : Value) (l : List Cl) (hw : w.heap.size ≤ wr.heap.size) (hl : l.length < 4611686018427387904) (h : wr.ownsRow w.heap.size 51 10 v l.length (encs l)) :
    Calls Tryz.prog 55 #[v, .func (.func 60) #[] #[]] wr fun e w' => e = .returned (.tuple #[]) ∧ SortsTo w wr v l w' := by
  rcases h.2 with ⟨rfl, h0⟩ | ⟨g, cap, cur, rfl, -⟩
  · have e : l = [] := List.length_eq_zero_iff.1 h0
    subst e
    exact (sortNil _ wr).mono fun _ _ ⟨he, hb⟩ => ⟨he, [], List.Perm.refl _, trivial, World.ownsRow_nil _ _ _ _, below_weak hb hw⟩
  · obtain ⟨h1, h2⟩ := holds_own h
    exact (sort2_any g 0 cap l.toArray wr h1 h2 (by rw [List.size_toArray]; exact hl)).mono fun _ _ ⟨he, d', n, os, hp, hs, e⟩ => ⟨he, sorts_of hw h hp hs e⟩
theorem sort_out {P Q : Int → Prop} {M1 M2 : Nat} {w w1 : World} {v : Value} {l1 l2 : List Cl} (p1 : ∀ c ∈ l1.map Cl.iv, c.1 ≤ c.2) (p3 : ∀ z, MemL (l1.map Cl.iv) z ↔ P z) (p4 : l1.length ≤ M1)
    (q1 : ∀ c ∈ l2.map Cl.iv, c.1 ≤ c.2) (q3 : ∀ z, MemL (l2.map Cl.iv) z ↔ Q z) (q4 : l2.length ≤ M2) (hM : M1 + M2 ≤ 1000000)
    (ho : w1.ownsRow w.heap.size 51 10 v (l1 ++ l2).length (encs (l1 ++ l2))) (hb : Below w.heap.size w w1) :
    Calls Tryz.prog 55 #[v, .func (.func 60) #[] #[]] w1 fun e w' => e = .returned (.tuple #[]) ∧ ROut (fun z => P z ∨ Q z) (M1 + M2) w v w' := by
  have hlen : (l1 ++ l2).length ≤ M1 + M2 := by rw [List.length_append]; omega
  refine (sortTo2_any w w1 v (l1 ++ l2) hb.size (by omega) ho).mono ?_
  rintro e w2 ⟨rfl, l', hp, hr, ho', hb'⟩
  have hp' : (l'.map Cl.iv).Perm ((l1 ++ l2).map Cl.iv) := hp.map _
  refine ⟨rfl, l', fun c hc => ?_, hr, fun z => ?_, by rw [hp.length_eq]; exact hlen, by rw [hp.length_eq]; exact ho', hb.trans hb'⟩
  · have h1 := hp'.mem_iff.1 hc
    rw [List.map_append] at h1
    rcases List.mem_append.1 h1 with h2 | h2
    · exact p1 c h2
    · exact q1 c h2
  · rw [MemL_perm hp', List.map_append, MemL_append, p3, q3]
set_option maxRecDepth 20000 in
set_option maxHeartbeats 1600000 in
theorem Either_any (a : Option Addr) (n c : Nat) (S : Nat → Sp) (b : Option Addr) (m d : Nat) (T : Nat → Sp) (w : World) (h1 : SRow w a n c S) (h2 : SRow w b m d T) (hn : n ≤ 400000) (hm : m ≤ 400000) (hM1 : mayR S n = true) (hM2 : mayR T m = true) :
    Calls Tryz.prog 32 #[.slice a n c, .slice b m d] w fun e w' => ∃ v, e = .returned v ∧ SOut (fun z => InS S n z ∨ InS T m z) (n + m) w v w' := by
  have H1 := Lib.hid h1
  have H2 := Lib.hid h2
  have HM := Lib.hid (And.intro hM1 hM2)
  clear h1 h2 hM1 hM2
  go_enter Tryz.func32, Tryz.ntmps32
  repeat any_goals (first | (go_at_call 25; with_reducible refine (close_out a n c S w _ (H1.out.below (by (repeat first | with_reducible exact Below.refl _ _ | with_reducible assumption | with_reducible refine Below.drew ?_ | with_reducible refine below_alloc ?_ _ | ((with_reducible refine Below.setCell ?_ ?_ _); rotate_left; (focus (first | with_reducible exact Nat.le_refl _ | (simp; done) | (simp; omega) | omega))) | (with_reducible refine below_trans ?_ (by assumption))))) (by omega) HM.out.1 (by (repeat first | with_reducible exact Below.refl _ _ | with_reducible assumption | with_reducible refine Below.drew ?_ | with_reducible refine below_alloc ?_ _ | ((with_reducible refine Below.setCell ?_ ?_ _); rotate_left; (focus (first | with_reducible exact Nat.le_refl _ | (simp; done) | (simp; omega) | omega))) | (with_reducible refine below_trans ?_ (by assumption))))).mono ?_; rintro e w1 ⟨v1, rfl, h1⟩; dsimp only []) | go_skip | go_guarded | go_step | go_upon | (dsimp only []))
  obtain ⟨l1, p1, p2, p3, p4, p5, p6⟩ := h1
  obtain ⟨a1, c1, rfl⟩ := own_shape p5
  with_reducible refine (close_out b m d T w1 _ (H2.out.below p6) (by omega) HM.out.2 (Below.refl _ _)).mono ?_
  rintro e w2 ⟨v2, rfl, h2⟩
  obtain ⟨l2, q1, q2, q3, q4, q5, q6⟩ := h2
  obtain ⟨a2, c2, rfl⟩ := own_shape q5
  dsimp only []
  have K1 := Lib.hid p5
  have K2 := Lib.hid q5
  have B2 : Below w.heap.size w w2 := p6.trans (below_weak q6 p6.size)
  repeat any_goals (first | go_skip | go_guarded | go_step | go_upon | (simp only []; done))
  refine (Concat_any w.heap.size w1.heap.size w2.heap.size _ _ l1 l2 _ ((own_below K1.out q6).alloc _) (K2.out.alloc _) (by simp [go_sem]) (by simp [go_sem]) (by omega) (by omega)).mono ?_
  rintro e w3 ⟨v3, rfl, h3, h4⟩
  dsimp only []
  have B3 : Below w.heap.size w w3 := B2.trans (below_weak (below_trans (by (repeat first | with_reducible exact Below.refl _ _ | with_reducible assumption | with_reducible refine Below.drew ?_ | with_reducible refine below_alloc ?_ _ | ((with_reducible refine Below.setCell ?_ ?_ _); rotate_left; (focus (first | with_reducible exact Nat.le_refl _ | (simp; done) | (simp; omega) | omega))) | (with_reducible refine below_trans ?_ (by assumption)))) h4) B2.size)
  have K3 := Lib.hid (h3.mono (base' := w.heap.size) (by have := B2.size; simp; omega))
  repeat any_goals (first | go_skip | go_guarded | go_step | go_upon | (simp only []; done))
  refine (sort_out p1 p3 p4 q1 q3 q4 (by omega) K3.out B3).mono ?_
  rintro e w4 ⟨rfl, h5⟩
  dsimp only []
  repeat any_goals (first | go_skip | go_guarded | go_step | go_upon | (simp only []; done))
  obtain ⟨l5, r1, r2, r3, r4, r5, r6⟩ := h5
  refine (join_out r1 r2 r3 r4 (by omega) _ r5 r6).mono ?_
  rintro e w5 ⟨v5, rfl, h6⟩
  dsimp only []
  repeat any_goals (first | go_skip | go_guarded | go_step | go_upon | (simp only []; done))
  obtain ⟨l6, s1, s2, s3, s4⟩ := h6
  refine (open_out s1 s2 (by omega) _ s3 s4).mono ?_
  rintro e w6 ⟨v6, rfl, h7⟩
  dsimp only []
  repeat any_goals (first | go_skip | go_guarded | go_step | go_upon | (simp only []; done))
  exact bodyPost_ret (v := v6) (by simp [results, Tryz.results32, go_sem]) rfl ⟨_, rfl, h7⟩
set_option maxRecDepth 20000 in
set_option maxHeartbeats 1600000 in
/-- **Or.** -/
theorem Or_any (a : Option Addr) (n c : Nat) (S : Nat → Sp) (b : Option Addr) (m d : Nat) (T : Nat → Sp) (w : World) (h1 : SRow w a n c S) (h2 : SRow w b m d T) (hn : n ≤ 400000) (hm : m ≤ 400000) :
    Calls Tryz.prog 12 #[.slice a n c, .slice b m d] w fun e w' => ∃ v, e = .returned v ∧ SOut (fun z => mayR S n = true ∧ mayR T m = true ∧ (InS S n z ∨ InS T m z)) (n + m) w v w' := by
  have H1 := Lib.hid h1
  have H2 := Lib.hid h2
  obtain ⟨R1, hR1⟩ : ∃ R, R = mayR S n := ⟨_, rfl⟩
  obtain ⟨R2, hR2⟩ : ∃ R, R = mayR T m := ⟨_, rfl⟩
  have M1 := Lib.hid fun wx (hx : SRow wx a n c S) => PMayS_any a n c S wx hx
  have M2 := Lib.hid fun wx (hx : SRow wx b m d T) => PMayS_any b m d T wx hx
  rw [← hR1] at M1
  rw [← hR2] at M2
  have HR := Lib.hid (And.intro hR1 hR2)
  clear h1 h2 hR1 hR2
  go_enter Tryz.func12, Tryz.ntmps12
  cases R1 with
  | false =>
    repeat any_goals (first | (go_at_call 16; with_reducible refine (M1.out _ H1.out).mono ?_; rintro e w1 ⟨rfl, hb1⟩) | go_skip | go_guarded | go_step | go_upon | (dsimp only []))
    exact bodyPost_ret (v := .slice none 0 0) (by simp [results, Tryz.results12, go_sem]) rfl ⟨_, rfl, [], SetF.nil (fun z hz => by rw [← HR.out.1] at hz; cases hz.1), Nat.zero_le _, World.ownsRow_nil _ _ _ _, by (repeat first | with_reducible exact Below.refl _ _ | with_reducible assumption | with_reducible refine Below.drew ?_ | with_reducible refine below_alloc ?_ _ | ((with_reducible refine Below.setCell ?_ ?_ _); rotate_left; (focus (first | with_reducible exact Nat.le_refl _ | (simp; done) | (simp; omega) | omega))) | (with_reducible refine below_trans ?_ (by assumption)))⟩
  | true =>
    cases R2 with
    | false =>
      repeat any_goals (first | (go_at_call 16; with_reducible refine (M1.out _ H1.out).mono ?_; rintro e w1 ⟨rfl, hb1⟩) | (go_at_call 16; with_reducible refine (M2.out _ (H2.out.below hb1)).mono ?_; rintro e w2 ⟨rfl, hb2⟩) | go_skip | go_guarded | go_step | go_upon | (dsimp only []))
      exact bodyPost_ret (v := .slice none 0 0) (by simp [results, Tryz.results12, go_sem]) rfl ⟨_, rfl, [], SetF.nil (fun z hz => by rw [← HR.out.2] at hz; cases hz.2.1), Nat.zero_le _, World.ownsRow_nil _ _ _ _, by (repeat first | with_reducible exact Below.refl _ _ | with_reducible assumption | with_reducible refine Below.drew ?_ | with_reducible refine below_alloc ?_ _ | ((with_reducible refine Below.setCell ?_ ?_ _); rotate_left; (focus (first | with_reducible exact Nat.le_refl _ | (simp; done) | (simp; omega) | omega))) | (with_reducible refine below_trans ?_ (by assumption)))⟩
    | true =>
      repeat any_goals (first | (go_at_call 16; with_reducible refine (M1.out _ H1.out).mono ?_; rintro e w1 ⟨rfl, hb1⟩) | (go_at_call 16; with_reducible refine (M2.out _ (H2.out.below hb1)).mono ?_; rintro e w2 ⟨rfl, hb2⟩) | (go_at_call 32; have hb3 : Below w.heap.size w w2 := hb1.trans (below_weak hb2 hb1.size); with_reducible refine (Either_any a n c S b m d T w2 (H1.out.below hb3) (H2.out.below hb3) hn hm HR.out.1.symm HR.out.2.symm).mono ?_; rintro e w3 ⟨v3, rfl, h3⟩; dsimp only []) | go_skip | go_guarded | go_step | go_upon | (dsimp only []))
      exact bodyPost_ret (v := v3) (by simp [results, Tryz.results12, go_sem]) rfl ⟨_, rfl, by
        obtain ⟨l4, s1, s2, s3, s4⟩ := h3
        have hs := hb3.size
        exact ⟨l4, s1.congr (fun z => ⟨fun hz => ⟨HR.out.1.symm, HR.out.2.symm, hz⟩, fun hz => hz.2.2⟩), s2, s3.mono hs, hb3.trans (below_weak s4 hs)⟩⟩
end Go.Proofs.YtekeedjhaakbhaaGreatDoor
