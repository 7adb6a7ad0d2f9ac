/- Or of the document. · Not of the document. · And of the document. -/
import Derived.Test.YtekeedjhaakbhaaDoorRNm9
import Derived.Test.YtekeedjhaakbhaaDoorRows9
import Derived.Test.YtekeedjhaakbhaaDoorOth9
namespace Go.Proofs.YtekeedjhaakbhaaDoor
open Go Go.RowKit
theorem src_any {W : World} {B T n : Nat} {v : Value} {xs : List Value} (h : W.ownsRow B T 12 v n xs) (h1 : ∀ u ∈ xs, u.oneCell' = true) : SrcOk W v n 12 xs := by
  by_cases h0 : 0 < n
  · exact src_row h h1 h0
  · obtain rfl : n = 0 := by omega
    have hx : xs = [] := List.length_eq_zero_iff.1 (by have := h.1; omega)
    subst hx
    obtain ⟨a, c, rfl⟩ := own_shape h
    exact src_zero a c
theorem form_grown2 {w w1 w2 wo : World} {B T n : Nat} {v : Value} {xs : List Value} (hB : w.heap.size ≤ B) (h1 : Below w.heap.size w w1) (hg : w1.grownBy w2 v.ownBlock) (ho : wo.ownsRow B T 12 v n xs) : Below w.heap.size w w2 :=
  h1.grown hg h1.size (fun k hk => by have := (ho.lt k hk).1; omega)
theorem or_two {l m : List Cl} {z : Int} : InS (nthS (l.map opS ++ m.map opS)) (l.map opS ++ m.map opS).length z ↔ MemL (l.map Cl.iv) z ∨ MemL (m.map Cl.iv) z := by
  rw [← List.map_append, List.length_map, InS_nth, List.map_append, MemL_append]
set_option maxRecDepth 20000 in
set_option maxHeartbeats 1600000 in
/-- **Or** of the document. -/
theorem ROr_any (a : Option Addr) (n c : Nat) (S : Nat → Sp) (b : Option Addr) (m d : Nat) (T : Nat → Sp) (w : World) (h1 : SRow w a n c S) (h2 : SRow w b m d T) (hn : n ≤ 400) (hm : m ≤ 400) :
    Calls Tryd.prog 23 #[.slice a n c, .slice b m d] w fun e w' => ∃ v, e = .returned v ∧ SOut (fun z => mayR S n = true ∧ mayR T m = true ∧ (InS S n z ∨ InS T m z)) (n + m) w v w' := by
  have H1 := Lib.hid h1
  have H2 := Lib.hid h2
  obtain ⟨R1, hR1⟩ : ∃ R, R = mayR S n := ⟨_, rfl⟩
  obtain ⟨R2, hR2⟩ : ∃ R, R = mayR T m := ⟨_, rfl⟩
  have M1 := Lib.hid fun wx (hx : SRow wx a n c S) => RMayS_any a n c S wx hx
  have M2 := Lib.hid fun wx (hx : SRow wx b m d T) => RMayS_any b m d T wx hx
  rw [← hR1] at M1
  rw [← hR2] at M2
  have HR := Lib.hid (And.intro hR1 hR2)
  obtain ⟨i0, hi, hz0, hz1, hz2⟩ := info_parts infoS
  clear h1 h2 hR1 hR2
  go_enter Tryd.func23, Tryd.ntmps23
  cases R1 with
  | false =>
    repeat any_goals (first | (go_at_call 9; with_reducible refine (M1.out _ H1.out).mono ?_; rintro e w1 ⟨rfl, hb1⟩) | go_skip | go_guarded | go_step | go_upon | (dsimp only []))
    exact bodyPost_ret (v := .slice none 0 0) (by simp [results, Tryd.results23, go_sem]) rfl ⟨_, rfl, [], SetF.nil (fun z hz => by rw [← HR.out.1] at hz; cases hz.1), Nat.zero_le _, World.ownsRow_nil _ _ _ _, by (repeat first | with_reducible exact Below.refl _ _ | with_reducible assumption | with_reducible refine Below.drew ?_ | with_reducible refine below_alloc ?_ _ | ((with_reducible refine Below.setCell ?_ ?_ _); rotate_left; (focus (first | with_reducible exact Nat.le_refl _ | (simp; done) | (simp; omega) | omega))) | (with_reducible refine below_trans ?_ (by assumption)))⟩
  | true =>
    cases R2 with
    | false =>
      repeat any_goals (first | (go_at_call 9; with_reducible refine (M1.out _ H1.out).mono ?_; rintro e w1 ⟨rfl, hb1⟩) | (go_at_call 9; with_reducible refine (M2.out _ (H2.out.below hb1)).mono ?_; rintro e w2 ⟨rfl, hb2⟩) | go_skip | go_guarded | go_step | go_upon | (dsimp only []))
      exact bodyPost_ret (v := .slice none 0 0) (by simp [results, Tryd.results23, go_sem]) rfl ⟨_, rfl, [], SetF.nil (fun z hz => by rw [← HR.out.2] at hz; cases hz.2.1), Nat.zero_le _, World.ownsRow_nil _ _ _ _, by (repeat first | with_reducible exact Below.refl _ _ | with_reducible assumption | with_reducible refine Below.drew ?_ | with_reducible refine below_alloc ?_ _ | ((with_reducible refine Below.setCell ?_ ?_ _); rotate_left; (focus (first | with_reducible exact Nat.le_refl _ | (simp; done) | (simp; omega) | omega))) | (with_reducible refine below_trans ?_ (by assumption)))⟩
    | true =>
      repeat any_goals (first | (go_at_call 9; with_reducible refine (M1.out _ H1.out).mono ?_; rintro e w1 ⟨rfl, hb1⟩) | (go_at_call 9; with_reducible refine (M2.out _ (H2.out.below hb1)).mono ?_; rintro e w2 ⟨rfl, hb2⟩) | go_skip | go_guarded | go_step | go_upon | (dsimp only []))
      have hb3 : Below w.heap.size w w2 := hb1.trans (below_weak hb2 hb1.size)
      clear hb1 hb2
      refine (RNorm_any a n c S _ (H1.out.below (by (repeat first | with_reducible exact Below.refl _ _ | with_reducible assumption | with_reducible refine Below.drew ?_ | with_reducible refine below_alloc ?_ _ | ((with_reducible refine Below.setCell ?_ ?_ _); rotate_left; (focus (first | with_reducible exact Nat.le_refl _ | (simp; done) | (simp; omega) | omega))) | (with_reducible refine below_trans ?_ (by assumption))))) (by omega)).mono ?_
      rintro e w3 ⟨v3, rfl, h3⟩
      obtain ⟨l3, f3, le3, o3, b3⟩ := h3
      obtain ⟨a3, c3, rfl⟩ := own_shape o3
      dsimp only []
      have hb4 : Below w.heap.size w w3 := below_trans (below_alloc hb3 _) b3
      have K0 := Lib.hid (own_below (row_e (base := w2.heap.size) (W := w2) (Nat.le_refl _)) b3)
      have S3 := Lib.hid (src_any o3 (encS_one _))
      have hs3 : w2.heap.size ≤ w3.heap.size := by have := b3.size; simp at this; omega
      have F3 := Lib.hid f3
      obtain ⟨n3, hn3⟩ : ∃ n3, n3 = l3.length := ⟨_, rfl⟩
      rw [← hn3] at S3 le3 ⊢
      clear o3 f3
      repeat any_goals (first | (at_builtin; refine wpList_append_any rfl (.tmp 13) (.tmp 15) 22 rfl w2.heap.size 33 i0 (.agg #[.bool false, .bool false, .bool false, .int .u64 0, .int .u64 0, .int .u64 0, .int .u64 0, .bool false, .int .u64 0, .int .u64 0, .int .u64 0, .int .u64 0]) 12 88 Tryd.underlying22 hi hz0 hz1 hz2 rfl (by decide) _ 0 [] rfl K0.out _ n3 (encS (l3.map opS)) rfl S3.out (by unfold maxLen; omega) (by omega) hs3 ?_; intro v4 w4 hown4 hg4) | go_skip | go_guarded | go_step | go_upon | (dsimp only []))
      have hb5 : Below w.heap.size w w4 := form_grown2 hb3.size hb4 hg4 K0.out
      refine (RNorm_any b m d T _ (H2.out.below (by (repeat first | with_reducible exact Below.refl _ _ | with_reducible assumption | with_reducible refine Below.drew ?_ | with_reducible refine below_alloc ?_ _ | ((with_reducible refine Below.setCell ?_ ?_ _); rotate_left; (focus (first | with_reducible exact Nat.le_refl _ | (simp; done) | (simp; omega) | omega))) | (with_reducible refine below_trans ?_ (by assumption))))) (by omega)).mono ?_
      rintro e w5 ⟨v5, rfl, h5⟩
      obtain ⟨l5, f5, le5, o5, b5⟩ := h5
      obtain ⟨a5, c5, rfl⟩ := own_shape o5
      dsimp only []
      have hb6 : Below w.heap.size w w5 := hb5.trans (below_weak b5 hb5.size)
      have K4 := Lib.hid (own_below hown4 b5)
      have S5 := Lib.hid (src_any o5 (encS_one _))
      have hs5 : w2.heap.size ≤ w5.heap.size := by have := b5.size; have := hg4.size; omega
      have F5 := Lib.hid f5
      obtain ⟨n5, hn5⟩ : ∃ n5, n5 = l5.length := ⟨_, rfl⟩
      rw [← hn5] at S5 le5 ⊢
      clear o5 f5
      repeat any_goals (first | (at_builtin; refine wpList_append_any rfl (.tmp 16) (.tmp 18) 22 rfl w2.heap.size 33 i0 (.agg #[.bool false, .bool false, .bool false, .int .u64 0, .int .u64 0, .int .u64 0, .int .u64 0, .bool false, .int .u64 0, .int .u64 0, .int .u64 0, .int .u64 0]) 12 88 Tryd.underlying22 hi hz0 hz1 hz2 rfl (by decide) _ (0 + n3) ([] ++ encS (l3.map opS)) rfl K4.out _ n5 (encS (l5.map opS)) rfl S5.out (by unfold maxLen; omega) (by omega) hs5 ?_; intro v6 w6 hown6 hg6) | go_skip | go_guarded | go_step | go_upon | (dsimp only []))
      have hb7 : Below w.heap.size w w6 := form_grown2 hb3.size hb6 hg6 K4.out
      have hL : (l3.map opS ++ l5.map opS).length = 0 + n3 + n5 := by rw [List.length_append, List.length_map, List.length_map, hn3, hn5]; omega
      have O6 : w6.ownsRow w2.heap.size 33 12 v6 (l3.map opS ++ l5.map opS).length (encS (l3.map opS ++ l5.map opS)) := by
        rw [hL, encS_app]
        exact hown6
      obtain ⟨a6, c6, rfl, r6⟩ := own_row O6 (fun s hs => by
        rw [← List.map_append] at hs
        obtain ⟨x, -, rfl⟩ := List.mem_map.1 hs
        exact opS_lt x)
      have MY : mayR (nthS (l3.map opS ++ l5.map opS)) (l3.map opS ++ l5.map opS).length = true := by
        rw [← List.map_append, List.length_map]
        exact mayR_row (by rw [List.length_append]; omega)
      refine (RNorm_any a6 _ c6 _ w6 r6 (by rw [hL]; omega)).mono ?_
      rintro e w7 ⟨v7, rfl, h7⟩
      obtain ⟨l7, f7, le7, o7, b7⟩ := h7
      dsimp only []
      have hs7 := hb7.size
      have HF := Lib.hid (SetF.congr f7 (Q := fun z => mayR S n = true ∧ mayR T m = true ∧ (InS S n z ∨ InS T m z)) (fun z => by
        rw [or_two, F3.out.mem, F5.out.mem]
        exact ⟨fun hz => ⟨HR.out.1.symm, HR.out.2.symm, hz.2.elim (fun x => .inl x.2) (fun x => .inr x.2)⟩, fun hz => ⟨MY, hz.2.2.elim (fun x => .inl ⟨hz.1, x⟩) (fun x => .inr ⟨hz.2.1, x⟩)⟩⟩))
      have hb8 : Below w.heap.size w w7 := hb7.trans (below_weak b7 hs7)
      have O7 := Lib.hid (o7.mono hs7)
      have le8 : l7.length ≤ n + m := by rw [hL] at le7; omega
      clear O6 MY r6 o7 f7 b7
      repeat any_goals (first | go_skip | go_guarded | go_step | go_upon | (simp only []; done))
      exact bodyPost_ret (v := v7) (by simp [results, Tryd.results23, go_sem]) rfl ⟨_, rfl, l7, HF.out, le8, O7.out, hb8⟩
end Go.Proofs.YtekeedjhaakbhaaDoor

namespace Go.Proofs.YtekeedjhaakbhaaDoor
open Go Go.RowKit
/-- what the loop of Not keeps: w1 the world ahead of it, E the block of 'at' -/
structure NoI (w1 wr : World) (E : Nat) (v : Value) (ks : List Cl) (an : Bool) (av : Nat) : Prop where
  o : wr.ownsRow w1.heap.size 33 12 v ks.length (encS (ks.map opS))
  g : w1.grownBy wr (some E)
  a : IBoxF wr E an av
  l : E < w1.heap.size
theorem NoI.drop {w1 wr wx : World} {E av : Nat} {an : Bool} {v : Value} {ks : List Cl} (h : NoI w1 wr E v ks an av) (hb : Below wr.heap.size wr wx) : NoI w1 wx E v ks an av :=
  ⟨own_below h.o hb, gb_below h.g hb, h.a.below hb, h.l⟩
theorem NoI.keep {w1 wr wx w2 : World} {E m av : Nat} {an : Bool} {v v' : Value} {ks : List Cl} {x : Cl} (h : NoI w1 wr E v ks an av) (hb : Below wr.heap.size wr wx) (hm : m = ks.length + 1)
    (h2 : w2.ownsRow w1.heap.size 33 12 v' m (encS (ks.map opS) ++ (opS x).cells)) (hg : wx.grownBy w2 v.ownBlock) : NoI w1 w2 E v' (ks ++ [x]) an av := by
  subst hm
  have h' := h.drop hb
  have hv : ∀ k, v.ownBlock = some k → w1.heap.size ≤ k := fun k hk => (h.o.lt k hk).1
  refine ⟨?_, gb_own h'.g hg hv, iboxF_grown h'.a hg (fun e => ?_), h.l⟩
  · rw [List.length_append, List.map_append, List.map_singleton, encS_snoc]
    exact h2
  · have := hv E e.symm
    have := h.l
    omega
theorem NoI.put {w1 wr : World} {E V av : Nat} {m an : Bool} {v : Value} {ks : List Cl} (h : NoI w1 wr E v ks an av) :
    NoI w1 (((((wr.setCell ⟨E, 0, none⟩ (.bool m)).setCell ⟨E, 1, none⟩ (.int .u64 (lm V 0 : Nat))).setCell ⟨E, 2, none⟩ (.int .u64 (lm V 1 : Nat))).setCell ⟨E, 3, none⟩ (.int .u64 (lm V 2 : Nat))).setCell ⟨E, 4, none⟩ (.int .u64 (lm V 3 : Nat))) E v ks m V := by
  have hl := h.l
  have hs : ∀ {w2 : World} {j : Nat} {u : Value}, w2.ownsRow w1.heap.size 33 12 v ks.length (encS (ks.map opS)) → (w2.setCell ⟨E, j, none⟩ u).ownsRow w1.heap.size 33 12 v ks.length (encS (ks.map opS)) :=
    fun h2 => ownsRow_setCell_below h2 (show E < w1.heap.size by omega) _
  exact ⟨hs (hs (hs (hs (hs h.o)))), gb_set (gb_set (gb_set (gb_set (gb_set h.g)))), h.a.set, hl⟩
theorem ibox_grown {w1 w2 : World} {B V : Nat} {n : Bool} {row : Option Nat} (h : IBox w1 B n V) (hg : w1.grownBy w2 row) (hne : some B ≠ row) : IBox w2 B n V :=
  ⟨hg.cell h.c0 hne, hg.cell h.c1 hne, hg.cell h.c2 hne, hg.cell h.c3 hne, hg.cell h.c4 hne, Nat.lt_of_lt_of_le h.l hg.size⟩
theorem own_ne {w : World} {B E T n : Nat} {v : Value} {xs : List Value} (h : w.ownsRow B T 12 v n xs) (hB : E < B) : v.ownBlock = none ∨ v.ownBlock ≠ some E := by
  by_cases c : v.ownBlock = none
  · exact .inl c
  · refine .inr fun e => ?_
    have := (h.lt E e).1
    omega
/-- an element of an answer in its one form -/
theorem op_lit {w : World} {B i : Nat} {v : Value} {l : List Cl} {x : Cl} (h : w.ownsRow B 33 12 v l.length (encS (l.map opS))) (hx : l[i]? = some x) :
    ∃ (g cap : Nat) (hl hh nl : Bool) (vl : Nat) (nh : Bool) (vh : Nat), v = .slice (some ⟨g, 0, none⟩) l.length cap ∧ g < w.heap.size ∧ B ≤ g ∧ opS x = ⟨hl, hh, nl, vl, nh, vh⟩ ∧
      R12 w g (i * 12) (.bool hl) (.bool hh) (.bool nl) (.int .u64 (lm vl 0 : Nat)) (.int .u64 (lm vl 1 : Nat)) (.int .u64 (lm vl 2 : Nat)) (.int .u64 (lm vl 3 : Nat)) (.bool nh) (.int .u64 (lm vh 0 : Nat)) (.int .u64 (lm vh 1 : Nat)) (.int .u64 (lm vh 2 : Nat)) (.int .u64 (lm vh 3 : Nat)) := by
  have hi := (List.getElem?_eq_some_iff.1 hx).1
  rcases h.2 with ⟨-, h0⟩ | ⟨g, cap, cur, rfl, hB, hg, hc, hm, -⟩
  · omega
  · have hn : nthS (l.map opS) i = opS x := by
      unfold nthS
      rw [List.getD_eq_getElem?_getD, List.getElem?_map, hx]
      rfl
    have hw : ∀ j, j < 12 → w.cell? ⟨g, i * 12 + j, none⟩ = (opS x).cells[j]? := fun j hj => by
      rw [h.cellAt (i * 12 + j) (by omega), encS_get _ i j (by rw [List.length_map]; exact hi) hj, hn]
    exact ⟨g, cap, _, _, _, _, _, _, rfl, (Array.getElem?_eq_some_iff.1 hg).1, hB, rfl, ⟨⟨hw 0 (by omega), hw 1 (by omega), hw 2 (by omega), hw 3 (by omega), hw 4 (by omega), hw 5 (by omega), hw 6 (by omega), hw 7 (by omega), hw 8 (by omega), hw 9 (by omega), hw 10 (by omega), hw 11 (by omega)⟩⟩⟩
/-- ends of it -/
theorem op_ends {x : Cl} {hl hh nl nh : Bool} {vl vh : Nat} (hs : opS x = ⟨hl, hh, nl, vl, nh, vh⟩) : eln hl nl = sg x.lo ∧ elv hl vl = ab x.lo ∧ ehn hh nh = sg x.hi ∧ elv hh vh = ab x.hi := by
  have hm := ends_may (opS_may x)
  have hiv := ends_iv (opS x)
  rw [opS_iv] at hiv
  rw [hs] at hm hiv
  simp only [Cl.iv] at hm hiv
  exact ⟨by rw [← hiv.1, sg_zI hm.1], by rw [← hiv.1, ab_zI], by rw [← hiv.2, sg_zI hm.2], by rw [← hiv.2, ab_zI]⟩
theorem oth_bw2 {w w3 wr : World} {E : Nat} (hb : Below w.heap.size w w3) (h1 : w.heap.size ≤ E) (h2 : E < w3.heap.size) (hg : w3.grownBy wr (some E)) : Below w.heap.size w wr :=
  hb.grown hg (by omega) (fun k hk => by cases hk; exact h1)
set_option maxRecDepth 20000 in
set_option maxHeartbeats 8000000 in
/-- **Not** of the document. -/
theorem RNot_any (a : Option Addr) (n0 c : Nat) (S : Nat → Sp) (w : World) (h : SRow w a n0 c S) (hn0 : n0 ≤ 400) :
    Calls Tryd.prog 21 #[.slice a n0 c] w fun e w' => ∃ v, e = .returned v ∧ SOut (fun z => mayR S n0 = true ∧ inR z ∧ ¬ InS S n0 z) (n0 + 1) w v w' := by
  have H := Lib.hid h
  obtain ⟨R, hR⟩ : ∃ R, R = mayR S n0 := ⟨_, rfl⟩
  have M := Lib.hid fun wx (hx : SRow wx a n0 c S) => RMayS_any a n0 c S wx hx
  rw [← hR] at M
  have HR := Lib.hid hR
  obtain ⟨i0, hi, hz0, hz1, hz2⟩ := info_parts infoS
  have CT := Lib.hid fun wx => REnd_any true wx
  have CF := Lib.hid fun wx => REnd_any false wx
  clear h hR
  go_enter Tryd.func21, Tryd.ntmps21
  cases R with
  | false =>
    repeat any_goals (first | (go_at_call 9; with_reducible refine (M.out _ H.out).mono ?_; rintro e w1 ⟨rfl, hb1⟩) | go_skip | go_guarded | go_step | go_upon | (dsimp only []))
    exact bodyPost_ret (v := .slice none 0 0) (by simp [results, Tryd.results21, go_sem]) rfl ⟨_, rfl, [], SetF.nil (fun z hz => by rw [← HR.out] at hz; cases hz.1), Nat.zero_le _, World.ownsRow_nil _ _ _ _, by (repeat first | with_reducible exact Below.refl _ _ | with_reducible assumption | with_reducible refine Below.drew ?_ | with_reducible refine below_alloc ?_ _ | ((with_reducible refine Below.setCell ?_ ?_ _); rotate_left; (focus (first | with_reducible exact Nat.le_refl _ | (simp; done) | (simp; omega) | omega))) | (with_reducible refine below_trans ?_ (by assumption)))⟩
  | true =>
    repeat any_goals (first | (go_at_call 9; with_reducible refine (M.out _ H.out).mono ?_; rintro e w1 ⟨rfl, hb1⟩) | (go_at_call 47; with_reducible refine (CT.out _).mono ?_; rintro e w2 ⟨rfl, hb2⟩) | go_skip | go_guarded | go_step | go_upon | (dsimp only []))
    have hb3 : Below w.heap.size w w2 := hb1.trans (below_weak hb2 hb1.size)
    have FE := Lib.hid (@iboxF_new w2 true topN 31)
    have HB := Lib.hid (show Below w.heap.size w (w2.alloc (.cells #[.bool true, .int .u64 (lm topN 0 : Nat), .int .u64 (lm topN 1 : Nat), .int .u64 (lm topN 2 : Nat), .int .u64 (lm topN 3 : Nat)] 31)) from below_alloc hb3 _)
    have hE2 := Lib.hid (show w2.heap.size + 1 = (w2.alloc (.cells #[.bool true, .int .u64 (lm topN 0 : Nat), .int .u64 (lm topN 1 : Nat), .int .u64 (lm topN 2 : Nat), .int .u64 (lm topN 3 : Nat)] 31)).heap.size from by simp)
    generalize w2.alloc (.cells #[.bool true, .int .u64 (lm topN 0 : Nat), .int .u64 (lm topN 1 : Nat), .int .u64 (lm topN 2 : Nat), .int .u64 (lm topN 3 : Nat)] 31) = w0 at *
    obtain ⟨E, hEe⟩ : ∃ E, E = w2.heap.size := ⟨_, rfl⟩
    rw [← hEe] at FE hE2 ⊢
    have hE1 := Lib.hid (show w.heap.size ≤ E by rw [hEe]; exact hb3.size)
    clear hEe hb1 hb2 hb3
    refine (RNorm_any a n0 c S w0 (H.out.below HB.out) (by omega)).mono ?_
    rintro e w3 ⟨v3, rfl, h3⟩
    obtain ⟨l, f3, le3, o3, b3⟩ := h3
    obtain ⟨a3, c3, rfl⟩ := own_shape o3
    dsimp only []
    have SF := Lib.hid (SetF.congr f3 (Q := InS S n0) (fun z => ⟨fun x => x.2, fun x => ⟨HR.out.symm, x⟩⟩))
    have H3 := Lib.hid o3
    obtain ⟨n, hln⟩ : ∃ n, n = l.length := ⟨_, rfl⟩
    have HC := Lib.hid fun (k : Nat) (x : Cl) (hx : l[k]? = some x) (wr : World) (hg : w3.grownBy wr (some E)) => op_lit (H3.out.kept hg (own_ne H3.out (by have := hE2.out; omega))) hx
    have HN := Lib.hid hln
    rw [← hln] at HC le3 ⊢
    have FE3 := Lib.hid (FE.out.below b3)
    have HE3 := Lib.hid (show E < w3.heap.size by have := hE2.out; have := b3.size; omega)
    have HB3 := Lib.hid (show Below w.heap.size w w3 from HB.out.trans (below_weak b3 HB.out.size))
    have f0 : sg (-tI) = true := by decide +kernel
    have f1 : ab (-tI) = topN := by decide +kernel
    have hn6 : n ≤ 400 := by omega
    clear f3 o3 b3 hln FE H HB
    repeat any_goals (first | go_skip | go_guarded | go_step | go_upon | (simp only []; done))
    go_loopw [3, 5, 7] (fun v mo i wr => ∃ (k : Nat) (ks : List Cl) (mb an : Bool) (av : Nat), k ≤ n ∧ i = .int .i64 k ∧ mo = .bool mb ∧ NoI w3 wr E v ks an av ∧ ks.length ≤ k ∧ (mb = true → ∃ fr : Int, OthP l ks k fr ∧ an = sg fr ∧ av = ab fr) ∧ (mb = false → ks.map Cl.iv = notL tI (-tI) (l.map Cl.iv))) (fun _ _ i _ => n - (intOf i).toNat)
    case atStart =>
      exact ⟨0, [], true, true, topN, Nat.zero_le _, rfl, rfl, ⟨World.ownsRow_nil _ _ _ _, World.grownBy.refl _ _, FE3.out, HE3.out⟩, Nat.le_refl _, fun _ => ⟨-tI, OthP.start l, f0.symm, f1.symm⟩, fun h => by cases h⟩
    case round =>
      obtain ⟨k, ks, mb, an, av, hk, rfl, rfl, I, hlk, hT, hF⟩ := hrel
      have IH := Lib.hid I
      have HT := Lib.hid hT
      have HF := Lib.hid hF
      have bd1 : ks.length + 1 ≤ 401 := by omega
      have bd2 : (ks.length + 1) * 88 ≤ 140737488355328 := by omega
      have BD := Lib.hid (And.intro bd1 bd2)
      have hEr : E < wr.heap.size := I.a.b.l
      have hs3 : w3.heap.size ≤ wr.heap.size := I.g.size
      have A0 := Lib.hid I.a
      obtain ⟨_, _, _, _, _⟩ := A0.out.all
      clear I hT hF bd1 bd2
      by_cases hkn : k < n
      · have i1 : (k : Int) < (n : Int) := by omega
        have i2 : (0 : Int) ≤ (k : Int) := by omega
        have i5 : (k : Int).toNat = k := rfl
        cases mb with
        | false =>
          -- out
          repeat any_goals (first | go_skip | go_guarded | go_step | go_upon | (simp only []; done))
          exact bodyPost_ret (v := u3) (by simp [results, Tryd.results21, go_sem]) rfl ⟨_, rfl, ks, (oth_set SF.out (HF.out rfl)).congr (fun z => ⟨fun x => ⟨HR.out.symm, x⟩, fun x => x.2⟩), by omega, IH.out.o.mono HB3.out.size, oth_bw2 HB3.out hE1.out HE3.out IH.out.g⟩
        | true =>
          obtain ⟨fr, OP, ean, eav⟩ := HT.out rfl
          obtain ⟨x, hx⟩ : ∃ x, l[k]? = some x := ⟨_, List.getElem?_eq_getElem (by rw [← HN.out]; exact hkn)⟩
          obtain ⟨g, cap, hl, hh, nl, vl, nh, vh, e1, hgl, hgB, hsx, hr⟩ := HC.out k x hx wr IH.out.g
          injection e1 with e1 _ e3
          subst e1 e3
          have HP := Lib.hid OP
          have hen := op_ends hsx
          have CE := Lib.hid fun wx => REnds_any hl hh nl nh vl vh wx
          rw [hen.1, hen.2.1, hen.2.2.1, hen.2.2.2] at CE
          obtain ⟨ln, hln⟩ : ∃ n, n = sg x.lo := ⟨_, rfl⟩
          obtain ⟨lv, hlv⟩ : ∃ n, n = ab x.lo := ⟨_, rfl⟩
          obtain ⟨un, hun⟩ : ∃ n, n = sg x.hi := ⟨_, rfl⟩
          obtain ⟨uv, huv⟩ : ∃ n, n = ab x.hi := ⟨_, rfl⟩
          obtain ⟨q1, hq1⟩ : ∃ q, nxOk (-1) (sg x.lo) (ab x.lo) = q := ⟨_, rfl⟩
          obtain ⟨q2, hq2⟩ : ∃ q, nxOk 1 (sg x.hi) (ab x.hi) = q := ⟨_, rfl⟩
          obtain ⟨pn, hpn⟩ : ∃ n, n = sg (nx (-1) (sg x.lo) (ab x.lo)) := ⟨_, rfl⟩
          obtain ⟨pv, hpv⟩ : ∃ n, n = ab (nx (-1) (sg x.lo) (ab x.lo)) := ⟨_, rfl⟩
          obtain ⟨rn, hrn⟩ : ∃ n, n = sg (nx 1 (sg x.hi) (ab x.hi)) := ⟨_, rfl⟩
          obtain ⟨rv, hrv⟩ : ∃ n, n = ab (nx 1 (sg x.hi) (ab x.hi)) := ⟨_, rfl⟩
          obtain ⟨z, hz⟩ : ∃ z, cmpI (sg fr) (ab fr) (sg (nx (-1) (sg x.lo) (ab x.lo))) (ab (nx (-1) (sg x.lo) (ab x.lo))) = z := ⟨_, rfl⟩
          have J1 := Lib.hid (oth_prev HP.out.b q1 z hq1 hz)
          have J2 := Lib.hid (oth_next q2 hq2)
          have CP := Lib.hid fun wx => stepDn_any (sg x.lo) (ab x.lo) x.hl wx
          have CN := Lib.hid fun wx => stepUp_any (sg x.hi) (ab x.hi) x.hh wx
          have CC := Lib.hid fun wx => RCmp_any (sg fr) (ab fr) HP.out.b (sg (nx (-1) (sg x.lo) (ab x.lo))) (ab (nx (-1) (sg x.lo) (ab x.lo))) (nx_lt _ _ _) (mayI_sg _) (mayI_sg _) wx
          rw [hz] at CC
          rw [hq1] at CP
          rw [hq2] at CN
          rw [← hpn, ← hpv, ← hln, ← hlv] at CP
          rw [← hrn, ← hrv, ← hun, ← huv] at CN
          rw [← hpn, ← hpv, ← ean, ← eav] at CC
          rw [← hln, ← hlv, ← hun, ← huv] at CE
          have HX := Lib.hid (And.intro hpn (And.intro hpv (And.intro hrn hrv)))
          have HA := Lib.hid (And.intro ean eav)
          have ST := Lib.hid (HP.out.step hx)
          have RB := Lib.hid hr
          obtain ⟨_, _, _, _, _, _, _, _, _, _, _, _⟩ := hr.all
          clear hr hen hln hlv hun huv hpn hpv hrn hrv hx hq1 hq2 hz ean eav OP hsx hgB
          go_upto_region 10 with (go_at_call 44; with_reducible refine (CE.out _).mono ?_; rintro e w4 ⟨rfl, hb4⟩)
          have X5 := Lib.hid (show Below wr.heap.size wr ((w4.alloc (.cells #[.bool ln, .int .u64 (lm lv 0 : Nat), .int .u64 (lm lv 1 : Nat), .int .u64 (lm lv 2 : Nat), .int .u64 (lm lv 3 : Nat)] 31)).alloc (.cells #[.bool un, .int .u64 (lm uv 0 : Nat), .int .u64 (lm uv 1 : Nat), .int .u64 (lm uv 2 : Nat), .int .u64 (lm uv 3 : Nat)] 31)) from below_alloc (below_alloc hb4 _) _)
          have L5 := Lib.hid ((@ibox_new w4 ln lv 31).alloc (.cells #[.bool un, .int .u64 (lm uv 0 : Nat), .int .u64 (lm uv 1 : Nat), .int .u64 (lm uv 2 : Nat), .int .u64 (lm uv 3 : Nat)] 31))
          have U5 := Lib.hid (@ibox_new1 w4 un uv 31 (.cells #[.bool ln, .int .u64 (lm lv 0 : Nat), .int .u64 (lm lv 1 : Nat), .int .u64 (lm lv 2 : Nat), .int .u64 (lm lv 3 : Nat)] 31))
          have s5 : wr.heap.size ≤ ((w4.alloc (.cells #[.bool ln, .int .u64 (lm lv 0 : Nat), .int .u64 (lm lv 1 : Nat), .int .u64 (lm lv 2 : Nat), .int .u64 (lm lv 3 : Nat)] 31)).alloc (.cells #[.bool un, .int .u64 (lm uv 0 : Nat), .int .u64 (lm uv 1 : Nat), .int .u64 (lm uv 2 : Nat), .int .u64 (lm uv 3 : Nat)] 31)).heap.size := X5.out.size
          generalize (w4.alloc (.cells #[.bool ln, .int .u64 (lm lv 0 : Nat), .int .u64 (lm lv 1 : Nat), .int .u64 (lm lv 2 : Nat), .int .u64 (lm lv 3 : Nat)] 31)).alloc (.cells #[.bool un, .int .u64 (lm uv 0 : Nat), .int .u64 (lm uv 1 : Nat), .int .u64 (lm uv 2 : Nat), .int .u64 (lm uv 3 : Nat)] 31) = w5 at *
          obtain ⟨_, _, _, _, _⟩ := L5.out.all
          obtain ⟨_, _, _, _, _⟩ := U5.out.all
          cases q1 with
          | false =>
            have cnd : ¬ fr ≤ x.lo - 1 := by have := J1.out.1 rfl; omega
            repeat any_goals (first | (go_at_call 13; with_reducible refine (CP.out _).mono ?_; rintro e w6 ⟨rfl, hb6⟩; have H6 := Lib.hid (X5.out.trans (below_weak hb6 X5.out.size)); have U6 := Lib.hid (U5.out.below hb6); obtain ⟨_, _, _, _, _⟩ := U6.out.all; have A6 := Lib.hid (A0.out.below H6.out); obtain ⟨_, _, _, _, _⟩ := A6.out.all; have s6 : wr.heap.size ≤ w6.heap.size := H6.out.size; have s6' : E < w6.heap.size := (by omega)) | (go_at_call 13; with_reducible refine (CN.out _).mono ?_; rintro e w8 ⟨rfl, hb8⟩; have H8 := Lib.hid ((below_alloc H6.out (.cells #[.bool pn, .int .u64 (lm pv 0 : Nat), .int .u64 (lm pv 1 : Nat), .int .u64 (lm pv 2 : Nat), .int .u64 (lm pv 3 : Nat)] 31)).trans (below_weak hb8 (below_alloc H6.out (.cells #[.bool pn, .int .u64 (lm pv 0 : Nat), .int .u64 (lm pv 1 : Nat), .int .u64 (lm pv 2 : Nat), .int .u64 (lm pv 3 : Nat)] 31)).size)); have A8 := Lib.hid (A0.out.below H8.out); obtain ⟨_, _, _, _, _⟩ := A8.out.all; have s8 : wr.heap.size ≤ w8.heap.size := H8.out.size; have s8' : E < w8.heap.size := (by omega)) | go_skip | go_guarded | go_step | go_upon | (dsimp only []))
            go_roundw
            case rel => exact ⟨k + 1, _, q2, rn, rv, by omega, rfl, rfl, NoI.put (IH.out.drop H8.out), by omega, fun h => ⟨x.hi + 1, (ST.out.2 (by omega)).1 (J2.out.2 h).1, by rw [HX.out.2.2.1, (J2.out.2 h).2], by rw [HX.out.2.2.2, (J2.out.2 h).2]⟩, fun h => (ST.out.2 (by omega)).2 (J2.out.1 h)⟩
            case measure => simp [intOf]; omega
          | true =>
            by_cases cz : z ≤ 0
            · have cnd := (J1.out.2 rfl).1.1 cz
              obtain ⟨yl, yh, yn, yv, ym, yu, hsy⟩ : ∃ yl yh yn yv ym yu, opS (cutC fr x HP.out.b cnd) = ⟨yl, yh, yn, yv, ym, yu⟩ := ⟨_, _, _, _, _, _, rfl⟩
              have CO := Lib.hid fun wx => ROf_lit hsy wx
              have ey1 : sg (cutC fr x HP.out.b cnd).lo = an ∧ ab (cutC fr x HP.out.b cnd).lo = av := ⟨HA.out.1.symm, HA.out.2.symm⟩
              have ey2 : sg (cutC fr x HP.out.b cnd).hi = pn ∧ ab (cutC fr x HP.out.b cnd).hi = pv := by rw [HX.out.1, HX.out.2.1, (J1.out.2 rfl).2]; exact ⟨rfl, rfl⟩
              rw [ey1.1, ey1.2, ey2.1, ey2.2] at CO
              have HY := Lib.hid hsy
              clear ey1 ey2 hsy
              go_upto_region 13 with (first | (go_at_call 13; with_reducible refine (CP.out _).mono ?_; rintro e w6 ⟨rfl, hb6⟩; have H6 := Lib.hid (X5.out.trans (below_weak hb6 X5.out.size)); have U6 := Lib.hid (U5.out.below hb6); obtain ⟨_, _, _, _, _⟩ := U6.out.all; have A6 := Lib.hid (A0.out.below H6.out); obtain ⟨_, _, _, _, _⟩ := A6.out.all; have s6 : wr.heap.size ≤ w6.heap.size := H6.out.size; have s6' : E < w6.heap.size := (by omega)) | (go_at_call 12; with_reducible refine (CC.out _).mono ?_; rintro e w7 ⟨rfl, hb7⟩; have H7 := Lib.hid ((below_alloc H6.out _).trans (below_weak hb7 (below_alloc H6.out _).size)); have U7 := Lib.hid ((U6.out.below (below_alloc (Below.refl _ _) _)).below hb7); obtain ⟨_, _, _, _, _⟩ := U7.out.all; have P7 := Lib.hid ((@ibox_new w6 pn pv 31).below hb7); obtain ⟨_, _, _, _, _⟩ := P7.out.all; have A7 := Lib.hid (A0.out.below H7.out); obtain ⟨_, _, _, _, _⟩ := A7.out.all; have s7 : wr.heap.size ≤ w7.heap.size := H7.out.size; have s7' : E < w7.heap.size := (by omega)) | (go_at_call 45; with_reducible refine (CO.out _).mono ?_; rintro e wa ⟨rfl, hba⟩; have Ha := Lib.hid (H7.out.trans (below_weak hba H7.out.size)); have Ua := Lib.hid (U7.out.below hba); have sa : w3.heap.size ≤ wa.heap.size := (by have := Ha.out.size; omega)) | (at_builtin; refine wpList_append_any rfl (.tmp 47) (.tmp 51) 22 rfl w3.heap.size 33 i0 (.agg #[.bool false, .bool false, .bool false, .int .u64 0, .int .u64 0, .int .u64 0, .int .u64 0, .bool false, .int .u64 0, .int .u64 0, .int .u64 0, .int .u64 0]) 12 88 Tryd.underlying22 hi hz0 hz1 hz2 rfl (by decide) _ ks.length (encS (ks.map opS)) rfl ((IH.out.drop Ha.out).o.alloc _) _ 1 [.bool yl, .bool yh, .bool yn, .int .u64 (lm yv 0 : Nat), .int .u64 (lm yv 1 : Nat), .int .u64 (lm yv 2 : Nat), .int .u64 (lm yv 3 : Nat), .bool ym, .int .u64 (lm yu 0 : Nat), .int .u64 (lm yu 1 : Nat), .int .u64 (lm yu 2 : Nat), .int .u64 (lm yu 3 : Nat)] rfl (src_row (row_x (base := w3.heap.size) (W := wa) _ _ _ _ _ _ _ _ _ _ _ _ (sa)) twelve_one (by decide)) (by have := BD.out.1; unfold maxLen; omega) (by have := BD.out.2; omega) (by simp; omega) ?_; intro v' w9 hown' hgrow))
              have Hb := Lib.hid (show Below wr.heap.size wr (wa.alloc (.cells #[.bool yl, .bool yh, .bool yn, .int .u64 (lm yv 0 : Nat), .int .u64 (lm yv 1 : Nat), .int .u64 (lm yv 2 : Nat), .int .u64 (lm yv 3 : Nat), .bool ym, .int .u64 (lm yu 0 : Nat), .int .u64 (lm yu 1 : Nat), .int .u64 (lm yu 2 : Nat), .int .u64 (lm yu 3 : Nat)] 33)) from below_alloc Ha.out _)
              have Ib := Lib.hid (IH.out.keep (x := cutC fr x HP.out.b cnd) Hb.out rfl (by rw [HY.out]; exact hown') hgrow)
              have Ub := Lib.hid (ibox_grown (Ua.out.alloc _) hgrow (fun e => by have := (IH.out.o.lt _ e.symm).2; have := hb4.size; omega))
              obtain ⟨_, _, _, _, _⟩ := Ub.out.all
              have s9 := Ib.out.a.b.l
              repeat any_goals (first | (go_at_call 13; with_reducible refine (CN.out _).mono ?_; rintro e w8 ⟨rfl, hb8⟩; have I8 := Lib.hid (Ib.out.drop hb8); obtain ⟨_, _, _, _, _⟩ := I8.out.a.all; have s8' := I8.out.a.b.l) | go_skip | go_guarded | go_step | go_upon | (dsimp only []))
              go_roundw
              case rel => exact ⟨k + 1, _, q2, rn, rv, by omega, rfl, rfl, NoI.put I8.out, by rw [List.length_append]; show ks.length + 1 ≤ k + 1; omega, fun h => ⟨x.hi + 1, (ST.out.1 cnd).1 (J2.out.2 h).1, by rw [HX.out.2.2.1, (J2.out.2 h).2], by rw [HX.out.2.2.2, (J2.out.2 h).2]⟩, fun h => (ST.out.1 cnd).2 (J2.out.1 h)⟩
              case measure => simp [intOf]; omega
            · have cnd : ¬ fr ≤ x.lo - 1 := fun c => cz ((J1.out.2 rfl).1.2 c)
              repeat any_goals (first | (go_at_call 13; with_reducible refine (CP.out _).mono ?_; rintro e w6 ⟨rfl, hb6⟩; have H6 := Lib.hid (X5.out.trans (below_weak hb6 X5.out.size)); have U6 := Lib.hid (U5.out.below hb6); obtain ⟨_, _, _, _, _⟩ := U6.out.all; have A6 := Lib.hid (A0.out.below H6.out); obtain ⟨_, _, _, _, _⟩ := A6.out.all; have s6 : wr.heap.size ≤ w6.heap.size := H6.out.size; have s6' : E < w6.heap.size := (by omega)) | (go_at_call 12; with_reducible refine (CC.out _).mono ?_; rintro e w7 ⟨rfl, hb7⟩; have H7 := Lib.hid ((below_alloc H6.out _).trans (below_weak hb7 (below_alloc H6.out _).size)); have U7 := Lib.hid ((U6.out.below (below_alloc (Below.refl _ _) _)).below hb7); obtain ⟨_, _, _, _, _⟩ := U7.out.all; have P7 := Lib.hid ((@ibox_new w6 pn pv 31).below hb7); obtain ⟨_, _, _, _, _⟩ := P7.out.all; have A7 := Lib.hid (A0.out.below H7.out); obtain ⟨_, _, _, _, _⟩ := A7.out.all; have s7 : wr.heap.size ≤ w7.heap.size := H7.out.size; have s7' : E < w7.heap.size := (by omega)) | (go_at_call 13; with_reducible refine (CN.out _).mono ?_; rintro e w8 ⟨rfl, hb8⟩; have H8 := Lib.hid (H7.out.trans (below_weak hb8 H7.out.size)); have A8 := Lib.hid (A0.out.below H8.out); obtain ⟨_, _, _, _, _⟩ := A8.out.all; have s8 : wr.heap.size ≤ w8.heap.size := H8.out.size; have s8' : E < w8.heap.size := (by omega)) | go_skip | go_guarded | go_step | go_upon | (dsimp only []))
              go_roundw
              case rel => exact ⟨k + 1, _, q2, rn, rv, by omega, rfl, rfl, NoI.put (IH.out.drop H8.out), by omega, fun h => ⟨x.hi + 1, (ST.out.2 (by omega)).1 (J2.out.2 h).1, by rw [HX.out.2.2.1, (J2.out.2 h).2], by rw [HX.out.2.2.2, (J2.out.2 h).2]⟩, fun h => (ST.out.2 (by omega)).2 (J2.out.1 h)⟩
              case measure => simp [intOf]; omega
      · have hk' : k = n := by omega
        have i1 : ¬ (k : Int) < (n : Int) := by omega
        cases mb with
        | false =>
          repeat any_goals (first | go_skip | go_guarded | go_step | go_upon | (simp only []; done))
          exact bodyPost_ret (v := u3) (by simp [results, Tryd.results21, go_sem]) rfl ⟨_, rfl, ks, (oth_set SF.out (HF.out rfl)).congr (fun z => ⟨fun x => ⟨HR.out.symm, x⟩, fun x => x.2⟩), by omega, IH.out.o.mono HB3.out.size, oth_bw2 HB3.out hE1.out HE3.out IH.out.g⟩
        | true =>
          obtain ⟨fr, OP, ean, eav⟩ := HT.out rfl
          have HP := Lib.hid OP
          have hTe : sg tI = false := by decide +kernel
          have hTa : ab tI = topN := by decide +kernel
          obtain ⟨yl, yh, yn, yv, ym, yu, hsy⟩ : ∃ yl yh yn yv ym yu, opS (endC fr HP.out.b) = ⟨yl, yh, yn, yv, ym, yu⟩ := ⟨_, _, _, _, _, _, rfl⟩
          have CO := Lib.hid fun wx => ROf_lit hsy wx
          have ey1 : sg (endC fr HP.out.b).lo = an ∧ ab (endC fr HP.out.b).lo = av := ⟨ean.symm, eav.symm⟩
          have ey2 : sg (endC fr HP.out.b).hi = false ∧ ab (endC fr HP.out.b).hi = topN := ⟨hTe, hTa⟩
          rw [ey1.1, ey1.2, ey2.1, ey2.2] at CO
          have HY := Lib.hid hsy
          have FN := Lib.hid (HP.out.fin (by rw [← HN.out]; exact hk'))
          clear ey1 ey2 hsy ean eav OP hTe hTa
          obtain ⟨a9, c9, rfl⟩ := own_shape IH.out.o
          go_upto_region 15 with fail
          have KP := Lib.hid fun (w' : World) (hk : Below wr.heap.size wr w') => (show w'.cell? ⟨E, 0, none⟩ = some (.bool an) ∧ w'.cell? ⟨E, 1, none⟩ = some (.int .u64 (lm av 0 : Nat)) ∧ w'.cell? ⟨E, 2, none⟩ = some (.int .u64 (lm av 1 : Nat)) ∧ w'.cell? ⟨E, 3, none⟩ = some (.int .u64 (lm av 2 : Nat)) ∧ w'.cell? ⟨E, 4, none⟩ = some (.int .u64 (lm av 3 : Nat)) from ⟨(A0.out.below hk).b.c0, (A0.out.below hk).b.c1, (A0.out.below hk).b.c2, (A0.out.below hk).b.c3, (A0.out.below hk).b.c4⟩)
          have hq : Below wr.heap.size wr wr.drew := (Below.refl _ _).drew
          go_region_held3 (fun w' => w'.cell? ⟨E, 0, none⟩ = some (.bool an) ∧ w'.cell? ⟨E, 1, none⟩ = some (.int .u64 (lm av 0 : Nat)) ∧ w'.cell? ⟨E, 2, none⟩ = some (.int .u64 (lm av 1 : Nat)) ∧ w'.cell? ⟨E, 3, none⟩ = some (.int .u64 (lm av 2 : Nat)) ∧ w'.cell? ⟨E, 4, none⟩ = some (.int .u64 (lm av 3 : Nat)))
            (first | with_reducible assumption | exact KP.out _ (by (repeat first | with_reducible exact Below.refl _ _ | with_reducible assumption | with_reducible refine Below.drew ?_ | with_reducible refine below_alloc ?_ _ | ((with_reducible refine Below.setCell ?_ ?_ _); rotate_left; (focus (first | with_reducible exact Nat.le_refl _ | (simp; done) | (simp; omega) | omega))) | (with_reducible refine below_trans ?_ (by assumption)))))
            (first | (go_at_call 47; with_reducible refine (CF.out _).mono ?_; rintro e w6 ⟨rfl, hb6⟩; have hB1 := Lib.hid (show Below wr.heap.size wr w6 from (below_trans (by (repeat first | with_reducible exact Below.refl _ _ | with_reducible assumption | with_reducible refine Below.drew ?_ | with_reducible refine below_alloc ?_ _ | ((with_reducible refine Below.setCell ?_ ?_ _); rotate_left; (focus (first | with_reducible exact Nat.le_refl _ | (simp; done) | (simp; omega) | omega))) | (with_reducible refine below_trans ?_ (by assumption)))) hb6))) | (go_at_call 45; with_reducible refine (CO.out _).mono ?_; rintro e w7 ⟨rfl, hb7⟩; have hB2 := Lib.hid (show Below wr.heap.size wr w7 from hB1.out.trans (below_weak hb7 hB1.out.size)); have hs7 : w3.heap.size ≤ w7.heap.size := (by have := hB2.out.size; omega)) | (refine step_append_any rfl (.tmp 59) (.tmp 63) 22 rfl w3.heap.size 33 i0 (.agg #[.bool false, .bool false, .bool false, .int .u64 0, .int .u64 0, .int .u64 0, .int .u64 0, .bool false, .int .u64 0, .int .u64 0, .int .u64 0, .int .u64 0]) 12 88 Tryd.underlying22 hi hz0 hz1 hz2 rfl (by decide) _ ks.length (encS (ks.map opS)) (by first | rfl | simp [Act.eval]) ((IH.out.drop hB2.out).o.alloc _) _ 1 [.bool yl, .bool yh, .bool yn, .int .u64 (lm yv 0 : Nat), .int .u64 (lm yv 1 : Nat), .int .u64 (lm yv 2 : Nat), .int .u64 (lm yv 3 : Nat), .bool ym, .int .u64 (lm yu 0 : Nat), .int .u64 (lm yu 1 : Nat), .int .u64 (lm yu 2 : Nat), .int .u64 (lm yu 3 : Nat)] (by first | rfl | simp [Act.eval]) (src_row (row_x (base := w3.heap.size) (W := w7) _ _ _ _ _ _ _ _ _ _ _ _ hs7) twelve_one (by decide)) (by have := BD.out.1; unfold maxLen; omega) (by have := BD.out.2; omega) (by first | omega | (simp; omega)) ?_; intro v' w9 hown' hgrow; have In := Lib.hid (IH.out.keep (x := endC fr HP.out.b) (below_alloc hB2.out _) rfl (by rw [HY.out]; exact hown') hgrow); have Ig := (show w9.cell? ⟨E, 0, none⟩ = some (.bool an) ∧ w9.cell? ⟨E, 1, none⟩ = some (.int .u64 (lm av 0 : Nat)) ∧ w9.cell? ⟨E, 2, none⟩ = some (.int .u64 (lm av 1 : Nat)) ∧ w9.cell? ⟨E, 3, none⟩ = some (.int .u64 (lm av 2 : Nat)) ∧ w9.cell? ⟨E, 4, none⟩ = some (.int .u64 (lm av 3 : Nat)) from ⟨In.out.a.b.c0, In.out.a.b.c1, In.out.a.b.c2, In.out.a.b.c3, In.out.a.b.c4⟩)))
          repeat any_goals (first | go_skip | go_guarded | go_step | go_upon | (simp only []; done))
          exact bodyPost_ret (v := v') (by simp [results, Tryd.results21, go_sem]) rfl ⟨_, rfl, ks ++ [endC fr HP.out.b], (oth_set SF.out FN.out).congr (fun z => ⟨fun x => ⟨HR.out.symm, x⟩, fun x => x.2⟩), by rw [List.length_append]; show ks.length + 1 ≤ n0 + 1; omega, In.out.o.mono HB3.out.size, oth_bw2 HB3.out hE1.out HE3.out In.out.g⟩
end Go.Proofs.YtekeedjhaakbhaaDoor

namespace Go.Proofs.YtekeedjhaakbhaaDoor
open Go Go.RowKit
/-- the four ends: of the first span's the blocks B0, B1, of the second's B2, B3 -/
structure AndB (w3 wr : World) (B0 B1 B2 B3 : Nat) (an : Bool) (av : Nat) (bn : Bool) (bv : Nat) (ln : Bool) (lv : Nat) (un : Bool) (uv : Nat) : Prop where
  l0 : IBoxF wr B0 an av
  u0 : IBoxF wr B1 bn bv
  l1 : IBox wr B2 ln lv
  u1 : IBox wr B3 un uv
  b : Below w3.heap.size w3 wr
  ge : w3.heap.size ≤ B0 ∧ w3.heap.size ≤ B1
  ne : (B0 ≠ B1 ∧ B1 ≠ B0) ∧ (B2 ≠ B0 ∧ B2 ≠ B1) ∧ (B3 ≠ B0 ∧ B3 ≠ B1)
theorem AndB.below {w3 wr wx : World} {B0 B1 B2 B3 av bv lv uv : Nat} {an bn ln un : Bool} (h : AndB w3 wr B0 B1 B2 B3 an av bn bv ln lv un uv) (hb : Below wr.heap.size wr wx) : AndB w3 wx B0 B1 B2 B3 an av bn bv ln lv un uv :=
  ⟨h.l0.below hb, h.u0.below hb, h.l1.below hb, h.u1.below hb, h.b.trans (below_weak hb h.b.size), h.ge, h.ne⟩
theorem ibox_but {b f B V : Nat} {n : Bool} {w w1 : World} (h : IBox w B n V) (k : But b f w w1) (hb : B ≠ b) (hf : B ≠ f) : IBox w1 B n V :=
  ⟨k.cell hb hf h.c0, k.cell hb hf h.c1, k.cell hb hf h.c2, k.cell hb hf h.c3, k.cell hb hf h.c4, Nat.lt_of_lt_of_le h.l k.size⟩
theorem AndB.setL {w3 wr : World} {B0 B1 B2 B3 av bv lv uv V : Nat} {an bn ln un m : Bool} (h : AndB w3 wr B0 B1 B2 B3 an av bn bv ln lv un uv) :
    AndB w3 (((((wr.setCell ⟨B0, 0, none⟩ (.bool m)).setCell ⟨B0, 1, none⟩ (.int .u64 (lm V 0 : Nat))).setCell ⟨B0, 2, none⟩ (.int .u64 (lm V 1 : Nat))).setCell ⟨B0, 3, none⟩ (.int .u64 (lm V 2 : Nat))).setCell ⟨B0, 4, none⟩ (.int .u64 (lm V 3 : Nat))) B0 B1 B2 B3 m V bn bv ln lv un uv := by
  obtain ⟨⟨n1, n2⟩, ⟨n3, n4⟩, n5, n6⟩ := h.ne
  have k := but5 wr B0 (.bool m) (.int .u64 (lm V 0 : Nat)) (.int .u64 (lm V 1 : Nat)) (.int .u64 (lm V 2 : Nat)) (.int .u64 (lm V 3 : Nat))
  exact ⟨h.l0.set, h.u0.but k n2 n2, ibox_but h.l1 k n3 n3, ibox_but h.u1 k n5 n5, below_but h.b k h.ge.1, h.ge, h.ne⟩
theorem AndB.setU {w3 wr : World} {B0 B1 B2 B3 av bv lv uv V : Nat} {an bn ln un m : Bool} (h : AndB w3 wr B0 B1 B2 B3 an av bn bv ln lv un uv) :
    AndB w3 (((((wr.setCell ⟨B1, 0, none⟩ (.bool m)).setCell ⟨B1, 1, none⟩ (.int .u64 (lm V 0 : Nat))).setCell ⟨B1, 2, none⟩ (.int .u64 (lm V 1 : Nat))).setCell ⟨B1, 3, none⟩ (.int .u64 (lm V 2 : Nat))).setCell ⟨B1, 4, none⟩ (.int .u64 (lm V 3 : Nat))) B0 B1 B2 B3 an av m V ln lv un uv := by
  obtain ⟨⟨n1, n2⟩, ⟨n3, n4⟩, n5, n6⟩ := h.ne
  have k := but5 wr B1 (.bool m) (.int .u64 (lm V 0 : Nat)) (.int .u64 (lm V 1 : Nat)) (.int .u64 (lm V 2 : Nat)) (.int .u64 (lm V 3 : Nat))
  exact ⟨h.l0.but k n1 n1, h.u0.set, ibox_but h.l1 k n4 n4, ibox_but h.u1 k n6 n6, below_but h.b k h.ge.2, h.ge, h.ne⟩
/-- the row of what is met so far: w3 the world ahead of the loops -/
structure AnI (w3 wr : World) (v : Value) (ks : List Cl) : Prop where
  o : wr.ownsRow w3.heap.size 33 12 v ks.length (encS (ks.map opS))
  b : Below w3.heap.size w3 wr
theorem AnI.drop {w wr w1 : World} {v : Value} {ks : List Cl} (h : AnI w wr v ks) (hb : Below wr.heap.size wr w1) : AnI w w1 v ks :=
  ⟨own_below h.o hb, h.b.trans (below_weak hb h.b.size)⟩
theorem AnI.keep {w wg w2 : World} {m : Nat} {v v' : Value} {ks : List Cl} {x : Cl} (h : AnI w wg v ks) (hm : m = ks.length + 1)
    (h2 : w2.ownsRow w.heap.size 33 12 v' m (encS (ks.map opS) ++ (opS x).cells)) (hg : wg.grownBy w2 v.ownBlock) : AnI w w2 v' (ks ++ [x]) := by
  subst hm
  refine ⟨?_, h.b.grown hg h.b.size (fun k hk => (h.o.lt _ hk).1)⟩
  rw [List.length_append, List.map_append, List.map_singleton, encS_snoc]
  exact h2
theorem cut_flat {l : List Iv} {c : Iv} {k : Nat} {y : Iv} (hy : l[k]? = some y) : (l.take (k + 1)).flatMap (fun d => cutI c d) = (l.take k).flatMap (fun d => cutI c d) ++ cutI c y := by
  rw [List.take_add_one, hy, List.flatMap_append]
  simp
theorem cross_step {x y : List Iv} {i : Nat} {c : Iv} (hc : x[i]? = some c) : crossL (x.take (i + 1)) y = crossL (x.take i) y ++ y.flatMap (fun d => cutI c d) := by
  unfold crossL
  rw [List.take_add_one, hc, List.flatMap_append]
  simp
theorem and_cut {x y : Cl} (z1 z2 z3 : Int) (m : Cl) (h1 : m.lo = if 0 < z1 then y.lo else x.lo) (h2 : m.hi = if z2 < 0 then y.hi else x.hi)
    (e1 : cmpI (sg y.lo) (ab y.lo) (sg x.lo) (ab x.lo) = z1) (e2 : cmpI (sg y.hi) (ab y.hi) (sg x.hi) (ab x.hi) = z2) (e3 : cmpI (sg m.lo) (ab m.lo) (sg m.hi) (ab m.hi) = z3) : cutI x.iv y.iv = if z3 ≤ 0 then [m.iv] else [] := by
  have a1 := cmz_gt e1
  have a3 := cmz_le e3
  have a2 : z2 < 0 ↔ y.hi < x.hi := by
    rw [cmpI_sg] at e2
    subst e2
    unfold cmpZ
    split
    · omega
    · split <;> omega
  have b1 : m.lo = if x.iv.1 < y.iv.1 then y.iv.1 else x.iv.1 := by
    rw [h1]
    by_cases c : 0 < z1
    · rw [if_pos c, if_pos (show x.iv.1 < y.iv.1 from a1.1 c)]; rfl
    · rw [if_neg c, if_neg (show ¬ x.iv.1 < y.iv.1 from fun h => c (a1.2 h))]; rfl
  have b2 : m.hi = if y.iv.2 < x.iv.2 then y.iv.2 else x.iv.2 := by
    rw [h2]
    by_cases c : z2 < 0
    · rw [if_pos c, if_pos (show y.iv.2 < x.iv.2 from a2.1 c)]; rfl
    · rw [if_neg c, if_neg (show ¬ y.iv.2 < x.iv.2 from fun h => c (a2.2 h))]; rfl
  have e : cutI x.iv y.iv = if m.lo ≤ m.hi then [(m.lo, m.hi)] else [] := by
    unfold cutI
    rw [b1, b2]
  rw [e]
  by_cases c : z3 ≤ 0
  · rw [if_pos c, if_pos (a3.1 c)]; rfl
  · rw [if_neg c, if_neg (fun h => c (a3.2 h))]
theorem flat_len (l : List Iv) (c : Iv) : (l.flatMap fun d => cutI c d).length ≤ l.length := by
  induction l with
  | nil => exact Nat.le_refl _
  | cons d t ih =>
    rw [List.flatMap_cons, List.length_append, List.length_cons]
    have : (cutI c d).length ≤ 1 := by
      obtain ⟨lo, hi, e, -⟩ := cutI_ends c d
      rw [e]
      by_cases h : lo ≤ hi
      · rw [if_pos h]; exact Nat.le_refl _
      · rw [if_neg h]; exact Nat.zero_le _
    omega
theorem cross_len (x y : List Iv) : (crossL x y).length ≤ x.length * y.length := by
  unfold crossL
  induction x with
  | nil => simp
  | cons c t ih =>
    rw [List.flatMap_cons, List.length_append, List.length_cons]
    have := flat_len y c
    rw [Nat.add_mul]
    omega
theorem and_new {wr w4 w5 : World} {av bv lv uv : Nat} {an bn ln un : Bool} (hb4 : Below wr.heap.size wr w4) (hb5 : Below ((w4.alloc (.cells #[.bool an, .int .u64 (lm av 0 : Nat), .int .u64 (lm av 1 : Nat), .int .u64 (lm av 2 : Nat), .int .u64 (lm av 3 : Nat)] 31)).alloc (.cells #[.bool bn, .int .u64 (lm bv 0 : Nat), .int .u64 (lm bv 1 : Nat), .int .u64 (lm bv 2 : Nat), .int .u64 (lm bv 3 : Nat)] 31)).heap.size ((w4.alloc (.cells #[.bool an, .int .u64 (lm av 0 : Nat), .int .u64 (lm av 1 : Nat), .int .u64 (lm av 2 : Nat), .int .u64 (lm av 3 : Nat)] 31)).alloc (.cells #[.bool bn, .int .u64 (lm bv 0 : Nat), .int .u64 (lm bv 1 : Nat), .int .u64 (lm bv 2 : Nat), .int .u64 (lm bv 3 : Nat)] 31)) w5) :
    AndB wr ((w5.alloc (.cells #[.bool ln, .int .u64 (lm lv 0 : Nat), .int .u64 (lm lv 1 : Nat), .int .u64 (lm lv 2 : Nat), .int .u64 (lm lv 3 : Nat)] 31)).alloc (.cells #[.bool un, .int .u64 (lm uv 0 : Nat), .int .u64 (lm uv 1 : Nat), .int .u64 (lm uv 2 : Nat), .int .u64 (lm uv 3 : Nat)] 31)) w4.heap.size (w4.heap.size + 1) w5.heap.size (w5.heap.size + 1) an av bn bv ln lv un uv := by
  have s4 := hb4.size
  have s5 := hb5.size
  simp only [World.size_alloc] at s5
  have up : ∀ wx, Below wx.heap.size wx ((wx.alloc (.cells #[.bool ln, .int .u64 (lm lv 0 : Nat), .int .u64 (lm lv 1 : Nat), .int .u64 (lm lv 2 : Nat), .int .u64 (lm lv 3 : Nat)] 31)).alloc (.cells #[.bool un, .int .u64 (lm uv 0 : Nat), .int .u64 (lm uv 1 : Nat), .int .u64 (lm uv 2 : Nat), .int .u64 (lm uv 3 : Nat)] 31)) := fun wx => below_alloc (below_alloc (Below.refl _ _) _) _
  have f1 : IBoxF ((w4.alloc (.cells #[.bool an, .int .u64 (lm av 0 : Nat), .int .u64 (lm av 1 : Nat), .int .u64 (lm av 2 : Nat), .int .u64 (lm av 3 : Nat)] 31)).alloc (.cells #[.bool bn, .int .u64 (lm bv 0 : Nat), .int .u64 (lm bv 1 : Nat), .int .u64 (lm bv 2 : Nat), .int .u64 (lm bv 3 : Nat)] 31)) (w4.heap.size + 1) bn bv := by
    have := @iboxF_new (w4.alloc (.cells #[.bool an, .int .u64 (lm av 0 : Nat), .int .u64 (lm av 1 : Nat), .int .u64 (lm av 2 : Nat), .int .u64 (lm av 3 : Nat)] 31)) bn bv 31
    rwa [World.size_alloc] at this
  refine ⟨(((iboxF_new.alloc _).below hb5).below (up w5)), ((f1.below hb5).below (up w5)), ibox_new.alloc _, ibox_new1, ?_, ⟨by omega, by omega⟩, ⟨by omega, by omega⟩, ⟨by omega, by omega⟩, by omega, by omega⟩
  exact (below_alloc (below_alloc hb4 _) _).trans (below_weak (hb5.trans (below_weak (up w5) (by first | omega | (simp only [World.size_alloc]; omega)))) (by first | omega | (simp only [World.size_alloc]; omega)))
set_option maxRecDepth 20000 in
set_option maxHeartbeats 8000000 in
/-- **And** of the document. -/
theorem RAnd_any (a : Option Addr) (n0 c : Nat) (S : Nat → Sp) (b : Option Addr) (m0 d : Nat) (T : Nat → Sp) (w : World) (h1 : SRow w a n0 c S) (h2 : SRow w b m0 d T) (hn0 : n0 ≤ 400) (hm0 : m0 ≤ 400) :
    Calls Tryd.prog 25 #[.slice a n0 c, .slice b m0 d] w fun e w' => ∃ v, e = .returned v ∧ SOut (fun z => mayR S n0 = true ∧ mayR T m0 = true ∧ (InS S n0 z ∧ InS T m0 z)) 160000 w v w' := by
  have H1 := Lib.hid h1
  have H2 := Lib.hid h2
  obtain ⟨R1, hR1⟩ : ∃ R, R = mayR S n0 := ⟨_, rfl⟩
  obtain ⟨R2, hR2⟩ : ∃ R, R = mayR T m0 := ⟨_, rfl⟩
  have M1 := Lib.hid fun wx (hx : SRow wx a n0 c S) => RMayS_any a n0 c S wx hx
  have M2 := Lib.hid fun wx (hx : SRow wx b m0 d T) => RMayS_any b m0 d T wx hx
  rw [← hR1] at M1
  rw [← hR2] at M2
  have HR := Lib.hid (And.intro hR1 hR2)
  obtain ⟨i0, hi, hz0, hz1, hz2⟩ := info_parts infoS
  clear h1 h2 hR1 hR2
  go_enter Tryd.func25, Tryd.ntmps25
  cases R1 with
  | false =>
    repeat any_goals (first | (go_at_call 9; with_reducible refine (M1.out _ H1.out).mono ?_; rintro e w1 ⟨rfl, hb1⟩) | go_skip | go_guarded | go_step | go_upon | (dsimp only []))
    exact bodyPost_ret (v := .slice none 0 0) (by simp [results, Tryd.results25, go_sem]) rfl ⟨_, rfl, [], SetF.nil (fun z hz => by rw [← HR.out.1] at hz; cases hz.1), Nat.zero_le _, World.ownsRow_nil _ _ _ _, by (repeat first | with_reducible exact Below.refl _ _ | with_reducible assumption | with_reducible refine Below.drew ?_ | with_reducible refine below_alloc ?_ _ | ((with_reducible refine Below.setCell ?_ ?_ _); rotate_left; (focus (first | with_reducible exact Nat.le_refl _ | (simp; done) | (simp; omega) | omega))) | (with_reducible refine below_trans ?_ (by assumption)))⟩
  | true =>
    cases R2 with
    | false =>
      repeat any_goals (first | (go_at_call 9; with_reducible refine (M1.out _ H1.out).mono ?_; rintro e w1 ⟨rfl, hb1⟩) | (go_at_call 9; with_reducible refine (M2.out _ (H2.out.below hb1)).mono ?_; rintro e w2 ⟨rfl, hb2⟩) | go_skip | go_guarded | go_step | go_upon | (dsimp only []))
      exact bodyPost_ret (v := .slice none 0 0) (by simp [results, Tryd.results25, go_sem]) rfl ⟨_, rfl, [], SetF.nil (fun z hz => by rw [← HR.out.2] at hz; cases hz.2.1), Nat.zero_le _, World.ownsRow_nil _ _ _ _, by (repeat first | with_reducible exact Below.refl _ _ | with_reducible assumption | with_reducible refine Below.drew ?_ | with_reducible refine below_alloc ?_ _ | ((with_reducible refine Below.setCell ?_ ?_ _); rotate_left; (focus (first | with_reducible exact Nat.le_refl _ | (simp; done) | (simp; omega) | omega))) | (with_reducible refine below_trans ?_ (by assumption)))⟩
    | true =>
      repeat any_goals (first | (go_at_call 9; with_reducible refine (M1.out _ H1.out).mono ?_; rintro e w1 ⟨rfl, hb1⟩) | (go_at_call 9; with_reducible refine (M2.out _ (H2.out.below hb1)).mono ?_; rintro e w2 ⟨rfl, hb2⟩) | go_skip | go_guarded | go_step | go_upon | (dsimp only []))
      have hb3 : Below w.heap.size w w2 := hb1.trans (below_weak hb2 hb1.size)
      clear hb1 hb2
      refine (RNorm_any a n0 c S _ (H1.out.below hb3) (by omega)).mono ?_
      rintro e w4 ⟨v4, rfl, h4⟩
      obtain ⟨l1, f4, le4, o4, b4⟩ := h4
      obtain ⟨a4, c4, rfl⟩ := own_shape o4
      dsimp only []
      have hb4 : Below w.heap.size w w4 := hb3.trans (below_weak b4 hb3.size)
      repeat any_goals (first | go_skip | go_guarded | go_step | go_upon | (simp only []; done))
      refine (RNorm_any b m0 d T _ (H2.out.below hb4) (by omega)).mono ?_
      rintro e w3 ⟨v3, rfl, h3⟩
      obtain ⟨l2, f3, le3, o3, b3⟩ := h3
      obtain ⟨a3, c3, rfl⟩ := own_shape o3
      dsimp only []
      have hbw : Below w.heap.size w w3 := hb4.trans (below_weak b3 hb4.size)
      have O1 := Lib.hid (own_below o4 b3)
      have O2 := Lib.hid o3
      have F1 := Lib.hid (SetF.congr f4 (Q := InS S n0) (fun z => ⟨fun x => x.2, fun x => ⟨HR.out.1.symm, x⟩⟩))
      have F2 := Lib.hid (SetF.congr f3 (Q := InS T m0) (fun z => ⟨fun x => x.2, fun x => ⟨HR.out.2.symm, x⟩⟩))
      obtain ⟨n, hn⟩ : ∃ n, n = l1.length := ⟨_, rfl⟩
      obtain ⟨m, hm⟩ : ∃ m, m = l2.length := ⟨_, rfl⟩
      have HC1 := Lib.hid fun (k : Nat) (x : Cl) (hx : l1[k]? = some x) (wr : World) (hb : Below w3.heap.size w3 wr) => op_lit (own_below O1.out hb) hx
      have HC2 := Lib.hid fun (k : Nat) (x : Cl) (hx : l2[k]? = some x) (wr : World) (hb : Below w3.heap.size w3 wr) => op_lit (own_below O2.out hb) hx
      have HL := Lib.hid (And.intro hn hm)
      rw [← hn] at HC1 le4 ⊢
      rw [← hm] at HC2 le3 ⊢
      have HBW := Lib.hid hbw
      have hn4 : n ≤ 400 := by omega
      have hm4 : m ≤ 400 := by omega
      clear f4 f3 o4 o3 b4 b3 hb3 hb4 hn hm hbw le4 le3
      repeat any_goals (first | go_skip | go_guarded | go_step | go_upon | (simp only []; done))
      go_loopw [5, 8] (fun v i wr => ∃ (k : Nat) (ks : List Cl), k ≤ n ∧ i = .int .i64 k ∧ AnI w3 wr v ks ∧ ks.map Cl.iv = crossL ((l1.map Cl.iv).take k) (l2.map Cl.iv)) (fun _ i _ => n - (intOf i).toNat)
      case atStart => exact ⟨0, [], Nat.zero_le _, rfl, ⟨World.ownsRow_nil _ _ _ _, Below.refl _ _⟩, rfl⟩
      case round =>
        obtain ⟨k, ks0, hk, rfl, I0, hks⟩ := hrel
        by_cases hkn : k < n
        · have i1 : (k : Int) < (n : Int) := by omega
          have i2 : (0 : Int) ≤ (k : Int) := by omega
          have i5 : (k : Int).toNat = k := rfl
          obtain ⟨x, hx⟩ : ∃ x, l1[k]? = some x := ⟨_, List.getElem?_eq_getElem (by rw [← HL.out.1]; exact hkn)⟩
          have hxi : (l1.map Cl.iv)[k]? = some x.iv := by rw [List.getElem?_map, hx]; rfl
          have HK := Lib.hid (And.intro hx (And.intro hxi hks))
          have IH0 := Lib.hid I0
          clear I0 hks hx hxi
          repeat any_goals (first | go_skip | go_guarded | go_step | go_upon | (simp only []; done))
          go_loopw [5, 9] (fun v i wq => ∃ (j : Nat) (ks : List Cl), j ≤ m ∧ i = .int .i64 j ∧ AnI w3 wq v ks ∧ ks.map Cl.iv = crossL ((l1.map Cl.iv).take k) (l2.map Cl.iv) ++ ((l2.map Cl.iv).take j).flatMap (fun d => cutI x.iv d)) (fun _ i _ => m - (intOf i).toNat)
          case atStart => exact ⟨0, ks0, Nat.zero_le _, rfl, IH0.out, by rw [HK.out.2.2]; simp⟩
          case round =>
            obtain ⟨j, ks, hj, rfl, I, hks⟩ := hrel
            by_cases hjm : j < m
            · have j1 : (j : Int) < (m : Int) := by omega
              have j2 : (0 : Int) ≤ (j : Int) := by omega
              have j5 : (j : Int).toNat = j := rfl
              obtain ⟨y, hy⟩ : ∃ y, l2[j]? = some y := ⟨_, List.getElem?_eq_getElem (by rw [← HL.out.2]; exact hjm)⟩
              have hyi : (l2.map Cl.iv)[j]? = some y.iv := by rw [List.getElem?_map, hy]; rfl
              have hkl : ks.length ≤ 400 * 400 + 400 := by
                have e := congrArg List.length hks
                rw [List.length_map, List.length_append] at e
                have e1 := cross_len ((l1.map Cl.iv).take k) (l2.map Cl.iv)
                have e2 := flat_len ((l2.map Cl.iv).take j) x.iv
                rw [List.length_take, List.length_map, List.length_map, ← HL.out.1, ← HL.out.2] at e1
                rw [List.length_take, List.length_map, ← HL.out.2] at e2
                have e3 : min k n * m ≤ 400 * 400 := Nat.mul_le_mul (by omega) hm4
                omega
              obtain ⟨gx, cx, hlx, hhx, nlx, vlx, nhx, vhx, ex, hgx, -, hsx, hrx⟩ := HC1.out k x HK.out.1 wr I.b
              injection ex with ex _ ex3
              subst ex ex3
              obtain ⟨gy, cy, hly, hhy, nly, vly, nhy, vhy, ey, hgy, -, hsy, hry⟩ := HC2.out j y hy wr I.b
              injection ey with ey _ ey3
              subst ey ey3
              have ex := op_ends hsx
              have ey := op_ends hsy
              have CX := Lib.hid fun wx => REnds_any hlx hhx nlx nhx vlx vhx wx
              have CY := Lib.hid fun wx => REnds_any hly hhy nly nhy vly vhy wx
              rw [ex.1, ex.2.1, ex.2.2.1, ex.2.2.2] at CX
              rw [ey.1, ey.2.1, ey.2.2.1, ey.2.2.2] at CY
              obtain ⟨z1, hz1'⟩ : ∃ z, cmpI (sg y.lo) (ab y.lo) (sg x.lo) (ab x.lo) = z := ⟨_, rfl⟩
              obtain ⟨z2, hz2'⟩ : ∃ z, cmpI (sg y.hi) (ab y.hi) (sg x.hi) (ab x.hi) = z := ⟨_, rfl⟩
              have C1 := Lib.hid fun wx => RCmp_any (sg y.lo) (ab y.lo) y.hl (sg x.lo) (ab x.lo) x.hl (mayI_sg _) (mayI_sg _) wx
              have C2 := Lib.hid fun wx => RCmp_any (sg y.hi) (ab y.hi) y.hh (sg x.hi) (ab x.hi) x.hh (mayI_sg _) (mayI_sg _) wx
              rw [hz1'] at C1
              rw [hz2'] at C2
              obtain ⟨an, han⟩ : ∃ n, n = sg x.lo := ⟨_, rfl⟩
              obtain ⟨av, hav⟩ : ∃ n, n = ab x.lo := ⟨_, rfl⟩
              obtain ⟨bn, hbn⟩ : ∃ n, n = sg x.hi := ⟨_, rfl⟩
              obtain ⟨bv, hbv⟩ : ∃ n, n = ab x.hi := ⟨_, rfl⟩
              obtain ⟨ln, hln⟩ : ∃ n, n = sg y.lo := ⟨_, rfl⟩
              obtain ⟨lv, hlv⟩ : ∃ n, n = ab y.lo := ⟨_, rfl⟩
              obtain ⟨un, hun⟩ : ∃ n, n = sg y.hi := ⟨_, rfl⟩
              obtain ⟨uv, huv⟩ : ∃ n, n = ab y.hi := ⟨_, rfl⟩
              rw [← han, ← hav, ← hbn, ← hbv] at CX
              rw [← hln, ← hlv, ← hun, ← huv] at CY
              rw [← hln, ← hlv, ← han, ← hav] at C1
              rw [← hun, ← huv, ← hbn, ← hbv] at C2
              have HA := Lib.hid (And.intro han (And.intro hav (And.intro hbn (And.intro hbv (And.intro hln (And.intro hlv (And.intro hun huv)))))))
              have HJ := Lib.hid (And.intro hy (And.intro hyi hks))
              have HZ := Lib.hid (And.intro hz1' hz2')
              have IH := Lib.hid I
              have bd1 : ks.length + 1 ≤ 160401 := by omega
              have bd2 : (ks.length + 1) * 88 ≤ 140737488355328 := by omega
              have BD := Lib.hid (And.intro bd1 bd2)
              have RX := Lib.hid hrx
              have RY := Lib.hid hry
              obtain ⟨_, _, _, _, _, _, _, _, _, _, _, _⟩ := hrx.all
              obtain ⟨_, _, _, _, _, _, _, _, _, _, _, _⟩ := hry.all
              clear hrx hry ex ey hsx hsy hz1' hz2' han hav hbn hbv hln hlv hun huv hy hyi hks bd1 bd2 hkl I
              go_upto_region 13 with (first | (go_at_call 44; with_reducible refine (CX.out _).mono ?_; rintro e w4 ⟨rfl, hb4⟩; have s4 : gy < w4.heap.size := (by have := hb4.size; omega); have RY4 := Lib.hid (RY.out.below hb4); obtain ⟨_, _, _, _, _, _, _, _, _, _, _, _⟩ := RY4.out.all) | (go_at_call 44; with_reducible refine (CY.out _).mono ?_; rintro e w5 ⟨rfl, hb5⟩))
              have A6 := Lib.hid (and_new (an := an) (av := av) (bn := bn) (bv := bv) (ln := ln) (lv := lv) (un := un) (uv := uv) hb4 hb5)
              generalize (w5.alloc (.cells #[.bool ln, .int .u64 (lm lv 0 : Nat), .int .u64 (lm lv 1 : Nat), .int .u64 (lm lv 2 : Nat), .int .u64 (lm lv 3 : Nat)] 31)).alloc (.cells #[.bool un, .int .u64 (lm uv 0 : Nat), .int .u64 (lm uv 1 : Nat), .int .u64 (lm uv 2 : Nat), .int .u64 (lm uv 3 : Nat)] 31) = w6 at *
              obtain ⟨_, _, _, _, _⟩ := A6.out.l0.all
              obtain ⟨_, _, _, _, _⟩ := A6.out.u0.all
              obtain ⟨_, _, _, _, _⟩ := A6.out.l1.all
              obtain ⟨_, _, _, _, _⟩ := A6.out.u1.all
              have n1 := A6.out.ne.1.1
              have n2 := A6.out.ne.1.2
              have n3 := A6.out.ne.2.1.1
              have n4 := A6.out.ne.2.1.2
              have n5 := A6.out.ne.2.2.1
              have n6 := A6.out.ne.2.2.2
              by_cases c1 : 0 < z1
              · go_upto_region 15 with (first | (go_at_call 12; with_reducible refine (C1.out _).mono ?_; rintro e w7 ⟨rfl, hbw7⟩; have A7 := Lib.hid (A6.out.below hbw7); obtain ⟨_, _, _, _, _⟩ := A7.out.l0.all; obtain ⟨_, _, _, _, _⟩ := A7.out.u0.all; obtain ⟨_, _, _, _, _⟩ := A7.out.l1.all; obtain ⟨_, _, _, _, _⟩ := A7.out.u1.all))
                have A8 := Lib.hid (A7.out.setL (m := ln) (V := lv))
                generalize (((((w7.setCell ⟨w4.heap.size, 0, none⟩ (.bool ln)).setCell ⟨w4.heap.size, 1, none⟩ (.int .u64 (lm lv 0 : Nat))).setCell ⟨w4.heap.size, 2, none⟩ (.int .u64 (lm lv 1 : Nat))).setCell ⟨w4.heap.size, 3, none⟩ (.int .u64 (lm lv 2 : Nat))).setCell ⟨w4.heap.size, 4, none⟩ (.int .u64 (lm lv 3 : Nat))) = w8 at *
                obtain ⟨_, _, _, _, _⟩ := A8.out.l0.all
                obtain ⟨_, _, _, _, _⟩ := A8.out.u0.all
                obtain ⟨_, _, _, _, _⟩ := A8.out.l1.all
                obtain ⟨_, _, _, _, _⟩ := A8.out.u1.all
                by_cases c2 : z2 < 0
                · go_upto_region 17 with (first | (go_at_call 12; with_reducible refine (C2.out _).mono ?_; rintro e w9 ⟨rfl, hbw9⟩; have A9 := Lib.hid (A8.out.below hbw9); obtain ⟨_, _, _, _, _⟩ := A9.out.l0.all; obtain ⟨_, _, _, _, _⟩ := A9.out.u0.all; obtain ⟨_, _, _, _, _⟩ := A9.out.l1.all; obtain ⟨_, _, _, _, _⟩ := A9.out.u1.all))
                  have AA := Lib.hid (A9.out.setU (m := un) (V := uv))
                  generalize (((((w9.setCell ⟨w4.heap.size + 1, 0, none⟩ (.bool un)).setCell ⟨w4.heap.size + 1, 1, none⟩ (.int .u64 (lm uv 0 : Nat))).setCell ⟨w4.heap.size + 1, 2, none⟩ (.int .u64 (lm uv 1 : Nat))).setCell ⟨w4.heap.size + 1, 3, none⟩ (.int .u64 (lm uv 2 : Nat))).setCell ⟨w4.heap.size + 1, 4, none⟩ (.int .u64 (lm uv 3 : Nat))) = wA at *
                  obtain ⟨_, _, _, _, _⟩ := AA.out.l0.all
                  obtain ⟨_, _, _, _, _⟩ := AA.out.u0.all
                  obtain ⟨_, _, _, _, _⟩ := AA.out.l1.all
                  obtain ⟨_, _, _, _, _⟩ := AA.out.u1.all
                  obtain ⟨mm, hm1, hm2⟩ : ∃ mm : Cl, mm.lo = y.lo ∧ mm.hi = y.hi := ⟨⟨y.lo, y.hi, y.hl, y.hh⟩, rfl, rfl⟩
                  obtain ⟨z3, hz3⟩ : ∃ z, cmpI (sg mm.lo) (ab mm.lo) (sg mm.hi) (ab mm.hi) = z := ⟨_, rfl⟩
                  have C3 := Lib.hid fun wx => RCmp_any (sg mm.lo) (ab mm.lo) mm.hl (sg mm.hi) (ab mm.hi) mm.hh (mayI_sg _) (mayI_sg _) wx
                  rw [hz3] at C3
                  have CU := Lib.hid (and_cut z1 z2 z3 mm (by rw [if_pos c1]; exact hm1) (by rw [if_pos c2]; exact hm2) HZ.out.1 HZ.out.2 hz3)
                  obtain ⟨yl, yh, yn, yv, ym, yu, hsy⟩ : ∃ yl yh yn yv ym yu, opS mm = ⟨yl, yh, yn, yv, ym, yu⟩ := ⟨_, _, _, _, _, _, rfl⟩
                  have CO := Lib.hid fun wx => ROf_lit hsy wx
                  have HY := Lib.hid hsy
                  have q1 : sg mm.lo = ln ∧ ab mm.lo = lv := by rw [hm1]; exact ⟨HA.out.2.2.2.2.1.symm, HA.out.2.2.2.2.2.1.symm⟩
                  have q2 : sg mm.hi = un ∧ ab mm.hi = uv := by rw [hm2]; exact ⟨HA.out.2.2.2.2.2.2.1.symm, HA.out.2.2.2.2.2.2.2.symm⟩
                  rw [q1.1, q1.2, q2.1, q2.2] at C3 CO
                  clear hz3 hm1 hm2 hsy q1 q2
                  by_cases c3 : z3 ≤ 0
                  · repeat any_goals (first | (go_at_call 12; with_reducible refine (C3.out _).mono ?_; rintro e wB ⟨rfl, hbB⟩; have AB := Lib.hid (AA.out.below hbB); have H8 := Lib.hid AB.out.b; obtain ⟨_, _, _, _, _⟩ := AB.out.l0.all; obtain ⟨_, _, _, _, _⟩ := AB.out.u0.all; obtain ⟨_, _, _, _, _⟩ := AB.out.l1.all; obtain ⟨_, _, _, _, _⟩ := AB.out.u1.all) | (go_at_call 45; with_reducible refine (CO.out _).mono ?_; rintro e wa ⟨rfl, hba⟩; have Ia := Lib.hid ((IH.out.drop H8.out).drop hba)) | (at_builtin; refine wpList_append_any rfl (.tmp 68) (.tmp 72) 22 rfl w3.heap.size 33 i0 (.agg #[.bool false, .bool false, .bool false, .int .u64 0, .int .u64 0, .int .u64 0, .int .u64 0, .bool false, .int .u64 0, .int .u64 0, .int .u64 0, .int .u64 0]) 12 88 Tryd.underlying22 hi hz0 hz1 hz2 rfl (by decide) _ ks.length (encS (ks.map opS)) rfl (Ia.out.o.alloc _) _ 1 [.bool yl, .bool yh, .bool yn, .int .u64 (lm yv 0 : Nat), .int .u64 (lm yv 1 : Nat), .int .u64 (lm yv 2 : Nat), .int .u64 (lm yv 3 : Nat), .bool ym, .int .u64 (lm yu 0 : Nat), .int .u64 (lm yu 1 : Nat), .int .u64 (lm yu 2 : Nat), .int .u64 (lm yu 3 : Nat)] rfl (src_row (row_x (base := w3.heap.size) (W := wa) _ _ _ _ _ _ _ _ _ _ _ _ Ia.out.b.size) twelve_one (by decide)) (by have := BD.out.1; unfold maxLen; omega) (by have := BD.out.2; omega) (by have := Ia.out.b.size; simp; omega) ?_; intro v' w9 hown' hgrow) | go_skip | go_guarded | go_step | go_upon | (dsimp only []))
                    go_roundw
                    case rel => exact ⟨j + 1, ks ++ [mm], by omega, rfl, (Ia.out.drop (below_alloc (Below.refl _ _) _)).keep rfl (by rw [HY.out]; exact hown') hgrow, by
                      rw [List.map_append, HJ.out.2.2, cut_flat HJ.out.2.1, CU.out, if_pos c3, List.append_assoc]
                      rfl⟩
                    case measure => simp [intOf]; omega
                  · repeat any_goals (first | (go_at_call 12; with_reducible refine (C3.out _).mono ?_; rintro e wB ⟨rfl, hbB⟩; have AB := Lib.hid (AA.out.below hbB); have H8 := Lib.hid AB.out.b; obtain ⟨_, _, _, _, _⟩ := AB.out.l0.all; obtain ⟨_, _, _, _, _⟩ := AB.out.u0.all; obtain ⟨_, _, _, _, _⟩ := AB.out.l1.all; obtain ⟨_, _, _, _, _⟩ := AB.out.u1.all) | go_skip | go_guarded | go_step | go_upon | (dsimp only []))
                    go_roundw
                    case rel => exact ⟨j + 1, ks, by omega, rfl, IH.out.drop H8.out, by
                      rw [HJ.out.2.2, cut_flat HJ.out.2.1, CU.out, if_neg c3, List.append_nil]⟩
                    case measure => simp [intOf]; omega
                · go_upto_region 17 with (first | (go_at_call 12; with_reducible refine (C2.out _).mono ?_; rintro e wA ⟨rfl, hbwA⟩; have AA := Lib.hid (A8.out.below hbwA); obtain ⟨_, _, _, _, _⟩ := AA.out.l0.all; obtain ⟨_, _, _, _, _⟩ := AA.out.u0.all; obtain ⟨_, _, _, _, _⟩ := AA.out.l1.all; obtain ⟨_, _, _, _, _⟩ := AA.out.u1.all))
                  obtain ⟨mm, hm1, hm2⟩ : ∃ mm : Cl, mm.lo = y.lo ∧ mm.hi = x.hi := ⟨⟨y.lo, x.hi, y.hl, x.hh⟩, rfl, rfl⟩
                  obtain ⟨z3, hz3⟩ : ∃ z, cmpI (sg mm.lo) (ab mm.lo) (sg mm.hi) (ab mm.hi) = z := ⟨_, rfl⟩
                  have C3 := Lib.hid fun wx => RCmp_any (sg mm.lo) (ab mm.lo) mm.hl (sg mm.hi) (ab mm.hi) mm.hh (mayI_sg _) (mayI_sg _) wx
                  rw [hz3] at C3
                  have CU := Lib.hid (and_cut z1 z2 z3 mm (by rw [if_pos c1]; exact hm1) (by rw [if_neg (show ¬ z2 < 0 by omega)]; exact hm2) HZ.out.1 HZ.out.2 hz3)
                  obtain ⟨yl, yh, yn, yv, ym, yu, hsy⟩ : ∃ yl yh yn yv ym yu, opS mm = ⟨yl, yh, yn, yv, ym, yu⟩ := ⟨_, _, _, _, _, _, rfl⟩
                  have CO := Lib.hid fun wx => ROf_lit hsy wx
                  have HY := Lib.hid hsy
                  have q1 : sg mm.lo = ln ∧ ab mm.lo = lv := by rw [hm1]; exact ⟨HA.out.2.2.2.2.1.symm, HA.out.2.2.2.2.2.1.symm⟩
                  have q2 : sg mm.hi = bn ∧ ab mm.hi = bv := by rw [hm2]; exact ⟨HA.out.2.2.1.symm, HA.out.2.2.2.1.symm⟩
                  rw [q1.1, q1.2, q2.1, q2.2] at C3 CO
                  clear hz3 hm1 hm2 hsy q1 q2
                  by_cases c3 : z3 ≤ 0
                  · repeat any_goals (first | (go_at_call 12; with_reducible refine (C3.out _).mono ?_; rintro e wB ⟨rfl, hbB⟩; have AB := Lib.hid (AA.out.below hbB); have H8 := Lib.hid AB.out.b; obtain ⟨_, _, _, _, _⟩ := AB.out.l0.all; obtain ⟨_, _, _, _, _⟩ := AB.out.u0.all; obtain ⟨_, _, _, _, _⟩ := AB.out.l1.all; obtain ⟨_, _, _, _, _⟩ := AB.out.u1.all) | (go_at_call 45; with_reducible refine (CO.out _).mono ?_; rintro e wa ⟨rfl, hba⟩; have Ia := Lib.hid ((IH.out.drop H8.out).drop hba)) | (at_builtin; refine wpList_append_any rfl (.tmp 68) (.tmp 72) 22 rfl w3.heap.size 33 i0 (.agg #[.bool false, .bool false, .bool false, .int .u64 0, .int .u64 0, .int .u64 0, .int .u64 0, .bool false, .int .u64 0, .int .u64 0, .int .u64 0, .int .u64 0]) 12 88 Tryd.underlying22 hi hz0 hz1 hz2 rfl (by decide) _ ks.length (encS (ks.map opS)) rfl (Ia.out.o.alloc _) _ 1 [.bool yl, .bool yh, .bool yn, .int .u64 (lm yv 0 : Nat), .int .u64 (lm yv 1 : Nat), .int .u64 (lm yv 2 : Nat), .int .u64 (lm yv 3 : Nat), .bool ym, .int .u64 (lm yu 0 : Nat), .int .u64 (lm yu 1 : Nat), .int .u64 (lm yu 2 : Nat), .int .u64 (lm yu 3 : Nat)] rfl (src_row (row_x (base := w3.heap.size) (W := wa) _ _ _ _ _ _ _ _ _ _ _ _ Ia.out.b.size) twelve_one (by decide)) (by have := BD.out.1; unfold maxLen; omega) (by have := BD.out.2; omega) (by have := Ia.out.b.size; simp; omega) ?_; intro v' w9 hown' hgrow) | go_skip | go_guarded | go_step | go_upon | (dsimp only []))
                    go_roundw
                    case rel => exact ⟨j + 1, ks ++ [mm], by omega, rfl, (Ia.out.drop (below_alloc (Below.refl _ _) _)).keep rfl (by rw [HY.out]; exact hown') hgrow, by
                      rw [List.map_append, HJ.out.2.2, cut_flat HJ.out.2.1, CU.out, if_pos c3, List.append_assoc]
                      rfl⟩
                    case measure => simp [intOf]; omega
                  · repeat any_goals (first | (go_at_call 12; with_reducible refine (C3.out _).mono ?_; rintro e wB ⟨rfl, hbB⟩; have AB := Lib.hid (AA.out.below hbB); have H8 := Lib.hid AB.out.b; obtain ⟨_, _, _, _, _⟩ := AB.out.l0.all; obtain ⟨_, _, _, _, _⟩ := AB.out.u0.all; obtain ⟨_, _, _, _, _⟩ := AB.out.l1.all; obtain ⟨_, _, _, _, _⟩ := AB.out.u1.all) | go_skip | go_guarded | go_step | go_upon | (dsimp only []))
                    go_roundw
                    case rel => exact ⟨j + 1, ks, by omega, rfl, IH.out.drop H8.out, by
                      rw [HJ.out.2.2, cut_flat HJ.out.2.1, CU.out, if_neg c3, List.append_nil]⟩
                    case measure => simp [intOf]; omega
              · go_upto_region 15 with (first | (go_at_call 12; with_reducible refine (C1.out _).mono ?_; rintro e w8 ⟨rfl, hbw8⟩; have A8 := Lib.hid (A6.out.below hbw8); obtain ⟨_, _, _, _, _⟩ := A8.out.l0.all; obtain ⟨_, _, _, _, _⟩ := A8.out.u0.all; obtain ⟨_, _, _, _, _⟩ := A8.out.l1.all; obtain ⟨_, _, _, _, _⟩ := A8.out.u1.all))
                by_cases c2 : z2 < 0
                · go_upto_region 17 with (first | (go_at_call 12; with_reducible refine (C2.out _).mono ?_; rintro e w9 ⟨rfl, hbw9⟩; have A9 := Lib.hid (A8.out.below hbw9); obtain ⟨_, _, _, _, _⟩ := A9.out.l0.all; obtain ⟨_, _, _, _, _⟩ := A9.out.u0.all; obtain ⟨_, _, _, _, _⟩ := A9.out.l1.all; obtain ⟨_, _, _, _, _⟩ := A9.out.u1.all))
                  have AA := Lib.hid (A9.out.setU (m := un) (V := uv))
                  generalize (((((w9.setCell ⟨w4.heap.size + 1, 0, none⟩ (.bool un)).setCell ⟨w4.heap.size + 1, 1, none⟩ (.int .u64 (lm uv 0 : Nat))).setCell ⟨w4.heap.size + 1, 2, none⟩ (.int .u64 (lm uv 1 : Nat))).setCell ⟨w4.heap.size + 1, 3, none⟩ (.int .u64 (lm uv 2 : Nat))).setCell ⟨w4.heap.size + 1, 4, none⟩ (.int .u64 (lm uv 3 : Nat))) = wA at *
                  obtain ⟨_, _, _, _, _⟩ := AA.out.l0.all
                  obtain ⟨_, _, _, _, _⟩ := AA.out.u0.all
                  obtain ⟨_, _, _, _, _⟩ := AA.out.l1.all
                  obtain ⟨_, _, _, _, _⟩ := AA.out.u1.all
                  obtain ⟨mm, hm1, hm2⟩ : ∃ mm : Cl, mm.lo = x.lo ∧ mm.hi = y.hi := ⟨⟨x.lo, y.hi, x.hl, y.hh⟩, rfl, rfl⟩
                  obtain ⟨z3, hz3⟩ : ∃ z, cmpI (sg mm.lo) (ab mm.lo) (sg mm.hi) (ab mm.hi) = z := ⟨_, rfl⟩
                  have C3 := Lib.hid fun wx => RCmp_any (sg mm.lo) (ab mm.lo) mm.hl (sg mm.hi) (ab mm.hi) mm.hh (mayI_sg _) (mayI_sg _) wx
                  rw [hz3] at C3
                  have CU := Lib.hid (and_cut z1 z2 z3 mm (by rw [if_neg (show ¬ 0 < z1 by omega)]; exact hm1) (by rw [if_pos c2]; exact hm2) HZ.out.1 HZ.out.2 hz3)
                  obtain ⟨yl, yh, yn, yv, ym, yu, hsy⟩ : ∃ yl yh yn yv ym yu, opS mm = ⟨yl, yh, yn, yv, ym, yu⟩ := ⟨_, _, _, _, _, _, rfl⟩
                  have CO := Lib.hid fun wx => ROf_lit hsy wx
                  have HY := Lib.hid hsy
                  have q1 : sg mm.lo = an ∧ ab mm.lo = av := by rw [hm1]; exact ⟨HA.out.1.symm, HA.out.2.1.symm⟩
                  have q2 : sg mm.hi = un ∧ ab mm.hi = uv := by rw [hm2]; exact ⟨HA.out.2.2.2.2.2.2.1.symm, HA.out.2.2.2.2.2.2.2.symm⟩
                  rw [q1.1, q1.2, q2.1, q2.2] at C3 CO
                  clear hz3 hm1 hm2 hsy q1 q2
                  by_cases c3 : z3 ≤ 0
                  · repeat any_goals (first | (go_at_call 12; with_reducible refine (C3.out _).mono ?_; rintro e wB ⟨rfl, hbB⟩; have AB := Lib.hid (AA.out.below hbB); have H8 := Lib.hid AB.out.b; obtain ⟨_, _, _, _, _⟩ := AB.out.l0.all; obtain ⟨_, _, _, _, _⟩ := AB.out.u0.all; obtain ⟨_, _, _, _, _⟩ := AB.out.l1.all; obtain ⟨_, _, _, _, _⟩ := AB.out.u1.all) | (go_at_call 45; with_reducible refine (CO.out _).mono ?_; rintro e wa ⟨rfl, hba⟩; have Ia := Lib.hid ((IH.out.drop H8.out).drop hba)) | (at_builtin; refine wpList_append_any rfl (.tmp 68) (.tmp 72) 22 rfl w3.heap.size 33 i0 (.agg #[.bool false, .bool false, .bool false, .int .u64 0, .int .u64 0, .int .u64 0, .int .u64 0, .bool false, .int .u64 0, .int .u64 0, .int .u64 0, .int .u64 0]) 12 88 Tryd.underlying22 hi hz0 hz1 hz2 rfl (by decide) _ ks.length (encS (ks.map opS)) rfl (Ia.out.o.alloc _) _ 1 [.bool yl, .bool yh, .bool yn, .int .u64 (lm yv 0 : Nat), .int .u64 (lm yv 1 : Nat), .int .u64 (lm yv 2 : Nat), .int .u64 (lm yv 3 : Nat), .bool ym, .int .u64 (lm yu 0 : Nat), .int .u64 (lm yu 1 : Nat), .int .u64 (lm yu 2 : Nat), .int .u64 (lm yu 3 : Nat)] rfl (src_row (row_x (base := w3.heap.size) (W := wa) _ _ _ _ _ _ _ _ _ _ _ _ Ia.out.b.size) twelve_one (by decide)) (by have := BD.out.1; unfold maxLen; omega) (by have := BD.out.2; omega) (by have := Ia.out.b.size; simp; omega) ?_; intro v' w9 hown' hgrow) | go_skip | go_guarded | go_step | go_upon | (dsimp only []))
                    go_roundw
                    case rel => exact ⟨j + 1, ks ++ [mm], by omega, rfl, (Ia.out.drop (below_alloc (Below.refl _ _) _)).keep rfl (by rw [HY.out]; exact hown') hgrow, by
                      rw [List.map_append, HJ.out.2.2, cut_flat HJ.out.2.1, CU.out, if_pos c3, List.append_assoc]
                      rfl⟩
                    case measure => simp [intOf]; omega
                  · repeat any_goals (first | (go_at_call 12; with_reducible refine (C3.out _).mono ?_; rintro e wB ⟨rfl, hbB⟩; have AB := Lib.hid (AA.out.below hbB); have H8 := Lib.hid AB.out.b; obtain ⟨_, _, _, _, _⟩ := AB.out.l0.all; obtain ⟨_, _, _, _, _⟩ := AB.out.u0.all; obtain ⟨_, _, _, _, _⟩ := AB.out.l1.all; obtain ⟨_, _, _, _, _⟩ := AB.out.u1.all) | go_skip | go_guarded | go_step | go_upon | (dsimp only []))
                    go_roundw
                    case rel => exact ⟨j + 1, ks, by omega, rfl, IH.out.drop H8.out, by
                      rw [HJ.out.2.2, cut_flat HJ.out.2.1, CU.out, if_neg c3, List.append_nil]⟩
                    case measure => simp [intOf]; omega
                · go_upto_region 17 with (first | (go_at_call 12; with_reducible refine (C2.out _).mono ?_; rintro e wA ⟨rfl, hbwA⟩; have AA := Lib.hid (A8.out.below hbwA); obtain ⟨_, _, _, _, _⟩ := AA.out.l0.all; obtain ⟨_, _, _, _, _⟩ := AA.out.u0.all; obtain ⟨_, _, _, _, _⟩ := AA.out.l1.all; obtain ⟨_, _, _, _, _⟩ := AA.out.u1.all))
                  obtain ⟨mm, hm1, hm2⟩ : ∃ mm : Cl, mm.lo = x.lo ∧ mm.hi = x.hi := ⟨⟨x.lo, x.hi, x.hl, x.hh⟩, rfl, rfl⟩
                  obtain ⟨z3, hz3⟩ : ∃ z, cmpI (sg mm.lo) (ab mm.lo) (sg mm.hi) (ab mm.hi) = z := ⟨_, rfl⟩
                  have C3 := Lib.hid fun wx => RCmp_any (sg mm.lo) (ab mm.lo) mm.hl (sg mm.hi) (ab mm.hi) mm.hh (mayI_sg _) (mayI_sg _) wx
                  rw [hz3] at C3
                  have CU := Lib.hid (and_cut z1 z2 z3 mm (by rw [if_neg (show ¬ 0 < z1 by omega)]; exact hm1) (by rw [if_neg (show ¬ z2 < 0 by omega)]; exact hm2) HZ.out.1 HZ.out.2 hz3)
                  obtain ⟨yl, yh, yn, yv, ym, yu, hsy⟩ : ∃ yl yh yn yv ym yu, opS mm = ⟨yl, yh, yn, yv, ym, yu⟩ := ⟨_, _, _, _, _, _, rfl⟩
                  have CO := Lib.hid fun wx => ROf_lit hsy wx
                  have HY := Lib.hid hsy
                  have q1 : sg mm.lo = an ∧ ab mm.lo = av := by rw [hm1]; exact ⟨HA.out.1.symm, HA.out.2.1.symm⟩
                  have q2 : sg mm.hi = bn ∧ ab mm.hi = bv := by rw [hm2]; exact ⟨HA.out.2.2.1.symm, HA.out.2.2.2.1.symm⟩
                  rw [q1.1, q1.2, q2.1, q2.2] at C3 CO
                  clear hz3 hm1 hm2 hsy q1 q2
                  by_cases c3 : z3 ≤ 0
                  · repeat any_goals (first | (go_at_call 12; with_reducible refine (C3.out _).mono ?_; rintro e wB ⟨rfl, hbB⟩; have AB := Lib.hid (AA.out.below hbB); have H8 := Lib.hid AB.out.b; obtain ⟨_, _, _, _, _⟩ := AB.out.l0.all; obtain ⟨_, _, _, _, _⟩ := AB.out.u0.all; obtain ⟨_, _, _, _, _⟩ := AB.out.l1.all; obtain ⟨_, _, _, _, _⟩ := AB.out.u1.all) | (go_at_call 45; with_reducible refine (CO.out _).mono ?_; rintro e wa ⟨rfl, hba⟩; have Ia := Lib.hid ((IH.out.drop H8.out).drop hba)) | (at_builtin; refine wpList_append_any rfl (.tmp 68) (.tmp 72) 22 rfl w3.heap.size 33 i0 (.agg #[.bool false, .bool false, .bool false, .int .u64 0, .int .u64 0, .int .u64 0, .int .u64 0, .bool false, .int .u64 0, .int .u64 0, .int .u64 0, .int .u64 0]) 12 88 Tryd.underlying22 hi hz0 hz1 hz2 rfl (by decide) _ ks.length (encS (ks.map opS)) rfl (Ia.out.o.alloc _) _ 1 [.bool yl, .bool yh, .bool yn, .int .u64 (lm yv 0 : Nat), .int .u64 (lm yv 1 : Nat), .int .u64 (lm yv 2 : Nat), .int .u64 (lm yv 3 : Nat), .bool ym, .int .u64 (lm yu 0 : Nat), .int .u64 (lm yu 1 : Nat), .int .u64 (lm yu 2 : Nat), .int .u64 (lm yu 3 : Nat)] rfl (src_row (row_x (base := w3.heap.size) (W := wa) _ _ _ _ _ _ _ _ _ _ _ _ Ia.out.b.size) twelve_one (by decide)) (by have := BD.out.1; unfold maxLen; omega) (by have := BD.out.2; omega) (by have := Ia.out.b.size; simp; omega) ?_; intro v' w9 hown' hgrow) | go_skip | go_guarded | go_step | go_upon | (dsimp only []))
                    go_roundw
                    case rel => exact ⟨j + 1, ks ++ [mm], by omega, rfl, (Ia.out.drop (below_alloc (Below.refl _ _) _)).keep rfl (by rw [HY.out]; exact hown') hgrow, by
                      rw [List.map_append, HJ.out.2.2, cut_flat HJ.out.2.1, CU.out, if_pos c3, List.append_assoc]
                      rfl⟩
                    case measure => simp [intOf]; omega
                  · repeat any_goals (first | (go_at_call 12; with_reducible refine (C3.out _).mono ?_; rintro e wB ⟨rfl, hbB⟩; have AB := Lib.hid (AA.out.below hbB); have H8 := Lib.hid AB.out.b; obtain ⟨_, _, _, _, _⟩ := AB.out.l0.all; obtain ⟨_, _, _, _, _⟩ := AB.out.u0.all; obtain ⟨_, _, _, _, _⟩ := AB.out.l1.all; obtain ⟨_, _, _, _, _⟩ := AB.out.u1.all) | go_skip | go_guarded | go_step | go_upon | (dsimp only []))
                    go_roundw
                    case rel => exact ⟨j + 1, ks, by omega, rfl, IH.out.drop H8.out, by
                      rw [HJ.out.2.2, cut_flat HJ.out.2.1, CU.out, if_neg c3, List.append_nil]⟩
                    case measure => simp [intOf]; omega
            · have hj' : j = m := by omega
              subst hj'
              have j1 : ¬ (j : Int) < (j : Int) := by omega
              have hfin : ks.map Cl.iv = crossL ((l1.map Cl.iv).take (k + 1)) (l2.map Cl.iv) := by
                have ht : (l2.map Cl.iv).take j = l2.map Cl.iv := List.take_of_length_le (by rw [List.length_map, ← HL.out.2]; exact Nat.le_refl _)
                rw [hks, cross_step HK.out.2.1, ht]
              have IH := Lib.hid I
              have HF := Lib.hid hfin
              clear I hfin hks
              repeat any_goals (first | go_skip | go_guarded | go_step | go_upon | (simp only []; done))
              go_roundw
              case rel => exact ⟨k + 1, ks, by omega, rfl, IH.out, HF.out⟩
              case measure => simp [intOf]; omega
        · have hk' : k = n := by omega
          have i1 : ¬ (k : Int) < (n : Int) := by omega
          have hx : ks0.map Cl.iv = crossL (l1.map Cl.iv) (l2.map Cl.iv) := by
            rw [hks, List.take_of_length_le (by rw [List.length_map, ← HL.out.1, hk']; exact Nat.le_refl _)]
          have sp := crossL_spec _ _ F1.out.nf F2.out.nf
          have SF : SetF ks0 (fun z => InS S n0 z ∧ InS T m0 z) := ⟨by rw [hx]; exact sp.1, fun z => by rw [hx, sp.2.2 z, F1.out.mem, F2.out.mem]⟩
          have hkl : ks0.length ≤ 160000 := by
            have e := congrArg List.length hx
            rw [List.length_map] at e
            have e1 := cross_len (l1.map Cl.iv) (l2.map Cl.iv)
            rw [List.length_map, List.length_map, ← HL.out.1, ← HL.out.2] at e1
            have e3 : n * m ≤ 400 * 400 := Nat.mul_le_mul hn4 hm4
            omega
          have HSF := Lib.hid SF
          have O := Lib.hid (I0.o.mono (base' := w.heap.size) HBW.out.size)
          have B := Lib.hid (HBW.out.trans (below_weak I0.b HBW.out.size))
          clear sp SF hx hks I0
          repeat any_goals (first | go_skip | go_guarded | go_step | go_upon | (simp only []; done))
          exact bodyPost_ret (v := u5) (by simp [results, Tryd.results25, go_sem]) rfl ⟨_, rfl, ks0, HSF.out.congr (fun z => ⟨fun x => ⟨HR.out.1.symm, HR.out.2.symm, x⟩, fun x => x.2.2⟩), hkl, O.out, B.out⟩
end Go.Proofs.YtekeedjhaakbhaaDoor
